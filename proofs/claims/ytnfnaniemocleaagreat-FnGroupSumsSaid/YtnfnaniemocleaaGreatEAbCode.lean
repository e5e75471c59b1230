/- . -/
import Derived.Test.YtnfnaniemocleaaGreatEAbDefs
import Derived.Deep.LoopGhost
import Derived.Deep.Matrix
import Derived.Carry
import Derived.ChangeSame
import Derived.OpenShut
set_option maxRecDepth 100000
set_option linter.unusedSimpArgs false
set_option linter.unusedVariables false
set_option linter.defProp false
namespace Go.Ab
end Go.Ab
namespace Go.Ab
variable{B HI hi iJ lo n n' t:Nat}
section
open Go.RowKit
inductive IC where
 |skip
 |region (S:List Nat) (bc:List II)
 |draw (S:List Nat) (zs:List (List AV)) (bc:List DI)
 |tree (S:List Nat) (t:OT)
 |seq (a b:IC)
 |cond (c:IX) (a b:IC)
 |block (id:Nat) (c:IC)
 |loop (S:List Nat) (c:IC)
 |exit (id:Nat)
 |ret
def Env.mk:List Nat->List AV->Env
 |s::S,v::vs=>λt=>if t=s then v else Env.mk S vs t
 |_,_=>λ_=>.undef
def AHeap.news(h:AHeap):List (List AV)->AHeap
 |[]=>h
 |z::zs=>(h.new ⟨true,z⟩).news zs
def vc(P:Program):IC->(Exit->Env->AHeap->Prop)->Env->AHeap->Prop
 | .skip,Q,e,h=>Q .normal e h
 | .region S bc,Q,e,h=>RV P bc e h λe' h'=>Q .normal (Env.mk S (S.map e')) h'
 | .draw S zs bc,Q,e,h=>DV P h.next bc [] e (h.news zs) λe' h'=>Q .normal (Env.mk S (S.map e')) h'
 | .tree S t,Q,e,h=>TV P t [] e h λe' h'=>Q .normal (Env.mk S (S.map e')) h'
 | .seq a b,Q,e,h=>vc P a (λx e' h'=>match x with | .normal=>vc P b Q e' h'|x=>Q x e' h') e h
 | .cond c a b,Q,e,h=>match c.ev e with
  | .bool t=>if t=true then vc P a Q e h else vc P b Q e h
  |_=>False
 | .block id c,Q,e,h=>vc P c (λx e' h'=>match x with | .exit lK=>if lK=id then Q .normal e' h' else Q (.exit lK) e' h'|x=>Q x e' h') e h
 | .loop S c,Q,e,h=>∃I:Nat->List AV->AHeap->Prop,(∃n,I n (S.map e) h)/\
   ∀n vs h,I n vs h->vc P c (λx e' h'=>match x with | .normal=>∃n',n'<n/\I n' (S.map e') h'|x=>Q x e' h') (Env.mk S vs) h
 | .exit id,Q,e,h=>Q (.exit id) e h
 | .ret,Q,e,h=>Q .ret e h
def insS(x:Nat):List Nat->List Nat
 |[]=>[x]
 |y::r=>if x<y then x::y::r else if x=y then y::r else y::insS x r
def zCR(a b:List Nat):List Nat:=a.foldr insS b
def zIL(l:List Operand):List Nat:=l.filterMap λ| .tmp t=>some t|_=>none
def zNO(ops:Array Oper)(o:Oper):List Nat:=
 zIL o.op.operands.toList++(match o.guard with|some (k,_)=>((ops[k]?).bind (·.dst)).toList|none=>[])
def lvOps(ops:Array Oper):List Oper->List Nat->List Nat
 |[],out=>out
 |o::r,out=>
  let l:=lvOps ops r out
  let l:=match o.dst with|some d=>l.filter (· != d)|none=>l
  zCR (zNO ops o) l
def exitL(id:Nat):List (Nat×List Nat)->List Nat
 |[]=>[]
 |(i,l)::r=>if i=id then l else exitL id r
def lv:Code->List Nat->List (Nat×List Nat)->List Nat->List Nat
 | .region _ ops _,out,_,_=>lvOps ops ops.toList out
 | .seq a b,out,ex,rt=>lv a (lv b out ex rt) ex rt
 | .cond c a b,out,ex,rt=>zCR (zIL [c]) (zCR (lv a out ex rt) (lv b out ex rt))
 | .block id c,out,ex,rt=>lv c out ((id,out)::ex) rt
 | .loop c,_,ex,rt=>lv c [] ex rt
 | .exit id,_,ex,_=>exitL id ex
 | .ret,_,_,rt=>rt
 | .scope c,out,ex,rt=>lv c out ex rt
 |_,out,_,_=>out
def mkPt(ops:Array Oper):List (List Nat):=
 ops.toList.foldl (λu o=>u++[(qX o).foldl (λl d=>zCR (insS d (u.getD d [])) l) []]) []
def zNm(P:Program)(al:Bool)(o:Oper):Bool:=
 match o.op with
 | .alloc _=>true
 | .buildSlice _ _ _=>(cNew P al o).isSome
 |op=>(copQ P op).isSome
def zGj(l:List (List Nat))(u:List Bool):Nat->List Nat->List Nat->List Nat
 |0,_,done=>done
 |fuel+1,rem,done=>
  let ready:=rem.filter λi=>(l.getD i []).all λx=>done.contains x
  match ready.find? (λi=>u.getD i false)with
  |some i=>zGj l u fuel (rem.filter (· != i)) (done++[i])
  |none=>match ready with
   |i::_=>zGj l u fuel (rem.filter (· != i)) (done++[i])
   |[]=>done
def zGO(P:Program)(nt:Nat)(ops:Array Oper)(al:Bool):Option (List DI×List (List AV)):=
 let pt:=mkPt ops
 let order:=zGj pt (ops.toList.map (zNm P al)) ops.size (List.range ops.size) []
 (cDIs P nt ops pt al order [] 0).bind λx=>if dOk ops pt order x.1=true then some x else none
def cDraw(P:Program)(nt:Nat)(ops:Array Oper):Option (List DI×List (List AV)):=
 match zGO P nt ops false with
 |some x=>some x
 |none=>zGO P nt ops true
def cTree(P:Program)(nt:Nat)(ops:Array Oper):Option OT:=
 if (ops.toList.filter λo=>(copQ P o.op).isNone).length<=6/\ptOk ops (mkPt ops)=true then mkT P nt ops (mkPt ops) ops.size (Array.replicate ops.size false) []else none
def deadI:II:=⟨none,.extract (.c (.bool false)) 0,true,none⟩
def zQQ(o:Oper):Bool:=
 match o.op with
 | .panic _=>true
 |_=>false
def cC(P:Program)(nt:Nat):Code->List Nat->List (Nat×List Nat)->List Nat->Option (IC×List Nat)
 | .skip,out,_,_ | .label _,out,_,_=>some (.skip,out)
 | .region _ ops false,out,_,_=>if ops.toList.any zQQ=true then some (.region [] [deadI],[])else(zGN P nt ops ops.toList).map λl=>(.region out l,lvOps ops ops.toList out)
 | .region _ ops true,out,_,_=>match cDraw P nt ops with
  |some x=>some (.draw out x.2 x.1,lvOps ops ops.toList out)
  |none=>(cTree P nt ops).map λt=>(.tree out t,lvOps ops ops.toList out)
 | .seq a b,out,ex,rt=>(cC P nt b out ex rt).bind λy=>(cC P nt a y.2 ex rt).map λx=>(.seq x.1 y.1,x.2)
 | .cond c a b,out,ex,rt=>(cx c).bind λu=>(cC P nt a out ex rt).bind λx=>(cC P nt b out ex rt).map λy=>(.cond u x.1 y.1,zCR (zIL [c]) (zCR x.2 y.2))
 | .block id c,out,ex,rt=>(cC P nt c out ((id,out)::ex) rt).map λx=>(.block id x.1,x.2)
 | .loop c,_,ex,rt=>
  let X:=lv c [] ex rt
  (cC P nt c X ex rt).map λx=>(.loop X x.1,X)
 | .exit id,_,ex,_=>some (.exit id,exitL id ex)
 | .ret,_,_,rt=>some (.ret,rt)
 |_,_,_,_=>none
variable{P:Program}{B:Nat}{w0 w:World}{j:Inj}{h h':AHeap}{nt nb:Nat}{e e':Env}{a:Act}{ops:Array Oper}
theorem Env.mk_map(e:Env):∀(S:List Nat) (t:Nat),Env.mk S (S.map e) t=e t\/Env.mk S (S.map e) t=.undef
 |[],t=>.inr rfl
 |s::S,t=>by
  simp only[YO,Env.mk];by_cases hs:t=s
  .subst hs;rw[if_pos rfl];exact .inl rfl
  .rw[if_neg hs];exact Env.mk_map e S t
theorem ER.trim(r:ER nt j e a)(S:List Nat):ER nt j (Env.mk S (S.map e)) a:=by
 refine⟨λt=>?_,r.size,r.defers⟩;rcases Env.mk_map e S t with x|x
 .rw[x];exact r.vals t
 .rw[x];trivial
theorem MR.pend(m:MR B w0 j h w)(S:AObj):MR B w0 j (h.new S) w:=by
 have E:j h.next=none:=(m.fresh h.next (na _)).2;refine⟨m.below,m.bnd,λo A=>?_,λo N l A u=>?_,λo I x T l O C A G u D M=>?_⟩
 .simp only[AHeap.new]at A ⊢;rw[if_neg (by omega)];exact m.fresh o (by omega)
 .have C:o≠h.next:=λy=>by rw[y,E]at u;cases u
  simp only[AHeap.new,if_neg C]at A;exact m.obj o N l A u
 .have h1:o≠h.next:=λy=>by rw[y,E]at u;cases u
  have J:I≠h.next:=λy=>by rw[y,E]at D;cases D
  simp only[AHeap.new,if_neg h1]at A;simp only[AHeap.new,if_neg J]at G;exact m.apart o I x T l O C A G u D M
theorem zG6:∀(zs:List (List AV)) {h:AHeap},MR B w0 j h w->MR B w0 j (h.news zs) w/\(h.news zs).next=h.next+zs.length/\(∀o,o<h.next->(h.news zs).obj o=h.obj o)/\
  (∀k z,zs[k]? = some z->(h.news zs).obj (h.next+k)=some ⟨true,z⟩)/\∀k,k<zs.length->j (h.next+k)=none
 |[],h,m=>⟨m,rfl,λ_ _=>rfl,λk z I=>by simp at I,λk C=>by simp at C⟩
 |z::zs,h,m=>by
  obtain⟨D,E,A,G,J⟩:=zG6 zs (m.pend ⟨true,z⟩);refine⟨D,?_,λo M=>?_,λk u l=>?_,λk C=>?_⟩
  .show((h.new ⟨true,z⟩).news zs).next=_
   rw[E];simp only[AHeap.new,YS];omega
  .simp only[AHeap.news];rw[A o (by simp only[AHeap.new];omega)];simp only[AHeap.new];rw[if_neg (by omega)]
  .simp only[AHeap.news];cases k with
   |zero=>
    simp at l;subst l;rw[A _ (by simp[AHeap.new])];simp[AHeap.new]
   |succ k=>
    have:=G k u (by simpa using l)
    simp only[AHeap.new]at this;rw[<-this];congr 1;omega
  .exact(m.fresh _ (Nat.le_add_right _ _)).2
def Post(B:Nat)(w0:World)(nt:Nat)(j:Inj)(h:AHeap)(Q:Exit->Env->AHeap->Prop):Exit->Act->World->Prop:=λx a' u=>
 ∃l h' e',FR j h l h'/\MR B w0 l h' u/\ER nt l e' a'/\Q x e' h'
theorem zEy(X:P.follows .mixedOrders=true){id:Nat}{l:List DI}{zs:List (List AV)}{al:Bool}(u:zGO P nt ops al=some (l,zs))(m:MR B w0 j h w)(r:ER nt j e a){S:List Nat}{Q:Exit->Env->AHeap->Prop}
  (C:DV P h.next l [] e (h.news zs) λe' h'=>Q .normal (Env.mk S (S.map e')) h'):(Code.region id ops true).wp P (Post B w0 nt j h Q) a w:=by
 simp only[zGO,YZ]at u;obtain⟨⟨sT,wJ⟩,kF,u⟩:=u;split at u
 .rename_i hd;cases u;simp only[dOk,Y6,beq_iff_eq,decide_eq_true_eq]at hd;obtain⟨⟨⟨⟨⟨⟨U,E⟩,nL⟩,hlen⟩,G⟩,gZ⟩,mc⟩:=hd;obtain⟨J,tI⟩:=zD1 _ [] 0 kF [] rfl;obtain⟨m1,N,n2,n3,n4⟩:=zG6 zs m.drew;have yL:(l.map (·.idx)).length=ops.size:=by rw[E];exact hlen
  refine wp_region_any X ?_;have yv:∀i,i<ops.size->((Array.replicate ops.size false).getD i true=false↔∃it∈l,it.idx=i):=by
   intro i hi;have h1:(Array.replicate ops.size false).getD i true=false:=by simp[Array.getD_eq_getD_getElem?,hi]
   refine⟨λ_=>?_,λ_=>h1⟩;have V:i∈l.map (·.idx):=by
    rw[E];rw[List.all_eq_true]at G;exact List.contains_iff_mem.1 (G i (by simpa using hi))
   obtain⟨it,A,he⟩:=Yj.1 V;exact⟨it,A,he⟩
  refine zIy (zs:=zs) (js:=j) (hs:=h) (nb:=h.next) (K:=λe' h'=>Q .normal (Env.mk S (S.map e')) h') rfl U ?_ ops.size _ l (by simpa using yL) (by simp) yv (zFB gZ) (zFB mc) (by rw[E];exact nL) tI ?_
   (λit A=>by simpa using (J it A).1) ?_ m1 r C ⟨by rw[N];omega,λ_ _=>rfl,λo M _=>n2 o M⟩
  .intro j' h' e' a' w' hf hm hr hq;exact⟨j',h',_,hf,hm,hr.trim S,hq⟩
  .intro i hi aN;rw[(show(Array.replicate ops.size false).getD i true=false from by simp[Array.getD_eq_getD_getElem?,hi])]at aN;cases aN
  .intro it A k C;obtain⟨o,M,T⟩:=(J it A).1;rcases T with ⟨_,tM⟩|⟨k',O,I,D,_⟩
   .rw[tM]at C;cases C
   .rw[C]at I;cases I;simp only[Ys]at D;have Y:k<zs.length:=(Yn.1 D).1;exact⟨by rw[N];omega,n4 k Y,O,D,n3 k O D⟩
 .cases u
theorem zMG(A:P.follows .mixedOrders=true){id:Nat}{u:List DI}{zs:List (List AV)}(l:cDraw P nt ops=some (u,zs))(m:MR B w0 j h w)(r:ER nt j e a){S:List Nat}{Q:Exit->Env->AHeap->Prop}
  (C:DV P h.next u [] e (h.news zs) λe' h'=>Q .normal (Env.mk S (S.map e')) h'):(Code.region id ops true).wp P (Post B w0 nt j h Q) a w:=by
 unfold cDraw at l;split at l
 .rename_i x D;cases l;exact zEy A D m r C
 .exact zEy A l m r C
theorem TInv.start:TInv P nt ops (mkPt ops) (Array.replicate ops.size false) (Array.replicate ops.size false) [] []:=by
 have g:∀i,i<ops.size->(Array.replicate ops.size false).getD i true=false:=λi hi=>by
  simp[Array.getD_eq_getD_getElem?,Array.getElem?_replicate,hi]
 exact⟨by simp,by simp,λi hi=>by simp,λq l=>absurd l (Yp),λq l=>absurd l (Yp),λq l=>absurd l (Yp),.nil,by simp,λq l=>absurd l (Yp),
  λi hi h=>(by rw[g i hi]at h;cases h),λi hi h=>(by rw[g i hi]at h;cases h),.nil⟩
theorem Qw(J:P.follows .mixedOrders=true):∀(c:Code) (out:List Nat) (G:List (Nat×List Nat)) (rt:List Nat) {I:IC} {X:List Nat},cC P nt c out G rt=some (I,X)->
  ∀{B:Nat} {w0:World} {j:Inj} {h:AHeap} {w:World} {e:Env} {a:Act} {Q:Exit->Env->AHeap->Prop},MR B w0 j h w->ER nt j e a->vc P I Q e h->c.wp P (Post B w0 nt j h Q) a w
 | .skip,out,G,rt,I,X,hc,B,w0,j,h,w,e,a,Q,m,r,hk=>by
  cases hc;exact wp_skip ⟨j,h,e,FR.refl _ _,m,r,hk⟩
 | .label l,out,G,rt,I,X,hc,B,w0,j,h,w,e,a,Q,m,r,hk=>by
  cases hc;exact wp_label ⟨j,h,e,FR.refl _ _,m,r,hk⟩
 | .region id ops false,out,G,rt,I,X,hc,B,w0,j,h,w,e,a,Q,m,r,hk=>by
  simp only[cC]at hc;split at hc
  .cases hc;obtain⟨v,hv,_⟩:=hk;cases hv
  simp only[YJ,Yt]at hc;obtain⟨bc,kF,rfl,rfl⟩:=hc;refine wp_region ?_;rw[List.range_eq_range']
  have:=zFa (Q:=Post B w0 nt j h Q) ops.toList bc 0 kF rfl m r hk ?_
  .simpa using this
  .intro C h' e' a' w' A D E u;exact⟨C,h',_,A,D,E.trim out,u⟩
 | .region id ops true,out,G,rt,I,X,hc,B,w0,j,h,w,e,a,Q,m,r,hk=>by
  simp only[cC]at hc;split at hc
  .rename_i x hx;cases hc;exact zMG J hx m r hk
  .simp only[YJ,Yt]at hc;obtain⟨t,V,rfl,rfl⟩:=hc;unfold cTree at V;split at V
   .rename_i cE;refine wp_region_any J ?_;exact zPd (K:=λe' h'=>Q .normal (Env.mk out (out.map e')) h') cE.2 (λC h' e' a' w' A D E u=>⟨C,h',_,A,D,E.trim out,u⟩) _ ops.size _ _ [] [] rfl TInv.start V m.drew r (FR.refl _ _) hk
   .cases V
 | .seq c d,out,G,rt,I,X,hc,B,w0,j,h,w,e,a,Q,m,r,hk=>by
  simp only[cC,YZ,YJ,Yt]at hc;obtain⟨⟨id,Y⟩,hd,⟨ia,X'⟩,U,rfl,rfl⟩:=hc;refine wp_seq (wp_mono (Qw J c _ G rt U m r hk) ?_)
  rintro x a' w' ⟨C,h',e',A,D,E,u⟩
  cases x with
  |normal=>
   refine wp_mono (Qw J d out G rt hd D E u) ?_
   rintro y nR C8 ⟨N,dZ,T,M,O,S,aR⟩
   exact⟨N,dZ,T,A.trans M,O,S,aR⟩
  |exit id=>exact⟨C,h',e',A,D,E,u⟩
  |goto l=>exact⟨C,h',e',A,D,E,u⟩
  |ret=>exact⟨C,h',e',A,D,E,u⟩
  |panic ch=>exact⟨C,h',e',A,D,E,u⟩
  |outgrown=>exact⟨C,h',e',A,D,E,u⟩
 | .cond c x y,out,G,rt,I,X,hc,B,w0,j,h,w,e,a,Q,m,r,hk=>by
  simp only[cC,YZ,YJ,Yt]at hc;obtain⟨ix,hx,⟨ia,Xa⟩,U,⟨ib,Xb⟩,hb,rfl,rfl⟩:=hc;simp only[vc]at hk;have hv:=zN r hx;split at hk
  .rename_i t V;rw[V]at hv;refine wp_cond (t:=t) hv ?_;cases t with
   |true=>rw[if_pos rfl]at hk ⊢;exact Qw J x out G rt U m r hk
   |false=>rw[if_neg (by simp)]at hk ⊢;exact Qw J y out G rt hb m r hk
  .exact hk.elim
 | .block id c,out,G,rt,I,X,hc,B,w0,j,h,w,e,a,Q,m,r,hk=>by
  simp only[cC,YJ,Yt]at hc;obtain⟨⟨ia,Xa⟩,U,rfl,rfl⟩:=hc;refine wp_block (wp_mono (Qw J c out _ rt U m r hk) ?_)
  rintro x a' w' ⟨C,h',e',A,D,E,u⟩
  cases x with
  |exit lK=>
   simp only[Exit.inBlock];simp only at u;split
   .rename_i he;rw[if_pos he]at u;exact⟨C,h',e',A,D,E,u⟩
   .rename_i he;rw[if_neg he]at u;exact⟨C,h',e',A,D,E,u⟩
  |normal=>exact⟨C,h',e',A,D,E,u⟩
  |goto l=>exact⟨C,h',e',A,D,E,u⟩
  |ret=>exact⟨C,h',e',A,D,E,u⟩
  |panic ch=>exact⟨C,h',e',A,D,E,u⟩
  |outgrown=>exact⟨C,h',e',A,D,E,u⟩
 | .loop c,out,G,rt,I,X,hc,B,w0,j,h,w,e,a,Q,m,r,hk=>by
  simp only[cC,YJ,Yt]at hc;obtain⟨⟨ia,Xa⟩,U,rfl,rfl⟩:=hc;obtain⟨a0,⟨n,h0⟩,jA⟩:=hk;refine wp_loop_ghost (λn a' w'=>∃C h' e' vs,FR j h C h'/\MR B w0 C h' w'/\ER nt C (Env.mk (lv c [] G rt) vs) a'/\a0 n vs h') n ⟨j,h,e,_,FR.refl _ _,m,r.trim _,h0⟩ ?_
  rintro n a' w' ⟨C,h',e',vs,A,D,E,hI⟩
  refine wp_mono (Qw J c _ G rt U D E (jA n vs h' hI)) ?_
  rintro x nR C8 ⟨N,dZ,T,M,O,S,u⟩
  cases x with
  |normal=>
   obtain⟨n',ah,wq⟩:=u;exact⟨n',ah,N,dZ,T,_,A.trans M,O,S.trim _,wq⟩
  |exit id=>exact⟨N,dZ,T,A.trans M,O,S,u⟩
  |goto l=>exact⟨N,dZ,T,A.trans M,O,S,u⟩
  |ret=>exact⟨N,dZ,T,A.trans M,O,S,u⟩
  |panic ch=>exact⟨N,dZ,T,A.trans M,O,S,u⟩
  |outgrown=>exact⟨N,dZ,T,A.trans M,O,S,u⟩
 | .exit id,out,G,rt,I,X,hc,B,w0,j,h,w,e,a,Q,m,r,hk=>by
  cases hc;exact wp_exit ⟨j,h,e,FR.refl _ _,m,r,hk⟩
 | .ret,out,G,rt,I,X,hc,B,w0,j,h,w,e,a,Q,m,r,hk=>by
  cases hc;exact wp_ret ⟨j,h,e,FR.refl _ _,m,r,hk⟩
 | .rangeFunc ..,_,_,_,_,_,hc,_,_,_,_,_,_,_,_,_,_,_=>by cases hc
 | .scope ..,_,_,_,_,_,hc,_,_,_,_,_,_,_,_,_,_,_=>by cases hc
 | .goto ..,_,_,_,_,_,hc,_,_,_,_,_,_,_,_,_,_,_=>by cases hc
 | .refuse ..,_,_,_,_,_,hc,_,_,_,_,_,_,_,_,_,_,_=>by cases hc
inductive IRes where
 |tmp (t:Nat)
 |cell (t:Nat) (agg:Bool) (n:Nat)
def IRes.slot:IRes->Nat
 | .tmp t=>t
 | .cell t _ _=>t
structure IFn where
 params:List Nat
 res:List IRes
 body:IC
def rvals:List IRes->Env->AHeap->Option (List AV)
 |[],_,_=>some []
 | .tmp t::r,e,h=>(rvals r e h).map λvs=>e t::vs
 | .cell t agg n::r,e,h=>(ldv agg n (e t) h).bind λv=>(rvals r e h).map λvs=>v::vs
def packR:List AV->AV
 |[v]=>v
 |vs=>.tup vs
def retQ(res:List IRes)(Q:AV->AHeap->Prop):Exit->Env->AHeap->Prop
 | .normal,e,h=>optK (rvals res e h) λvs=>Q (packR vs) h
 | .ret,e,h=>optK (rvals res e h) λvs=>Q (packR vs) h
 |_,_,_=>False
def cRes(P:Program):List ResultVar->Option (List IRes)
 |[]=>some []
 | .tmp t::r=>(cRes P r).map (.tmp t::·)
 | .cell t ty::r=>match P.underlying ty,P.info? ty with
  |some d,some i=>(cRes P r).map (.cell t (zAy d) i.size::·)
  |_,_=>none
def cF(P:Program)(u:Func):Option IFn:=
 u.body.bind λc=>(cRes P u.results.toList).bind λres=>(cC P u.ntmps c (res.foldr (λr l=>insS r.slot l) []) [] (res.foldr (λr l=>insS r.slot l) [])).bind λx=>
  if u.params.size+u.nfree<=u.ntmps then some ⟨List.range (u.params.size+u.nfree),res,x.1⟩else none
def rvS(a:Act):ResultVar->Sem Value
 | .tmp t=>pure (a.tmps.getD t undef)
 | .cell x t=>do loadVar t (<-asAddr (a.tmps.getD x undef))
theorem zA4(m:MR B w0 j h w)(r:ER nt j e a):∀{rs:List ResultVar} {res:List IRes} {vs:List AV},cRes P rs=some res->rvals res e h=some vs->
  ∃cs:List Value,(rs.mapM (rvS a)).run P w=.ok cs w/\VIs j vs cs
 |[],res,vs,hc,u=>by
  cases hc;cases u;exact⟨[],by simp,rfl⟩
 | .tmp t::rs,res,vs,hc,u=>by
  simp only[cRes,YJ]at hc;obtain⟨J,I,rfl⟩:=hc;simp only[rvals,YJ]at u;obtain⟨S,u,rfl⟩:=u;obtain⟨cs,D,E⟩:=zA4 m r I u;refine⟨a.tmps.getD t undef::cs,?_,⟨_,_,rfl,r.vals t,E⟩⟩;simp only[List.mapM_cons,rvS,Sem.run_bind,Sem.run_pure,Result.andThen_ok];rw[D];rfl
 | .cell x t::rs,res,vs,hc,u=>by
  simp only[cRes]at hc;split at hc
  .rename_i d i hd hi;simp only[YJ]at hc;obtain⟨J,I,rfl⟩:=hc;simp only[rvals,YZ,YJ]at u;obtain⟨v,C,S,u,rfl⟩:=u;obtain⟨cs,D,E⟩:=zA4 m r I u;unfold ldv at C;split at C
   .rename_i o k O;have A:=r.vals x;rw[O]at A;obtain⟨M,G,N⟩:=zFz (P:=P) m hd hi A C;obtain⟨l,T,A⟩:=A;refine⟨M::cs,?_,⟨_,_,rfl,N,E⟩⟩;rw[A]at G;simp only[Instr.loadAt,Instr.sureAddr,Sem.run_bind,Sem.run_pure,Result.andThen_ok]at G;simp only[List.mapM_cons,rvS,Sem.run_bind,A,asAddr,Sem.run_pure,Result.andThen_ok,G];rw[D];rfl
   .cases C
  .cases hc
theorem zJL(cM:P.follows .mixedOrders=true){f:FuncId}{C:Func}{J:IFn}(hf:P.funcs[f]? = some C)(I:cF P C=some J){args:List AV}{h:AHeap}{K:AV->AHeap->Prop}(A:args.length=J.params.length)
  (hk:vc P J.body (retQ J.res K) (Env.mk J.params args) h):ZZ P f args h K:=by
 simp only[cF,YZ]at I;obtain⟨c,hb,res,aX,⟨ic,a0⟩,rn,I⟩:=I;split at I
 .rename_i hle;cases I;intro B w0 j w cargs m S;have cU:=S.length;simp only[Ue]at A;refine calls_of_wp hf hb (wp_mono (Qw cM c _ _ _ rn m (e:=Env.mk (List.range (C.params.size+C.nfree)) args) (a:=⟨cargs.toArray++Array.replicate (C.ntmps-cargs.toArray.size) undef,[]⟩) ⟨λt=>?_,?_,rfl⟩ hk) ?_)
  ·-- nV arguments
   have key:∀(n s:Nat) (as:List AV) (t:Nat),as.length=n->(Env.mk (List.range' s n) as t=.undef/\(t<s\/s+n<=t))\/(s<=t/\as[t-s]? = some (Env.mk (List.range' s n) as t)):=by
    intro n
    induction n with
    |zero=>intro s as t A;refine .inl ⟨?_,by omega⟩;cases as with|nil=>rfl|cons _ _=>simp at A
    |succ n ih=>
     intro s as t A;cases as with
     |nil=>simp at A
     |cons v as=>
      rw[List.range'_succ];simp only[Env.mk];by_cases ht:t=s
      .subst ht;right;simp
      .rw[if_neg ht];rcases ih (s+1) as t (by simpa using A)with ⟨G,D⟩|⟨G,D⟩
       .exact .inl ⟨G,by omega⟩
       .refine .inr ⟨by omega,?_⟩;rw[<-D]
        have:t-s=(t-(s+1))+1:=by omega
        rw[this,List.getElem?_cons_succ]
   rw[List.range_eq_range'];rcases key _ 0 args t A with ⟨G,_⟩|⟨_,D⟩
   .rw[G];trivial
   .rw[Nat.sub_zero]at D;obtain⟨M,V,h4⟩:=S.get D
    have:(cargs.toArray++Array.replicate (C.ntmps-cargs.toArray.size) undef).getD t undef=M:=by
     have ah:=(Yn.1 V).1;have h5:=(Yn.1 V).2;simp[Array.getD_eq_getD_getElem?,Array.getElem?_append_left,ah,h5]
    rw[this];exact h4
  .simp;omega
  .rintro x a' N ⟨j',h',e',dR,X,Y,E⟩
   have fin:(∃vs,rvals res e' h'=some vs/\K (packR vs) h')->a'.defers=[]/\∃v,(results C a'.tmps).run P N=.ok v N/\
     ∃v' dZ O M,Ending.returned v=.returned M/\FR j h O dZ/\MR B w0 O dZ N/\VI O v' M/\K v' dZ:=by
    rintro⟨vs,hv,E⟩
    obtain⟨cs,G,D⟩:=zA4 X Y aX hv;have A:=D.length;refine⟨Y.defers,(if h:cs.toArray.size=1 then cs.toArray[0]else .tuple cs.toArray),?_,packR vs,h',j',_,rfl,dR,X,?_,E⟩
    .show(do let vs<-C.results.mapM (rvS a');pure (if h:vs.size=1 then vs[0]else Value.tuple vs):Sem Value).run P N=_
     rw[Sem.run_bind,Array.mapM_eq_mapM_toList];simp only[Sem.run_map,G,Result.andThen_ok,Sem.run_pure]
    .cases vs with
     |nil=>
      have:cs=[]:=YF (by simpa using A.symm)
      subst this;exact⟨[],rfl,by simp⟩
     |cons v vs=>
      obtain⟨c1,cr,rfl,T,U⟩:=D;cases vs with
      |nil=>
       rw[show cr=[] from U];simpa [packR]using T
      |cons u us=>
       obtain⟨c2,SG,rfl,g3,g4⟩:=U;simp only[packR];rw[dif_neg (by simp)];exact⟨_,⟨_,_,rfl,T,_,_,rfl,g3,g4⟩,rfl⟩
   cases x with
   |normal=>exact fin E
   |ret=>exact fin E
   |exit id=>exact E.elim
   |goto l=>exact E.elim
   |panic ch=>exact E.elim
   |outgrown=>exact E.elim
 .cases I
def condK(v:AV)(a b:Prop):Prop:=
 match v with
 | .bool t=>if t=true then a else b
 |_=>False
def zNp(v:AV)(b:Bool)(x y:Prop):Prop:=
 match v with
 | .bool c=>if c=b then x else y
 | .tup []=>y
 |_=>False
section
variable{P:Program}{h:AHeap}{KA:AV->AHeap->Prop}
def zOE(n:Nat)(x v:AV)(h:AHeap)(KA:AV->AHeap->Prop):Prop:=
 match x with
 | .ptr o i=>v.cells.length=n/\optK (h.wr o i v.cells) λh'=>KA .undef h'
 |_=>False
def aMake(sz bytes:Nat)(z:List AV)(l c:AV)(h:AHeap)(KA:AV->AHeap->Prop):Prop:=
 match l,c with
 | .int _ l,.int _ c=>(0<=l/\l<=c/\c*bytes<=140737488355328/\c<=9223372036854775807)/\KA (.sl h.next 0 l.toNat (.known c.toNat)) (h.new ⟨true,zeros z c.toNat⟩)
 |_,_=>False
def zOF(P:Program)(f:AV)(args:List AV)(h:AHeap)(KA:AV->AHeap->Prop):Prop:=
 match f with
 | .clo f first cJ=>okF P f=true/\ZZ P f (first++args++cJ) h KA
 |_=>False
end
end
section
variable{h h' dZ:AHeap}
theorem wrap64{n:Int}(l:-9223372036854775808<=n)(u:n<=9223372036854775807):IntKind.i64.wrap n=n:=by
 rw[IntKind.wrap_i64];omega
theorem WE{n:Int}(l:-9223372036854775808<=n:=by omega)(u:n<=9223372036854775807:=by omega):IntKind.i64.wrap n=n:=wrap64 l u
theorem WQ{n m:Int}(e:n=m:=by omega)(l:-9223372036854775808<=n:=by omega)(u:n<=9223372036854775807:=by omega):IntKind.i64.wrap n=m:=(wrap64 l u).trans e
def HWF(h:AHeap):Prop:=∀o,h.next<=o->h.obj o=none
structure Ext(h h':AHeap):Prop where
 next:h.next<=h'.next
 obj:∀o,o<h.next->h'.obj o=h.obj o
 wf:HWF h'
theorem Ext.refl(hw:HWF h):Ext h h:=⟨na _,λ_ _=>rfl,hw⟩
theorem Ext.trans(a:Ext h h')(b:Ext h' dZ):Ext h dZ:=
 ⟨Y7 a.next b.next,λo l=>(b.obj o (Yk l a.next)).trans (a.obj o l),b.wf⟩
theorem HWF.lt(hw:HWF h){o:Nat}{u:AObj}(l:h.obj o=some u):o<h.next:=by
 rcases YG o h.next with x|x
 .exact x
 .rw[hw o x]at l;cases l
theorem HWF.new(hw:HWF h)(u:AObj):HWF (h.new u):=by
 intro o l;simp only[AHeap.new]at l ⊢;rw[if_neg (by omega)];exact hw o (by omega)
theorem HWF.set(hw:HWF h){o:Nat}(u:o<h.next)(cs:List AV):HWF (h.set o cs):=by
 intro x l;simp only[AHeap.set]at l ⊢;rw[if_neg (by omega)];exact hw x l
theorem HWF.kill(hw:HWF h)(o:Nat):HWF (h.kill o):=by
 intro x l;simp only[AHeap.kill]at l ⊢;split
 .rfl
 .exact hw x l
theorem zLp(l:AObj):(h.new l).obj h.next=some l:=by simp[AHeap.new]
theorem zC1{o:Nat}(l:o≠h.next)(u:AObj):(h.new u).obj o=h.obj o:=by simp[AHeap.new,l]
theorem zLM(o:Nat)(cs:List AV):(h.set o cs).obj o=some ⟨true,cs⟩:=by simp[AHeap.set]
theorem zFj{o l:Nat}(u:l≠o)(cs:List AV):(h.set o cs).obj l=h.obj l:=by simp[AHeap.set,u]
theorem zEt{o l:Nat}(u:l≠o):(h.kill o).obj l=h.obj l:=by simp[AHeap.kill,u]
theorem Ext.new(hw:HWF h)(l:AObj):Ext h (h.new l):=⟨by simp[AHeap.new],λo u=>zC1 (by omega) _,hw.new l⟩
theorem zBv{o off n:Nat}{l:AObj}(A:h.obj o=some l)(u:off+n<=l.cells.length):h.rd o off n=some ((l.cells.drop off).take n):=by
 simp[AHeap.rd,A,u]
theorem zCs{o n:Nat}{l:AObj}(A:h.obj o=some l)(u:n=l.cells.length):h.rd o 0 n=some l.cells:=by
 subst u;simp[AHeap.rd,A]
theorem zH0{o off n:Nat}(l:h'.obj o=h.obj o):h'.rd o off n=h.rd o off n:=by simp[AHeap.rd,l]
theorem zFr{o i:Nat}{l:AObj}(u:h.obj o=some l):h.rd1 o i=l.cells[i]?:=by simp[AHeap.rd1,u]
theorem zMo{o off n k:Nat}{vs:List AV}(A:h.rd o off n=some vs)(l:k<n):h.rd1 o (off+k)=vs[k]?:=by
 obtain⟨D,u,C,rfl⟩:=AHeap.rd_some A;rw[zFr u,Yd,if_pos l,Ye]
theorem zDR{o off n a b:Nat}{vs:List AV}(u:h.rd o off n=some vs)(C:a+b<=n):h.rd o (off+a) b=some ((vs.drop a).take b):=by
 obtain⟨D,l,A,rfl⟩:=AHeap.rd_some u;rw[zBv l (by omega)];congr 1;rw[List.drop_take,List.take_take,List.drop_drop];congr 1;omega
theorem zCQ{o i:Nat}{cs:List AV}{v:AV}(u:h.obj o=some ⟨true,cs⟩)(hi:i<cs.length)(A:v.one=true):h.wr o i [v]=some (h.set o (cs.set i v)):=by
 simp only[AHeap.wr,u,YM,YS,List.length_nil,List.all_cons,List.all_nil,A,Bool.and_true];rw[if_pos ⟨trivial,by omega,trivial⟩];congr 2;apply List.ext_getElem?;intro k;rw[Yi,Yb];rcases Nat.lt_trichotomy k i with x|x|x
 .rw[if_neg (by omega),Yy (by simp;omega),Yd,if_pos x]
 .subst x;rw[if_pos rfl,if_pos hi,Yx (by rw[Yu];omega),Yu]
  have:k-min k cs.length=0:=by omega
  rw[this];rfl
 .rw[if_neg (by omega),Yx (by simp;omega)];have l:k-(List.take i cs).length=(k-i-1)+1:=by rw[Yu];omega
  rw[l,Yo,List.getElem?_cons_succ,Ys,Ye];congr 1;omega
def All2{α β:Type}(R:α->β->Prop)(as:List α)(l:List β):Prop:=as.length=l.length/\∀(k:Nat) (a:α) (b:β),as[k]? = some a->l[k]? = some b->R a b
theorem All2.nil{α β:Type}(R:α->β->Prop):All2 R [] []:=⟨rfl,λk a b h=>by simp at h⟩
theorem All2.snoc{α β:Type}{R:α->β->Prop}{as:List α}{A:List β}{a:α}{b:β}(h:All2 R as A)(C:R a b):All2 R (as++[a]) (A++[b]):=by
 refine⟨by simp[h.1],λk x y l u=>?_⟩;rcases Nat.lt_trichotomy k as.length with e|e|e
 .rw[Yy e]at l;rw[Yy (by rw[<-h.1];exact e)]at u;exact h.2 k x y l u
 .rw[Yx (by omega),e]at l;rw[Yx (by rw[<-h.1];omega),e,h.1]at u;simp at l u;subst l;subst u;exact C
 .rw[Yq (by simp;omega)]at l;cases l
theorem All2.get{α β:Type}{R:α->β->Prop}{as:List α}{l:List β}(h:All2 R as l){k:Nat}(A:k<l.length):∃a,as[k]? = some a/\R a l[k]:=by
 have u:k<as.length:=by rw[h.1];exact A
 exact⟨as[k],YQ u,h.2 k _ _ (YQ u) (YQ A)⟩
theorem All2.cons{α β:Type}{R:α->β->Prop}{as:List α}{A:List β}{a:α}{b:β}(h:All2 R as A)(C:R a b):All2 R (a::as) (b::A):=by
 refine⟨by simp[h.1],λk x y l u=>?_⟩;cases k with
 |zero=>simp at l u;subst l;subst u;exact C
 |succ k=>exact h.2 k x y (by simpa using l) (by simpa using u)
end
section
variable{h:AHeap}
theorem wrapS{i n:Nat}(hi:i<n)(l:n<=4611686018427387904):IntKind.i64.wrap ((i:Int)+1)=((i+1:Nat):Int):=WQ
theorem WX{i n:Nat}(l:i<n)(u:n<=4611686018427387904:=by omega):IntKind.i64.wrap ((i:Int)+1)=((i+1:Nat):Int):=wrapS l u
theorem wrapA{a b:Nat}(l:a+b<=4611686018427387904):IntKind.i64.wrap ((a:Int)+(b:Int))=((a+b:Nat):Int):=WQ
theorem Qs{xs:V1}{i:Nat}(hi:i<xs.length){p:Int->Prop}(h:∀x∈xs.take i,p x)(l:p xs[i]):∀x∈xs.take (i+1),p x:=by
 rw[YU hi];intro x hm;rcases YY.1 hm with hm|hm
 .exact h x hm
 .simp at hm;subst hm;exact l
theorem zBF{α:Type}{xs:List α}{i:Nat}(hi:¬i<xs.length){p:α->Prop}(h:∀x∈xs.take i,p x):∀x∈xs,p x:=by
 rwa[YR (by omega)]at h
theorem zDs{α:Type}{xs:List α}{i:Nat}(hi:i<xs.length){p:α->Prop}(h:∀x∈xs.take i,p x)(l:p xs[i]):∀x∈xs.take (i+1),p x:=by
 rw[YU hi];intro x hm;rcases YY.1 hm with hm|hm
 .exact h x hm
 .simp at hm;subst hm;exact l
theorem zLF(z:List AV):zeros z 0=[]:=rfl
theorem zLG(v:AV):zeros [v] 1=[v]:=rfl
theorem zDL(v:AV)(n:Nat):zeros [v] n=List.replicate n v:=by
 simp[zeros,List.flatten_replicate_singleton]
theorem zHq{α:Type}(l:List α)(z:α){i:Nat}(hi:i<l.length):(l.take i++List.replicate (l.length-i) z).set i l[i]=l.take (i+1)++List.replicate (l.length-(i+1)) z:=by
 obtain⟨k,hk⟩:∃k,l.length-i=k+1:=⟨l.length-i-1,by omega⟩
 have u:(l.take i).length=i:=by rw[Yu];omega
 rw[hk,List.replicate_succ,List.set_append,if_neg (by omega),u,Yv,List.set_cons_zero,YU hi,Yb,UF];congr 3;omega
theorem zKu(h:AHeap)(a b:List AV):(h.new ⟨true,a⟩).set h.next b=h.new ⟨true,b⟩:=by
 simp only[AHeap.set,AHeap.new];congr 1;funext x;by_cases l:x=h.next<;>simp[l]
theorem zQp{o i:Nat}{cs vs:List AV}(u:h.obj o=some ⟨true,cs⟩)(l:i+vs.length<=cs.length)(A:vs.all AV.one=true):h.wr o i vs=some (h.set o (cs.take i++vs++cs.drop (i+vs.length))):=by
 simp only[AHeap.wr,u,YM];rw[if_pos ⟨trivial,l,A⟩]
end
section
variable{h:AHeap}{α:Type}{R:AHeap->AV->α->List Nat->Prop}
structure zGR(R:AHeap->AV->α->List Nat->Prop)(lo:Nat)(h:AHeap)(us:List AV)(CA:List (List Nat))(xs:List α):Prop where
 len:us.length=CA.length
 own:All2 (λvf x=>R h vf.1 x vf.2) (us.zip CA) xs
 nodup:CA.flatten.Nodup
 lo:∀o∈CA.flatten,lo<=o/\o<h.next
end
section
open Go.ChangeShapes Go.WideShapes Go.RowKit Go.Deep
variable{w0 w:World}{j:Inj}{h:AHeap}
theorem MR.empty(w:World):MR w.heap.size w (λ_=>none) ⟨0,λ_=>none⟩ w:=
 ⟨Below.refl _ _,na _,λ_ _=>⟨rfl,rfl⟩,λ_ _ _ l=>(by cases l),λ_ _ _ _ _ _ _ l=>(by cases l)⟩
theorem MR.wf(m:MR B w0 j h w):HWF h:=λo l=>(m.fresh o l).1
theorem Inj.le_put(m:MR B w0 j h w)(l:Loc):j.le (j.put h.next l):=by
 intro o A u
 have:=m.lt u
 simp[Inj.put,Nat.ne_of_lt this,u]
theorem MR.lay(m:MR B w0 j h w){cells:List AV}{l:Loc}(O:cells.all AV.one=true)(U:l.blk<B){cur:Array Value}{ty:TypeId}{fz:Nat×Nat}(S:w.heap[l.blk]? = some (.cells cur ty fz))
  (V:∀i v,cells[i]? = some v->∃C,cur[l.base+i]? = some C/\VI j v C):MR B w0 (j.put h.next l) (h.new ⟨false,cells⟩) w:=by
 have hle:=Inj.le_put m l;refine⟨m.below,m.bnd,λo u=>?_,λo E Y u A=>?_,λo M E X J l2 T u I A D G=>?_⟩
 .simp only[AHeap.new]at u
  have:o≠h.next:=by omega
  simp only[AHeap.new,Inj.put,if_neg this];exact m.fresh o (by omega)
 .by_cases e:o=h.next
  .subst e;simp only[AHeap.new,if_true,YD]at u;simp only[Inj.put,if_true,YD]at A;subst u;subst A;exact⟨O,cur,ty,fz,S,λi v hi=>by obtain⟨C,a,b⟩:=V i v hi;exact⟨C,a,VI.mono hle _ _ b⟩,λx=>(by cases x),λ_=>U⟩
  .simp only[AHeap.new,if_neg e]at u;simp only[Inj.put,if_neg e]at A;obtain⟨a,pA,nU,N,b,c,d⟩:=m.obj o E Y u A;exact⟨a,pA,nU,N,b,λi v hi=>by obtain⟨C,x,y⟩:=c i v hi;exact⟨C,x,VI.mono hle _ _ y⟩,d⟩
 .by_cases e:o=h.next
  .subst e;simp only[AHeap.new,if_true,YD]at u;subst u;cases G
  .simp only[AHeap.new,if_neg e]at u;simp only[Inj.put,if_neg e]at A;by_cases e':M=h.next
   .subst e';simp only[Inj.put,if_true,YD]at D;subst D;obtain⟨_,_,_,_,_,_,d,_⟩:=m.obj o E J u A
    have:=(d G).2.2
    omega
   .simp only[AHeap.new,if_neg e']at I;simp only[Inj.put,if_neg e']at D;exact m.apart o M E X J l2 T u I A D G
theorem zK6{a:Addr}{v:Value}(l:w.cell? a=some v):a.spot=none/\∃cur ty fz,w.heap[a.block]? = some (.cells cur ty fz)/\cur[a.off]? = some v:=by
 unfold World.cell? at l;split at l
 .rename_i c t f u;split at l
  .cases l
  .rename_i hs;exact⟨by simpa using hs,c,t,f,u,l⟩
 .cases l
def RowAt(w:World)(A:Option Addr)(L C:Nat)(Z:V1):Prop:=
 L<=C/\C<=maxLen/\Z.length=C/\(A=none->C=0)/\∀a',A=some a'->∀c,c<C->w.cell? (a'.add c)=some (.int .i64 (Z.getD c 0))
theorem zRY{b:Nat}{o:Obj}(l:w.heap[b]? = some o):b<w.heap.size:=by
 rcases YG b w.heap.size with x|x
 .exact x
 .rw[Array.getElem?_eq_none x]at l;cases l
end
section
open Go.ChangeShapes Go.WideShapes Go.RowKit Go.Deep
variable{H:Type}{enc:TypeId×Value->H}{P:Program}
theorem zC8(E:laidOutB P=true){W C:World}(D:Below W.heap.size W C){G:Nat->Bool}:∀{ts:List TypeId} {vs:List Value} {A:List (DataW H)} {u:List MemPlace},(∀t∈ts,P.readableRec t=true/\t<P.types.size)->
  DataW.TrodAll enc P W 0 (λ_=>true) true ts vs A u->(∀x∈u,x.block<W.heap.size)->(∀x∈u,G x.block=true)->DataW.TrodAll enc P C 0 G true ts vs A u
 |[],vs,A,u,_,h,_,_=>by
  obtain⟨rfl,rfl,rfl⟩:=trodAll_nil h;rfl
 |t::ts,vs,A,u,ht,h,h1,h2=>by
  obtain⟨v,N,d,O,p,q,rfl,rfl,rfl,J,M⟩:=trodAll_cons h;exact trodAll_cons_mk (WideElems.Trod_stays E (ht t (by simp)).1 (ht t (by simp)).2 J (λx l=>D.same (h1 x (by simp[l]))) (λx l=>h2 x (by simp[l])))
   (zC8 E D (λt' I=>ht t' (by simp[I])) M (λx l=>h1 x (by simp[l])) (λx l=>h2 x (by simp[l])))
theorem zHQ{f:Func}{s:ChangeSpec}{apart fresh handsOn again:Bool}{W A:World}{args:Array Value}{l gs:List (DataW H)}{before:List MemPlace}{X:TypeId}(V:s.vars=[])(hl:laidOutB P=true)
  (jX:∀t∈f.params.toList,P.readableRec t=true/\t<P.types.size) (N:f.resultTypes = #[X]) (M:P.underlying X=some .bool)
  (D:s.fn H l={ results:=[.lit (.bool true)],args:=l }) (I:DataW.Whole enc P f.params.toList s.vars apart W args.toList l gs before) (J:Below W.heap.size W A):
  s.post enc P f apart fresh handsOn again W args (.bool true) A:=by
 have E:=I.lt;have Y:=I;obtain⟨p,q,hA,G,rfl,hz,hn⟩:=I;have Sn:=G;rw[V]at G;obtain⟨rfl,rfl⟩:=trodVars_none G;simp only[Y0]at *;have O:∀u:Nat->Bool,(∀x∈p,u x.block=true)->DataW.TrodAll enc P A 0 u true f.params.toList args.toList (s.fn H l).args p:=λu ow=>by
  rw[D];exact zC8 hl J jX hA (λx C=>E x C) ow
 have T:∀(b:Nat) (u:Nat->Bool) (hd:Bool),DataW.TrodAll enc P A b u hd f.resultTypes.toList ((Value.bool true).resultList f.resultTypes.size) (s.fn H l).results []:=λb u hd=>by
  rw[D,N];exact trodAll_cons_mk (shut_bool M _) trodAll_mk0
 have S:∀u:Nat->Bool,DataW.TrodVars enc P A u s.vars (s.fn H l).vars []:=λu=>by rw[D,V];rfl
 have e:l++[]=l:=Y0 l;have hold:∀x∈p,(λb=>decide (b<W.heap.size)) x.block=true:=λx C=>by simpa using E x C
 refine⟨l,[],p,[],p,[],Y,by rw[e];exact T _ _ _,by rw[e];exact O _ hold,by rw[e];exact S _,J.frame _,λ_=>⟨ok_one N rfl (okWide_bool_mk M _),_,_,([]++p)++[],⟨[]++p,[],trodAll_append (O _ (λ_ _=>rfl)) (T _ _ _),S _,rfl,?_,?_⟩,?_⟩⟩
 .intro b off hp;have U:MemPlace.cell b off∈p:=by simpa using hp
  rw[J.frozen (p:=⟨b,off,none⟩) (E _ U)];exact hz b off U
 .intro ha
  have:=hn ha
  simpa using this
 .intro x C _;simpa using C
theorem ZZ.calls{f:FuncId}{args:List AV}{h:AHeap}{j:Inj}{W:World}{cargs:Array Value}(u:ZZ P f args h (λv _=>v=.bool true))(m:MR W.heap.size W j h W)(C:VIs j args cargs.toList):
  Calls P f cargs W λe l=>e=.returned (.bool true)/\Below W.heap.size W l:=by
 have:=u W.heap.size W j W cargs.toList m C
 rw[Array.toArray_toList]at this;refine this.mono ?_
 rintro e l ⟨v,h',G,A,rfl,_,E,D,rfl⟩
 exact⟨by rw[show A=.bool true from D],E.below⟩
def nm{α:Type}(a:α):α:=a
theorem nm_eq{α:Type}(a:α):nm a=a:=Eq.trans rfl rfl
section
variable{P:Program}
@[congr] theorem cg_vc {c:IC} {Q:Exit->Env->AHeap->Prop} {e e':Env} {h h':AHeap} (l:nm e=e') (u:h=h'):vc P c Q e h=vc P c Q e' h':=by rw[nm_eq]at l;rw[l,u]
@[congr] theorem cg_TV {t:OT} {recs l:List Rec} {K:Env->AHeap->Prop} {e e':Env} {h h':AHeap} (A:recs=l) (u:nm e=e') (C:h=h'):TV P t recs e h K=TV P t l e' h' K:=by rw[nm_eq]at u;rw[A,u,C]
@[congr] theorem cg_RV {l:List II} {K:Env->AHeap->Prop} {e e':Env} {h h':AHeap} (u:nm e=e') (A:h=h'):RV P l e h K=RV P l e' h' K:=by rw[nm_eq]at u;rw[u,A]
@[congr] theorem cg_DV {nb C:Nat} {u:List DI} {recs l:List Rec} {K:Env->AHeap->Prop} {e e':Env} {h h':AHeap} (A:nm nb=C) (D:recs=l) (E:e=e') (G:h=h'):DV P nb u recs e h K=DV P C u l e' h' K:=by rw[nm_eq]at A;rw[A,D,E,G]
@[congr] theorem cg_ge {it:II} {K:AV->AHeap->Prop} {e e':Env} {h h':AHeap} (l:nm e=e') (u:h=h'):ge P it e h K=ge P it e' h' K:=by rw[nm_eq]at l;rw[l,u]
@[congr] theorem zRt {op:IOp} {K:AV->AHeap->Prop} {e e':Env} {h h':AHeap} (l:nm e=e') (u:h=h'):eff P op e h K=eff P op e' h' K:=by rw[nm_eq]at l;rw[l,u]
@[congr] theorem zRn {f:FuncId} {K:AV->AHeap->Prop} {args l:List AV} {h h':AHeap} (u:nm args=l) (A:h=h'):ZZ P f args h K=ZZ P f l h' K:=by rw[nm_eq]at u;rw[u,A]
@[congr] theorem zRr {α:Type} {o u:Option α} {K:α->Prop} (l:nm o=u):optK o K=optK u K:=by rw[nm_eq]at l;rw[l]
@[congr] theorem zRk {n:Nat} {K:AV->AHeap->Prop} {x A v u:AV} {h h':AHeap} (l:nm x=A) (C:v=u) (D:h=h'):zOE n x v h K=zOE n A u h' K:=by rw[nm_eq]at l;rw[l,C,D]
@[congr] theorem zRq {sz b:Nat} {z:List AV} {K:AV->AHeap->Prop} {x A v u:AV} {h h':AHeap} (l:nm x=A) (C:v=u) (D:h=h'):aMake sz b z x v h K=aMake sz b z A u h' K:=by rw[nm_eq]at l;rw[l,C,D]
@[congr] theorem zRl {K:AV->AHeap->Prop} {f f':AV} {args l:List AV} {h h':AHeap} (u:nm f=f') (A:args=l) (C:h=h'):zOF P f args h K=zOF P f' l h' K:=by rw[nm_eq]at u;rw[u,A,C]
@[congr] theorem zRp {v u:AV} {a b:Prop} (l:nm v=u):condK v a b=condK u a b:=by rw[nm_eq]at l;rw[l]
@[congr] theorem zRj {v u:AV} {b:Bool} {x y:Prop} (l:nm v=u):zNp v b x y=zNp u b x y:=by rw[nm_eq]at l;rw[l]
end
end
inductive PV where
 |undef
 |bool (b:Bool)
 |int (k:IntKind) (n:Int)
 |str (s:List UInt8)
 |nilp
 |nilf
 |fz (w:Bool) (a:AV) (len:Nat) (cs:List PV)
 |fp (a:AV) (cs:List PV)
 |ptr (s i:Nat)
 |sl (s off len:Nat) (cap:Cap)
 |clo (f:FuncId) (first cJ:List PV)
 |agg (cs:List PV)
 |tup (vs:List PV)
instance:Inhabited PV:=⟨.undef⟩
def PV.one:PV->Bool
 | .undef | .agg _ | .tup _=>false
 |_=>true
def PV.cells:PV->List PV
 | .agg cs=>cs
 |v=>[v]
mutual
def er(ι:Nat->Nat):PV->AV
 | .undef=>.undef
 | .bool b=>.bool b
 | .int k n=>.int k n
 | .str s=>.str s
 | .nilp=>.nilp
 | .nilf=>.nilf
 | .fz _ a _ _=>a
 | .fp a _=>a
 | .ptr s i=>.ptr (ι s) i
 | .sl s off len cap=>.sl (ι s) off len cap
 | .clo f a b=>.clo f (ers ι a) (ers ι b)
 | .agg cs=>.agg (ers ι cs)
 | .tup cs=>.tup (ers ι cs)
def ers(ι:Nat->Nat):List PV->List AV
 |[]=>[]
 |c::cs=>er ι c::ers ι cs
end
mutual
def ofAV:AV->PV
 | .undef=>.undef
 | .bool b=>.bool b
 | .int k n=>.int k n
 | .str s=>.str s
 | .nilp=>.nilp
 | .nilf=>.nilf
 | .nils=>.fz true .nils 0 []
 | .ptr o i=>.fp (.ptr o i) []
 | .sl o off n c=>.fp (.sl o off n c) []
 | .clo f a b=>.clo f (ofAVs a) (ofAVs b)
 | .agg cs=>.agg (ofAVs cs)
 | .tup cs=>.tup (ofAVs cs)
def ofAVs:List AV->List PV
 |[]=>[]
 |c::cs=>ofAV c::ofAVs cs
end
structure PHeap where
 next:Nat
 top:Nat
 obj:Nat->Option (List PV)
namespace PHeap
def new(σ:PHeap)(cs:List PV):PHeap:=⟨σ.next+1,σ.top,λs=>if s=σ.next then some cs else σ.obj s⟩
def set(σ:PHeap)(s:Nat)(cs:List PV):PHeap:=⟨σ.next,σ.top,λl=>if l=s then some cs else σ.obj l⟩
def kill(σ:PHeap)(s:Nat):PHeap:=⟨σ.next,σ.top,λl=>if l=s then none else σ.obj l⟩
def up(σ:PHeap)(t:Nat):PHeap:=⟨σ.next,t,σ.obj⟩
def rd1(σ:PHeap)(s i:Nat):Option PV:=(σ.obj s).bind λcs=>cs[i]?
def rd(σ:PHeap)(s i n:Nat):Option (List PV):=(σ.obj s).bind λcs=>if i+n<=cs.length then some ((cs.drop i).take n)else none
def wr(σ:PHeap)(s i:Nat)(vs:List PV):Option PHeap:=(σ.obj s).bind λcs=>
 if i+vs.length<=cs.length/\vs.all PV.one=true then some (σ.set s (cs.take i++vs++cs.drop (i+vs.length)))else none
def news(σ:PHeap):List (List AV)->PHeap
 |[]=>σ
 |z::zs=>(σ.new (ofAVs z)).news zs
end PHeap
abbrev PEnv:=Nat->PV
def PEnv.put(e:PEnv)(d:Option Nat)(v:PV):PEnv:=match d with
 |some d=>λt=>if t=d then v else e t
 |none=>e
def PEnv.mk:List Nat->List PV->PEnv
 |s::S,v::vs=>λt=>if t=s then v else PEnv.mk S vs t
 |_,_=>λ_=>.undef
def IX.pv(e:PEnv):IX->PV
 | .t n=>e n
 | .c v=>ofAV v
def ZL:AV->Bool
 | .nils=>true
 |_=>false
def pnil(op:BinOp)(r:Bool):Option PV:=
 match op with
 | .eql=>some (.bool r)
 | .neq=>some (.bool !r)
 |_=>none
def paggB:List PV->List PV->Option Bool
 |[],[]=>some true
 | .int k a::xs,.int k' b::ys=>if k=k' then(paggB xs ys).map λr=>decide (a=b) && r else none
 |_,_=>none
def pbin(op:BinOp)(l:EqK)(x y:PV):Option PV:=
 match x,y with
 | .int k a,.int k' b=>(abin op l (.int k a) (.int k' b)).map ofAV
 | .str a,.str b=>(astr op a b).map ofAV
 | .bool a,.bool b=>match l with | .bool=>pnil op (a == b)|_=>none
 | .fz _ a _ _,.fz _ b _ _=>match l with | .slice=>if ZL b=true then pnil op (ZL a)else if ZL a=true then pnil op false else none|_=>none
 | .sl _ _ _ _,.fz _ b _ _=>match l with | .slice=>if ZL b=true then pnil op false else none|_=>none
 | .fz _ a _ _,.sl _ _ _ _=>match l with | .slice=>if ZL a=true then pnil op false else none|_=>none
 | .nilp,.nilp=>match l with | .pointer=>pnil op true|_=>none
 | .ptr _ _,.nilp=>match l with | .pointer=>pnil op false|_=>none
 | .nilp,.ptr _ _=>match l with | .pointer=>pnil op false|_=>none
 | .nilf,.nilf=>match l with | .func=>pnil op true|_=>none
 | .clo _ _ _,.nilf=>match l with | .func=>pnil op false|_=>none
 | .nilf,.clo _ _ _=>match l with | .func=>pnil op false|_=>none
 | .agg xs,.agg ys=>match l with | .ints n=>if xs.length=n/\ys.length=n then(paggB xs ys).bind λr=>pnil op r else none|_=>none
 |_,_=>none
def pun(op:UnOp)(x:PV):Option PV:=
 match x with
 | .int k n=>(aun op (.int k n)).map ofAV
 | .bool b=>(aun op (.bool b)).map ofAV
 |_=>none
def pfill(cells:List PV):List (Nat×Nat×PV)->Option (List PV)
 |[]=>some cells
 |(off,size,v)::rest=>
  if v.cells.length=size/\off+size<=cells.length/\v.cells.all PV.one=true then pfill (cells.take off++v.cells++cells.drop (off+size)) rest else none
def Qo(x:PV)(y:Nat):Option Nat:=
 match x with
 | .int _ i=>if 0<=i/\i<=y then some i.toNat else none
 |_=>none
def zq(x:Option PV)(l y:Nat):Option Nat:=
 match x with
 |some x=>Qo x y
 |none=>some l
def pslA(e:Nat)(a:AV)(l h:Nat):AV:=
 match a with
 | .sl o off _ (.known c)=>.sl o (if c=l then off else off+l*e) (h-l) (.known (c-l))
 | .sl o off _ (.grown g)=>.sl o (off+l*e) (h-l) (.grown (if g=e then g else 0))
 |a=>a
def pslM(e:Nat)(a:AV)(l h m:Nat):AV:=
 match a with
 | .sl o off _ _=>.sl o (if m=l then off else off+l*e) (h-l) (.known (m-l))
 |a=>a
def zAI(e:Nat)(x:PV)(lo hi mx:Option PV):Option PV:=
 match x with
 | .sl s off len (.known c)=>
  (zq mx c c).bind λm=>(zq hi len m).bind λh=>(zq lo 0 h).bind λl=>
   if hi.isNone=true/\mx.isSome=true then none else some (.sl s (if m=l then off else off+l*e) (h-l) (.known (m-l)))
 | .sl s off len (.grown g)=>
  match mx with
  |some mx=>(Qo mx len).bind λm=>(zq hi len m).bind λh=>(zq lo 0 h).bind λl=>
   if hi.isNone=true then none else some (.sl s (if m=l then 0 else off+l*e) (h-l) (.known (m-l)))
  |none=>(zq hi len len).bind λh=>(zq lo 0 h).bind λl=>
   some (.sl s (off+l*e) (h-l) (.grown (if g=e then g else 0)))
 | .fz _ a len cs=>
  match mx with
  |none=>(zq hi len len).bind λh=>(zq lo 0 h).bind λl=>some (.fz false (pslA e a l h) (h-l) ((cs.drop (l*e)).take ((h-l)*e)))
  |some mx=>match a with
   | .nils=>(Qo mx 0).bind λm=>(zq hi 0 m).bind λh=>(zq lo 0 h).bind λ_=>if hi.isNone=true then none else some (.fz true .nils 0 [])
   |_=>none
 |_=>none
def zBy(x:PV)(lo hi:Option PV):Option PV:=
 match x with
 | .str s=>(zq hi s.length s.length).bind λh=>(zq lo 0 h).bind λl=>some (.str ((s.take h).drop l))
 |_=>none
def pPick(c a b:PV):Option PV:=
 match c with
 | .bool t=>some (if t=true then a else b)
 |_=>none
def pConv(k:IntKind)(x:PV):Option PV:=
 match x with
 | .int _ n=>some (.int k (k.wrap n))
 |_=>none
def pNil(x:PV):Option PV:=
 match x with
 | .ptr s i=>some (.ptr s i)
 | .fp a cs=>if cs.isEmpty=true then none else some (.fp a cs)
 | .clo f a b=>some (.clo f a b)
 |_=>none
def zDX(agg:Bool)(n off:Nat)(x:PV):Option PV:=
 match x with
 | .agg cs=>if agg=true then some (.agg ((cs.drop off).take n))else cs[off]?
 |_=>none
def pAdd(a:AV)(k:Nat):AV:=
 match a with
 | .ptr o i=>.ptr o (i+k)
 |a=>a
def zAK(off:Nat)(x:PV):Option PV:=
 match x with
 | .ptr s i=>some (.ptr s (i+off))
 | .fp a cs=>if cs.isEmpty=true then none else some (.fp (pAdd a off) (cs.drop off))
 |_=>none
def pAt(a:AV)(k:Nat):AV:=
 match a with
 | .sl o off _ _=>.ptr o (off+k)
 |_=>.ptr 0 0
def zCb(sz:Nat)(x i:PV):Option PV:=
 match x,i with
 | .sl s off len _,.int _ n=>if 0<=n/\n<len then some (.ptr s (off+n.toNat*sz))else none
 | .fz _ a len cs,.int _ n=>if 0<=n/\n<len then some (.fp (pAt a (n.toNat*sz)) (cs.drop (n.toNat*sz)))else none
 |_,_=>none
def zEH(x i:PV):Option PV:=
 match x,i with
 | .str s,.int _ n=>if 0<=n then(s[n.toNat]?).map λc=>.int .u8 c.toNat else none
 |_,_=>none
def zCz(x:PV)(i:Nat):Option PV:=
 match x with
 | .tup vs=>vs[i]?
 |_=>none
def plen(x:PV):Option Nat:=
 match x with
 | .fz _ _ n _=>some n
 | .sl _ _ n _=>some n
 |_=>none
def pLen(x:PV):Option PV:=(plen x).map λn=>.int .i64 n
def zEG(x:PV):Option PV:=
 match x with
 | .str s=>some (.int .i64 s.length)
 |_=>none
def pCap(x:PV):Option PV:=
 match x with
 | .sl _ _ _ (.known c)=>some (.int .i64 c)
 | .fz _ .nils _ _=>some (.int .i64 0)
 |_=>none
def zCa(mx:Bool)(x y:PV):Option PV:=
 match x,y with
 | .int k a,.int k' b=>if k=k' then some (.int k (if mx=true then max a b else min a b))else none
 |_,_=>none
def pldv(agg:Bool)(n:Nat)(x:PV)(σ:PHeap):Option PV:=
 match x with
 | .ptr s i=>if agg=true then(σ.rd s i n).map .agg else σ.rd1 s i
 | .fp _ cs=>if agg=true then(if 0<n/\n<=cs.length then some (.agg (cs.take n))else none)else cs[0]?
 |_=>none
def qp(nb nr:Nat)(op:IOp)(e:PEnv)(σ:PHeap):Option PV:=
 match op with
 | .mv x=>some (x.pv e)
 | .pick c a b=>pPick (c.pv e) (a.pv e) (b.pv e)
 | .bin op ek x y=>pbin op ek (x.pv e) (y.pv e)
 | .un op x=>pun op (x.pv e)
 | .conv k x=>pConv k (x.pv e)
 | .nilCheck x=>pNil (x.pv e)
 | .build z ps=>(pfill (ofAVs z) (ps.map λp=>(p.1,p.2.1,p.2.2.pv e))).map .agg
 | .field agg n off x=>zDX agg n off (x.pv e)
 | .fieldAddr off x=>zAK off (x.pv e)
 | .indexAddr sz x i=>zCb sz (x.pv e) (i.pv e)
 | .indexStr x i=>zEH (x.pv e) (i.pv e)
 | .extract x i=>zCz (x.pv e) i
 | .len x=>pLen (x.pv e)
 | .lenStr x=>zEG (x.pv e)
 | .cap x=>pCap (x.pv e)
 | .slice sz x lo hi mx=>zAI sz (x.pv e) (lo.map (·.pv e)) (hi.map (·.pv e)) (mx.map (·.pv e))
 | .sliceStr x lo hi=>zBy (x.pv e) (lo.map (·.pv e)) (hi.map (·.pv e))
 | .maxmin mx x y=>zCa mx (x.pv e) (y.pv e)
 | .makeFunc f first cJ=>some (.clo f (first.map (·.pv e)) (cJ.map (·.pv e)))
 | .load agg n x=>pldv agg n (x.pv e) σ
 | .rev k=>if k<nr then some (.ptr (nb+k) 0)else none
 | .revS k n=>if k<nr then some (.sl (nb+k) 0 n (.known n))else none
 |_=>none
def ZY(e:Nat)(σ:PHeap)(x:PV)(n:Nat):Option (List PV):=
 if n=0 then some []else
 match x with
 | .sl s off len _=>if n<=len then σ.rd s off (n*e)else none
 | .fz _ _ len cs=>if n<=len/\n*e<=cs.length/\0<e then some (cs.take (n*e))else none
 |_=>none
def zCZ:List PV->Option (List UInt8)
 |[]=>some []
 | .int .u8 n::r=>(zCZ r).map λs=>UInt8.ofNat n.toNat::s
 |_=>none
def zBh(σ:PHeap)(x:PV):Option (List UInt8):=(plen x).bind λn=>(ZY 1 σ x n).bind zCZ
def pgrow(e bytes:Nat)(σ:PHeap)(s:PV)(news:List PV)(m:Nat):Option (PV×PHeap):=
 match s with
 | .fz _ .nils _ _=>if m*bytes<=140737488355328/\m<=4611686018427387904 then some (.sl σ.next 0 m (.grown e),σ.new news)else none
 | .fz w (.sl _ _ _ (.known c)) len cs=>
  if c<len+m/\(w=true\/cs.isEmpty=false)/\cs.length=len*e/\(len+m)*bytes<=140737488355328/\len+m<=4611686018427387904 then some (.sl σ.next 0 (len+m) (.grown e),σ.new (cs++news))else none
 | .sl s off len (.known c)=>
  if len+m<=c then(σ.wr s (off+len*e) news).map λσ'=>(.sl s off (len+m) (.known c),σ')
  else if (len+m)*bytes<=140737488355328/\len+m<=4611686018427387904 then(σ.rd s off (len*e)).map λold=>(.sl σ.next 0 (len+m) (.grown e),σ.new (old++news))else none
 | .sl s off len (.grown g)=>
  if (len+m)*bytes<=140737488355328/\len+m<=4611686018427387904/\g=e then
   (σ.obj s).bind λcs=>if off+len*e<=cs.length then some (.sl σ.next 0 (len+m) (.grown e),(σ.kill s).new ((cs.drop off).take (len*e)++news))else none
  else none
 |_=>none
def psame(s:PV):Option PV:=
 match s with
 | .fz _ .nils _ _=>some (.fz true .nils 0 [])
 | .sl s off len (.known c)=>if len<=c then some (.sl s off len (.known c))else none
 | .sl s off len (.grown e)=>some (.sl s off len (.grown e))
 | .fz w (.sl o off l c) len cs=>some (.fz w (.sl o off l c) len cs)
 |_=>none
def qB(e bytes:Nat)(σ:PHeap)(s x:PV):Option (PV×PHeap):=
 (plen x).bind λm=>if m=0 then(psame s).map λv=>(v,σ)else(ZY e σ x m).bind λnews=>pgrow e bytes σ s news m
def pcopy(e:Nat)(σ:PHeap)(d s:PV):Option (PV×PHeap):=
 (plen d).bind λn=>(plen s).bind λm=>if min m n=0 then some (.int .i64 0,σ)else
  match d with
  | .sl o off _ _=>(ZY e σ s (min m n)).bind λcs=>(σ.wr o off cs).map λσ'=>(.int .i64 (min m n:Nat),σ')
  |_=>none
section
variable{ι ι':Nat->Nat}{Z Z':Nat->Prop}{h h':AHeap}{σ σ':PHeap}
theorem zAC(ι:Nat->Nat):∀cs:List PV,ers ι cs=cs.map (er ι)
 |[]=>rfl
 |c::cs=>by rw[ers,zAC ι cs];rfl
theorem zG4:∀cs:List AV,ofAVs cs=cs.map ofAV
 |[]=>rfl
 |c::cs=>by rw[ofAVs,zG4 cs];rfl
mutual
theorem zGr(ι:Nat->Nat):∀v:AV,er ι (ofAV v)=v
 | .undef | .bool _ | .int _ _ | .str _ | .nilp | .nilf | .nils | .ptr _ _ | .sl _ _ _ _=>rfl
 | .clo f a b=>by simp only[ofAV,er,qx ι a,qx ι b]
 | .agg a=>by simp only[ofAV,er,qx ι a]
 | .tup a=>by simp only[ofAV,er,qx ι a]
theorem qx(ι:Nat->Nat):∀v:List AV,ers ι (ofAVs v)=v
 |[]=>rfl
 |c::cs=>by simp only[ofAVs,ers,zGr ι c,qx ι cs]
end
def FzAt(Z:Nat->Prop)(h:AHeap)(w:Bool)(a:AV)(len:Nat)(l:List AV):Prop:=
 (a=.nils/\len=0/\l=[])\/∃o off cap,a=.sl o off len cap/\Z o/\(l=[]\/h.rd o off l.length=some l)/\(∀c,cap=.known c->len<=c)/\(w=true->off=0/\h.obj o=some ⟨true,l⟩)
def FpAt(Z:Nat->Prop)(h:AHeap)(a:AV)(l:List AV):Prop:=
 a.one=true/\(l=[]\/∃o i,a=.ptr o i/\Z o/\h.rd o i l.length=some l)
def idz:Nat->Nat:=λ_=>0
mutual
def VOK(Z:Nat->Prop)(h:AHeap)(n:Nat):PV->Prop
 | .undef | .bool _ | .int _ _ | .str _ | .nilp | .nilf=>True
 | .fz w a len cs=>FzAt Z h w a len (ers idz cs)/\VOKs Z h 0 cs
 | .fp a cs=>FpAt Z h a (ers idz cs)/\VOKs Z h 0 cs
 | .ptr s _=>s<n
 | .sl s _ _ _=>s<n
 | .clo _ a b=>VOKs Z h n a/\VOKs Z h n b
 | .agg cs=>VOKs Z h n cs
 | .tup cs=>VOKs Z h n cs
def VOKs(Z:Nat->Prop)(h:AHeap)(n:Nat):List PV->Prop
 |[]=>True
 |c::cs=>VOK Z h n c/\VOKs Z h n cs
end
theorem Q3:∀{cs:List PV},VOKs Z h n cs↔∀c∈cs,VOK Z h n c
 |[]=>by simp[VOKs]
 |c::cs=>by simp[VOKs,Q3 (cs:=cs)]
theorem FzAt.mono(C:∀o,Z o->Z' o/\h'.obj o=h.obj o){w:Bool}{a:AV}{len:Nat}{E:List AV}(A:FzAt Z h w a len E):FzAt Z' h' w a len E:=by
 rcases A with A|⟨o,off,cap,rfl,l,u,G,D⟩
 .exact .inl A
 .exact .inr ⟨o,off,cap,rfl,(C o l).1,u.imp id λu=>by rw[zH0 (C o l).2];exact u,G,λhw=>⟨(D hw).1,by rw[(C o l).2];exact(D hw).2⟩⟩
theorem FpAt.mono(A:∀o,Z o->Z' o/\h'.obj o=h.obj o){a:AV}{C:List AV}(E:FpAt Z h a C):FpAt Z' h' a C:=by
 obtain⟨l,rfl|⟨o,i,rfl,u,D⟩⟩:=E
 .exact⟨l,.inl rfl⟩
 .exact⟨l,.inr ⟨o,i,rfl,(A o u).1,by rw[zH0 (A o u).2];exact D⟩⟩
mutual
theorem VOK.mono(l:∀o,Z o->Z' o/\h'.obj o=h.obj o){n n':Nat}(u:n<=n'):∀{v:PV},VOK Z h n v->VOK Z' h' n' v
 | .undef,_ | .bool _,_ | .int _ _,_ | .str _,_ | .nilp,_ | .nilf,_=>trivial
 | .fz w a len cs,hv=>⟨hv.1.mono l,VOKs.mono l (na 0) hv.2⟩
 | .fp a cs,hv=>⟨hv.1.mono l,VOKs.mono l (na 0) hv.2⟩
 | .ptr s _,hv=>Yk (show s<n from hv) u
 | .sl s _ _ _,hv=>Yk (show s<n from hv) u
 | .clo _ a b,hv=>⟨VOKs.mono l u hv.1,VOKs.mono l u hv.2⟩
 | .agg cs,hv=>VOKs.mono (cs:=cs) l u hv
 | .tup cs,hv=>VOKs.mono (cs:=cs) l u hv
theorem VOKs.mono(u:∀o,Z o->Z' o/\h'.obj o=h.obj o){n n':Nat}(l:n<=n'):∀{cs:List PV},VOKs Z h n cs->VOKs Z' h' n' cs
 |[],_=>trivial
 |c::cs,hv=>⟨VOK.mono u l hv.1,VOKs.mono u l hv.2⟩
end
theorem VOKs.up{v:List PV}(A:VOKs Z h n v)(l:n<=n'):VOKs Z h n' v:=A.mono (λo u=>⟨u,rfl⟩) l
mutual
theorem zFP{n:Nat}(hi:∀s,s<n->ι' s=ι s):∀{v:PV},VOK Z h n v->er ι' v=er ι v
 | .undef,_ | .bool _,_ | .int _ _,_ | .str _,_ | .nilp,_ | .nilf,_=>rfl
 | .fz w a len cs,hv=>rfl
 | .fp a cs,hv=>rfl
 | .ptr s _,hv=>by simp only[er];rw[hi s hv]
 | .sl s _ _ _,hv=>by simp only[er];rw[hi s hv]
 | .clo _ a b,hv=>by simp only[er];rw[Zh hi hv.1,Zh hi hv.2]
 | .agg cs,hv=>by simp only[er];rw[Zh (cs:=cs) hi hv]
 | .tup cs,hv=>by simp only[er];rw[Zh (cs:=cs) hi hv]
theorem Zh{n:Nat}(hi:∀s,s<n->ι' s=ι s):∀{cs:List PV},VOKs Z h n cs->ers ι' cs=ers ι cs
 |[],_=>rfl
 |c::cs,hv=>by simp only[ers];rw[zFP hi hv.1,Zh hi hv.2]
end
theorem zBG{cs:List PV}(l:VOKs Z h 0 cs):ers ι cs=ers idz cs:=Zh (λs hs=>absurd hs (Nat.not_lt_zero _)) l
theorem zDt{v:PV}(l:VOK Z h 0 v):er ι v=er idz v:=zFP (λs hs=>absurd hs (Nat.not_lt_zero _)) l
mutual
theorem VOK.ofAV:∀(v:AV),VOK Z h n (ofAV v)
 | .undef | .bool _ | .int _ _ | .str _ | .nilp | .nilf=>trivial
 | .nils=>⟨.inl ⟨rfl,rfl,rfl⟩,trivial⟩
 | .ptr _ _ | .sl _ _ _ _=>⟨⟨rfl,.inl rfl⟩,trivial⟩
 | .clo f a b=>⟨VOKs.ofAVs a,VOKs.ofAVs b⟩
 | .agg cs=>VOKs.ofAVs cs
 | .tup cs=>VOKs.ofAVs cs
theorem VOKs.ofAVs:∀(v:List AV),VOKs Z h n (ofAVs v)
 |[]=>trivial
 |c::cs=>⟨VOK.ofAV c,VOKs.ofAVs cs⟩
end
theorem zRO{v:PV}(l:VOK Z h n v):(er ι v).one=v.one:=by
 cases v with
 |fz w a len cs=>
  obtain⟨rfl,_⟩|⟨o,off,cap,rfl,_⟩:=l.1<;>rfl
 |fp a cs=>exact l.1.1
 |_=>rfl
theorem zI4{a:AV}(l:a.one=true):a.cells=[a]:=by cases a<;>first|rfl|cases l
theorem zFQ{v:PV}(l:VOK Z h n v):(er ι v).cells=ers ι v.cells:=by
 cases v with
 |fz w a len cs=>
  obtain⟨rfl,_⟩|⟨o,off,cap,rfl,_⟩:=l.1<;>rfl
 |fp a cs=>exact zI4 l.1.1
 |_=>rfl
theorem VOK.cells{v:PV}(l:VOK Z h n v):VOKs Z h n v.cells:=by
 cases v with
 |agg cs=>exact l
 |_=>exact⟨l,trivial⟩
theorem zm(cs:List PV):(ers ι cs).length=cs.length:=by simp[zAC]
theorem ZP(as l:List PV):ers ι (as++l)=ers ι as++ers ι l:=by simp[zAC]
theorem Z7(as:List PV)(k:Nat):ers ι (as.take k)=(ers ι as).take k:=by simp[zAC,List.map_take]
theorem Z8(as:List PV)(k:Nat):ers ι (as.drop k)=(ers ι as).drop k:=by simp[zAC,List.map_drop]
theorem zCj(as:List PV)(k:Nat):(ers ι as)[k]? = (as[k]?).map (er ι):=by simp[zAC]
theorem zEQ{cs:List PV}(l:VOKs Z h n cs):(ers ι cs).all AV.one=cs.all PV.one:=by
 induction cs with
 |nil=>rfl
 |cons c cs ih=>simp only[ers,List.all_cons,zRO l.1,ih l.2]
theorem VOKs.append{as l:List PV}(u:VOKs Z h n as)(A:VOKs Z h n l):VOKs Z h n (as++l):=by
 rw[Q3]at *;intro c hc;rcases YY.1 hc with hc|hc
 .exact u c hc
 .exact A c hc
theorem VOKs.take{as:List PV}(l:VOKs Z h n as)(k:Nat):VOKs Z h n (as.take k):=by
 rw[Q3]at *;exactλc u=>l c (UM u)
theorem VOKs.drop{as:List PV}(l:VOKs Z h n as)(k:Nat):VOKs Z h n (as.drop k):=by
 rw[Q3]at *;exactλc u=>l c (List.mem_of_mem_drop u)
theorem VOKs.get{as:List PV}(l:VOKs Z h n as){k:Nat}{v:PV}(u:as[k]? = some v):VOK Z h n v:=Q3.1 l v (Yf u)
structure Rel(ι:Nat->Nat)(Z:Nat->Prop)(σ:PHeap)(h:AHeap):Prop where
 hwf:HWF h
 zlt:∀o,Z o->o<h.next
 top:σ.top<=h.next
 wf:∀s,σ.next<=s->σ.obj s=none
 obj:∀s cs,σ.obj s=some cs->h.obj (ι s)=some ⟨true,ers ι cs⟩/\VOKs Z h σ.next cs/\¬Z (ι s)
 inj:∀s s' cs eY,σ.obj s=some cs->σ.obj s'=some eY->ι s=ι s'->s=s'
structure Aft(ι:Nat->Nat)(Z:Nat->Prop)(σ:PHeap)(h:AHeap)(ι':Nat->Nat)(Z':Nat->Prop)(σ':PHeap)(h':AHeap):Prop where
 next:σ.next<=σ'.next
 hnext:h.next<=h'.next
 inj:∀s,s<σ.next->ι' s=ι s
 z:∀o,Z o->Z' o/\h'.obj o=h.obj o
 dead:∀s,s<σ.next->σ.obj s=none->σ'.obj s=none
 fresh:∀s cs,σ.next<=s->σ'.obj s=some cs->h.next<=ι' s
theorem Rel.none_lt(r:Rel ι Z σ h){s:Nat}{cs:List PV}(hs:σ.obj s=some cs):s<σ.next:=by
 rcases YG s σ.next with x|x
 .exact x
 .rw[r.wf s x]at hs;cases hs
theorem Aft.refl(r:Rel ι Z σ h):Aft ι Z σ h ι Z σ h:=⟨na _,na _,λ_ _=>rfl,λo l=>⟨l,rfl⟩,λ_ _ h=>h,λs cs hs l=>absurd (r.none_lt l) (by omega)⟩
theorem Aft.trans{ι'':Nat->Nat}{u:Nat->Prop}{σ'':PHeap}{dZ:AHeap}(a:Aft ι Z σ h ι' Z' σ' h')(b:Aft ι' Z' σ' h' ι'' u σ'' dZ):Aft ι Z σ h ι'' u σ'' dZ:=
 ⟨Y7 a.next b.next,Y7 a.hnext b.hnext,λs hs=>(b.inj s (Yk hs a.next)).trans (a.inj s hs),
  λo l=>⟨(b.z o (a.z o l).1).1,(b.z o (a.z o l).1).2.trans (a.z o l).2⟩,λs hs A=>b.dead s (Yk hs a.next) (a.dead s hs A),
  λs cs hs l=>by
   rcases YG s σ'.next with x|x
   .rw[b.inj s x];cases hc:σ'.obj s with
    |none=>rw[b.dead s x hc]at l;cases l
    |some ds=>exact a.fresh s ds hs hc
   .exact Y7 a.hnext (b.fresh s cs x l)⟩
theorem Aft.vok{v:PV}(a:Aft ι Z σ h ι' Z' σ' h')(l:VOK Z h σ.next v):VOK Z' h' σ'.next v:=l.mono a.z a.next
theorem Aft.voks{v:List PV}(a:Aft ι Z σ h ι' Z' σ' h')(l:VOKs Z h σ.next v):VOKs Z' h' σ'.next v:=l.mono a.z a.next
theorem Aft.er{v:PV}(a:Aft ι Z σ h ι' Z' σ' h')(l:VOK Z h σ.next v):er ι' v=er ι v:=zFP a.inj l
theorem Aft.ers{v:List PV}(a:Aft ι Z σ h ι' Z' σ' h')(l:VOKs Z h σ.next v):ers ι' v=ers ι v:=Zh a.inj l
def EOK(Z:Nat->Prop)(h:AHeap)(n:Nat)(E:PEnv):Prop:=∀t,VOK Z h n (E t)
def erE(ι:Nat->Nat)(E:PEnv):Env:=λt=>er ι (E t)
theorem Aft.eok{E:PEnv}(a:Aft ι Z σ h ι' Z' σ' h')(l:EOK Z h σ.next E):EOK Z' h' σ'.next E:=λt=>a.vok (l t)
theorem Aft.erE{E:PEnv}(a:Aft ι Z σ h ι' Z' σ' h')(l:EOK Z h σ.next E):erE ι' E=erE ι E:=funext λt=>a.er (l t)
theorem zBT(E:PEnv)(d:Option Nat)(v:PV):erE ι (E.put d v)=(erE ι E).put d (er ι v):=by
 cases d with
 |none=>rfl
 |some d=>funext t;simp only[Go.Ab.erE,PEnv.put,Env.put];split<;>rfl
theorem EOK.put{E:PEnv}(l:EOK Z h n E){v:PV}(u:VOK Z h n v)(d:Option Nat):EOK Z h n (E.put d v):=by
 cases d with
 |none=>exact l
 |some d=>intro t;simp only[PEnv.put];split;exact u;exact l t
theorem zCl:∀(S:List Nat) (vs:List PV),erE ι (PEnv.mk S vs)=Env.mk S (ers ι vs)
 |[],vs=>by funext t;simp[Go.Ab.erE,PEnv.mk,Env.mk,er]
 |s::S,[]=>by funext t;simp[Go.Ab.erE,PEnv.mk,Env.mk,er,Go.Ab.ers]
 |s::S,v::vs=>by
  funext t
  have:=congrFun (zCl S vs) t
  simp only[Go.Ab.erE,PEnv.mk,Env.mk,Go.Ab.ers]at this ⊢;split
  .rfl
  .exact this
theorem EOK.mk:∀{S:List Nat} {vs:List PV},VOKs Z h n vs->EOK Z h n (PEnv.mk S vs)
 |[],vs,_=>λt=>trivial
 |s::S,[],_=>λt=>trivial
 |s::S,v::vs,hv=>λt=>by simp only[PEnv.mk];split;exact hv.1;exact EOK.mk hv.2 t
theorem zCk(E:PEnv)(S:List Nat):ers ι (S.map E)=S.map (erE ι E):=by simp[zAC,erE]
theorem EOK.map{E:PEnv}(u:EOK Z h n E)(S:List Nat):VOKs Z h n (S.map E):=by
 rw[Q3];intro c l;obtain⟨t,_,rfl⟩:=Yj.1 l;exact u t
theorem er_pv(E:PEnv)(x:IX):er ι (x.pv E)=x.ev (erE ι E):=by
 cases x with
 |t n=>rfl
 |c v=>exact zGr ι v
theorem EOK.pv{E:PEnv}(l:EOK Z h n E)(x:IX):VOK Z h n (x.pv E):=by
 cases x with
 |t n=>exact l n
 |c v=>exact VOK.ofAV v
theorem zGq(E:PEnv)(l:List IX):ers ι (l.map (·.pv E))=l.map (·.ev (erE ι E)):=by
 rw[zAC,Uw];exact List.map_congr_left λx _=>er_pv E x
theorem EOK.pvs{E:PEnv}(A:EOK Z h n E)(l:List IX):VOKs Z h n (l.map (·.pv E)):=by
 rw[Q3];intro c u;obtain⟨x,_,rfl⟩:=Yj.1 u;exact A.pv x
theorem zGe(r:Rel ι Z σ h){s i k:Nat}{vs:List PV}(l:σ.rd s i k=some vs):h.rd (ι s) i k=some (ers ι vs)/\VOKs Z h σ.next vs:=by
 simp only[PHeap.rd,YZ]at l;obtain⟨cs,C,l⟩:=l;split at l
 .rename_i D;cases l;obtain⟨u,A,_⟩:=r.obj s cs C;refine⟨?_,(A.drop _).take _⟩;rw[zBv u (by simpa [zm]using D),Z7,Z8]
 .cases l
theorem zOY(r:Rel ι Z σ h){s i:Nat}{v:PV}(l:σ.rd1 s i=some v):h.rd1 (ι s) i=some (er ι v)/\VOK Z h σ.next v:=by
 simp only[PHeap.rd1,YZ]at l;obtain⟨cs,C,l⟩:=l;obtain⟨u,A,_⟩:=r.obj s cs C;exact⟨by rw[zFr u,zCj,l];rfl,A.get l⟩
theorem zCv(r:Rel ι Z σ h){agg:Bool}{k:Nat}{x v:PV}(I:VOK Z h σ.next x)(l:pldv agg k x σ=some v):ldv agg k (er ι x) h=some (er ι v)/\VOK Z h σ.next v:=by
 cases x<;>simp only[pldv,reduceCtorEq]at l
 case ptr s i=>
  simp only[er,ldv];cases agg with
  |true=>
   simp only[if_true,YJ]at l ⊢;obtain⟨vs,l,rfl⟩:=l;obtain⟨u,A⟩:=zGe r l;exact⟨⟨_,u,rfl⟩,A⟩
  |false=>
   simp only[Bool.false_eq_true,if_false]at l ⊢;exact zOY r l
 case fp a cs=>
  obtain⟨⟨J,u⟩,A⟩:=I;have C:=A.up (YW σ.next);rcases u with u|⟨o,i,rfl,M,D⟩
  .have:cs=[]:=YF (by rw[<-zm (ι:=idz),u];rfl)
   subst this;cases agg with
   |true=>
    simp only[if_true]at l;split at l
    .rename_i E;simp at E;omega
    .cases l
   |false=>simp at l
  .simp only[er,ldv];cases agg with
   |true=>
    simp only[if_true]at l ⊢;split at l
    .rename_i E;cases l
     have:=zDR D (a:=0) (b:=k) (by rw[zm];omega)
     rw[UN,List.drop_zero]at this;rw[this,<-Z7];exact⟨by simp[er,zBG (ι:=ι) (A.take k)],C.take k⟩
    .cases l
   |false=>
    simp only[Bool.false_eq_true,if_false]at l ⊢;have G:0<(ers idz cs).length:=by
     rw[zm];exact(Yn.1 l).1
    have:=zMo D G
    rw[UN]at this;rw[this,zCj,l];exact⟨by simp[zDt (ι:=ι) (A.get l)],C.get l⟩
theorem zCI:∀{l:List (Nat×Nat×PV)} {cells cs:List PV},(∀p∈l,VOK Z h n p.2.2)->VOKs Z h n cells->pfill cells l=some cs->
  afill (ers ι cells) (l.map λp=>(p.1,p.2.1,er ι p.2.2))=some (ers ι cs)/\VOKs Z h n cs
 |[],cells,cs,_,hc,hv=>by cases hv;exact⟨rfl,hc⟩
 |(off,size,v)::l,cells,cs,hp,hc,hv=>by
  simp only[pfill]at hv;split at hv
  .rename_i u;have A:VOK Z h n v:=hp (off,size,v) (by simp);have C:=zCI (λp D=>hp p (by simp[D])) (((hc.take off).append A.cells).append (hc.drop (off+size))) hv;simp only[YO,afill];rw[zFQ A,if_pos ⟨by rw[zm];exact u.1,by rw[zm];exact u.2.1,by rw[zEQ A.cells];exact u.2.2⟩];rw[ZP,ZP,Z7,Z8]at C;exact C
  .cases hv
theorem zMA{a:AV}(l:ZL a=true):a=.nils:=by cases a<;>first|rfl|cases l
theorem zBf{x:PV}{y k:Nat}(l:Qo x y=some k):zA2 (er ι x) y=some k:=by
 cases x<;>simp only[Qo,reduceCtorEq]at l
 exact l
theorem zl{x:Option PV}{d y k:Nat}(l:zq x d y=some k):zi (x.map (er ι)) d y=some k:=by
 cases x with
 |none=>exact l
 |some x=>exact zBf l
theorem zNA{x:PV}{y k:Nat}(l:Qo x y=some k):k<=y:=by
 cases x<;>simp only[Qo,reduceCtorEq]at l
 split at l
 .cases l;omega
 .cases l
theorem zFs{x:Option PV}{d y k:Nat}(hd:d<=y)(l:zq x d y=some k):k<=y:=by
 cases x with
 |none=>cases l;exact hd
 |some x=>exact zNA l
theorem zJE(e:Nat)(lo hi:Option AV):QZ e .nils lo hi none=(zi hi 0 0).bind λh=>(zi lo 0 h).bind λ_=>if hi.isNone=true/\(none:Option AV).isSome=true then none else some .nils:=rfl
theorem zHh(e o off len c:Nat)(lo hi:Option AV):QZ e (.sl o off len (.known c)) lo hi none=(zi hi len c).bind λh=>(zi lo 0 h).bind λl=>
   if hi.isNone=true/\(none:Option AV).isSome=true then none else some (.sl o (if c=l then off else off+l*e) (h-l) (.known (c-l))):=rfl
theorem zH8{e:Nat}{x v:PV}{lo hi mx:Option PV}(J:VOK Z h n x)(u:zAI e x lo hi mx=some v):
  QZ e (er ι x) (lo.map (er ι)) (hi.map (er ι)) (mx.map (er ι))=some (er ι v)/\VOK Z h n v:=by
 cases x<;>simp only[zAI,reduceCtorEq]at u
 case sl s off len cap=>
  cases cap with
  |known c=>
   simp only[YZ]at u;obtain⟨m,E,k,A,l,C,u⟩:=u;split at u
   .cases u
   .rename_i D;cases u;simp only[er,QZ];rw[zl E];simp only[YM];rw[zl A];simp only[YM];rw[zl C];simp only[YM,Option.isNone_map,Option.isSome_map];rw[if_neg D];exact⟨rfl,J⟩
  |grown g=>
   cases mx with
   |none=>
    simp only[YZ]at u;obtain⟨k,A,l,C,u⟩:=u;cases u;simp only[er,QZ,Option.map_none];rw[zl A];simp only[YM];rw[zl C];simp only[YM];exact⟨trivial,J⟩
   |some mx=>
    simp only[YZ]at u;obtain⟨m,E,k,A,l,C,u⟩:=u;split at u
    .cases u
    .rename_i D;cases u;simp only[er,QZ,Option.map_some];rw[zBf E];simp only[YM];rw[zl A];simp only[YM];rw[zl C];simp only[YM,Option.isNone_map];rw[if_neg D];exact⟨rfl,J⟩
 case fz w a len cs=>
  cases mx with
  |some mx=>
   cases a<;>try cases u
   simp only[YZ]at u;obtain⟨m,E,k,A,l,C,u⟩:=u;split at u
   .cases u
   .rename_i D;cases u;simp only[er,QZ,Option.map_some];rw[show zi (some (er ι mx)) 0 0=some m from zBf E];simp only[YM];rw[zl A];simp only[YM];rw[zl C];simp only[YM,Option.isNone_map];rw[if_neg λh=>D h.1];exact⟨rfl,.inl ⟨rfl,rfl,rfl⟩,trivial⟩
  |none=>
   simp only[YZ]at u;obtain⟨k,A,l,C,u⟩:=u;cases u;have hk:=zFs (na _) A;have hl:=zFs (YW _) C;obtain⟨Y,D⟩:=J;have O:VOKs Z h 0 ((cs.drop (l*e)).take ((k-l)*e)):=(D.drop _).take _;simp only[er,Option.map_none];rcases Y with ⟨rfl,rfl,X⟩|⟨o,off,cap,rfl,N,h5,U,h7⟩
   .have:cs=[]:=YF (by rw[<-zm (ι:=idz),X];rfl)
    subst this;obtain rfl:k=0:=by omega
    obtain rfl:l=0:=by omega
    rw[zJE];rw[show zi (hi.map (er ι)) 0 0=some 0 from zl A];simp only[YM];rw[show zi (lo.map (er ι)) 0 0=some 0 from zl C];simp only[YM];refine⟨by simp[pslA],.inl ⟨rfl,rfl,by simp[ers]⟩,by simp[VOKs]⟩
   .have cL:∀I,(I=off+l*e\/(I=off/\(k-l)*e=0))->(ers idz ((cs.drop (l*e)).take ((k-l)*e))=[]\/h.rd o I (ers idz ((cs.drop (l*e)).take ((k-l)*e))).length=some (ers idz ((cs.drop (l*e)).take ((k-l)*e)))):=by
     rintro I (rfl|⟨rfl,T⟩)
     .rw[Z7,Z8];by_cases hle:l*e<(ers idz cs).length
      .right;rcases h5 with h5|h5
       .rw[h5]at hle;simp at hle
       .have:=zDR h5 (a:=l*e) (b:=((List.drop (l*e) (ers idz cs)).take ((k-l)*e)).length) (by simp;omega)
        rw[this];congr 1;rw[Yu];apply List.ext_getElem?;intro q;simp only[Yd];split
        .split
         .rfl
         .omega
        .split
         .have:(List.drop (l*e) (ers idz cs)).length<=q:=by omega
          rw[Yq this]
         .rfl
      .left;rw[List.drop_eq_nil_of_le (by omega)];simp
     .left;rw[T];rfl
    cases cap with
    |known c=>
     have oM:=U c rfl;rw[zHh];have V:∀{x:Option PV} {d q:Nat},d=len->zq x d len=some q->zi (x.map (er ι)) d c=some q:=by
      intro x d q hd G;cases x with
      |none=>exact G
      |some x=>
       cases x<;>simp only[zq,Qo,reduceCtorEq]at G
       split at G
       .rename_i S;cases G;simp only[Option.map_some,er,zi,zA2];rw[if_pos ⟨S.1,by omega⟩]
       .cases G
     rw[V rfl A];simp only[YM];rw[zl C];simp only[YM,Option.isSome_none,Bool.false_eq_true,and_false,if_false];refine⟨rfl,.inr ⟨o,_,_,rfl,N,?_,?_,by simp⟩,O⟩
     .by_cases M:c=l
      .rw[if_pos M];exact cL _ (.inr ⟨rfl,by rw[show k-l=0 by omega,Nat.zero_mul]⟩)
      .rw[if_neg M];exact cL _ (.inl rfl)
     .intro c' kL;cases kL;omega
    |grown g=>
     simp only[QZ,Option.map_none];rw[zl A];simp only[YM];rw[zl C];simp only[YM];exact⟨rfl,.inr ⟨o,_,_,rfl,N,cL _ (.inl rfl),(λc D=>by cases D),by simp⟩,O⟩
end
section
variable{P:Program}{ι ι':Nat->Nat}{Z Z':Nat->Prop}{h h':AHeap}{σ σ':PHeap}
theorem qW{op:BinOp}{b:Bool}{v:PV}(l:pnil op b=some v):anil op b=some (er ι v)/\VOK Z h n v:=by
 cases op<;>simp only[pnil,reduceCtorEq]at l<;>cases l<;>exact⟨rfl,trivial⟩
theorem zBA{o:Option AV}{v:PV}(l:o.map ofAV=some v):o=some (er ι v)/\VOK Z h n v:=by
 obtain⟨a,rfl,rfl⟩:=YJ.1 l;exact⟨by rw[zGr],VOK.ofAV a⟩
theorem zEn:∀{xs ys:List PV} {r:Bool},paggB xs ys=some r->aggB (ers ι xs) (ers ι ys)=some r
 |[],[],r,h=>h
 |[],y::ys,r,h=>by cases y<;>simp[paggB]at h
 |x::xs,[],r,h=>by cases x<;>simp[paggB]at h
 |x::xs,y::ys,r,h=>by
  cases x<;>cases y<;>simp only[paggB,reduceCtorEq]at h
  split at h
  .rename_i l;obtain⟨A,u,rfl⟩:=YJ.1 h;simp only[ers,er,aggB,if_pos l,zEn u,Option.map_some]
  .cases h
theorem zLe{op:BinOp}{A:EqK}{x y v:PV}(E:VOK Z h n x)(G:VOK Z h n y)(u:pbin op A x y=some v):abin op A (er ι x) (er ι y)=some (er ι v)/\VOK Z h n v:=by
 cases x<;>cases y<;>simp only[pbin,reduceCtorEq]at u
 case int.int k a k' b=>exact zBA u
 case str.str a b=>
  have:=zBA (ι:=ι) (Z:=Z) (h:=h) (n:=n) u
  exact⟨this.1,this.2⟩
 case bool.bool a b=>cases A<;>simp only[reduceCtorEq]at u;exact qW u
 case agg.agg xs ys=>
  cases A<;>simp only[reduceCtorEq]at u
  split at u
  .rename_i J;obtain⟨r,M,u⟩:=YZ.1 u
   have:=qW (ι:=ι) (Z:=Z) (h:=h) (n:=n) u
   refine⟨?_,this.2⟩;simp only[er,abin,zm,if_pos J,zEn M,YM];exact this.1
  .cases u
 case nilp.nilp=>cases A<;>simp only[reduceCtorEq]at u;exact qW u
 case nilp.ptr=>cases A<;>simp only[reduceCtorEq]at u;exact qW u
 case ptr.nilp=>cases A<;>simp only[reduceCtorEq]at u;exact qW u
 case nilf.nilf=>cases A<;>simp only[reduceCtorEq]at u;exact qW u
 case nilf.clo=>cases A<;>simp only[reduceCtorEq]at u;exact qW u
 case clo.nilf=>cases A<;>simp only[reduceCtorEq]at u;exact qW u
 case fz.fz w a l cs w' a' l' eY=>
  cases A<;>simp only[reduceCtorEq]at u
  obtain⟨rfl,_⟩|⟨o,off,cap,rfl,_⟩:=E.1<;>obtain⟨rfl,_⟩|⟨I,D,C,rfl,_⟩:=G.1<;>simp only[ZL,if_true,Bool.false_eq_true,if_false,reduceCtorEq]at u
  .exact qW u
  .exact qW u
  .exact qW u
 case sl.fz s off len cap w' a' l' eY=>
  cases A<;>simp only[reduceCtorEq]at u
  obtain⟨rfl,_⟩|⟨I,D,C,rfl,_⟩:=G.1<;>simp only[ZL,if_true,Bool.false_eq_true,if_false,reduceCtorEq]at u
  exact qW u
 case fz.sl w' a' l' eY s off len cap=>
  cases A<;>simp only[reduceCtorEq]at u
  obtain⟨rfl,_⟩|⟨I,D,C,rfl,_⟩:=E.1<;>simp only[ZL,if_true,Bool.false_eq_true,if_false,reduceCtorEq]at u
  exact qW u
theorem zMr{op:UnOp}{x v:PV}(l:pun op x=some v):aun op (er ι x)=some (er ι v)/\VOK Z h n v:=by
 cases x<;>simp only[pun,reduceCtorEq]at l
 .exact zBA l
 .exact zBA l
theorem zII{sz:Nat}{x i v:PV}(A:VOK Z h n x)(l:zCb sz x i=some v):qi sz (er ι x) (er ι i)=some (er ι v)/\VOK Z h n v:=by
 cases x<;>cases i<;>simp only[zCb,reduceCtorEq]at l
 case sl.int s off len cap k m=>
  split at l
  .rename_i u;cases l;simp only[er,qi];rw[if_pos u];exact⟨rfl,A⟩
  .cases l
 case fz.int w a len cs k m=>
  split at l
  .rename_i u;cases l;obtain⟨E,C⟩:=A;rcases E with ⟨rfl,rfl,_⟩|⟨o,off,cap,rfl,D,h2,_⟩
   .omega
   .simp only[er,qi,pAt];rw[if_pos u];refine⟨rfl,⟨rfl,?_⟩,C.drop _⟩;rw[Z8];rcases h2 with h2|h2
    .left;rw[h2];simp
    .by_cases G:m.toNat*sz<(ers idz cs).length
     .right;refine⟨_,_,rfl,D,?_⟩;rw[zDR h2 (a:=m.toNat*sz) (b:=(List.drop (m.toNat*sz) (ers idz cs)).length) (by simp;omega),Yg]
     .left;exact List.drop_eq_nil_of_le (by omega)
  .cases l
def RevOK(ι:Nat->Nat)(σ:PHeap)(nb nr nb1:Nat):Prop:=∀k,k<nr->nb+k<σ.next/\ι (nb+k)=nb1+k
theorem zH1(r:Rel ι Z σ h){E:PEnv}(C:EOK Z h σ.next E){nb nr nb1:Nat}(T:RevOK ι σ nb nr nb1){op:IOp}{v:PV}(u:qp nb nr op E σ=some v):
  qv nb1 op (erE ι E) h=some (er ι v)/\VOK Z h σ.next v:=by
 cases op<;>simp only[qp,reduceCtorEq]at u<;>simp only[qv,<-er_pv]
 case mv x=>cases u;exact⟨rfl,C.pv x⟩
 case pick c a b=>
  have J:=C.pv c
  revert u;generalize c.pv E=c';intro u
  cases c'<;>simp only[pPick,reduceCtorEq]at u
  cases u;simp only[er,aPick];split
  .exact⟨rfl,C.pv a⟩
  .exact⟨rfl,C.pv b⟩
 case bin o k x y=>exact zLe (C.pv x) (C.pv y) u
 case un o x=>exact zMr u
 case conv k x=>
  revert u;generalize x.pv E=x';intro u
  cases x'<;>simp only[pConv,reduceCtorEq]at u
  cases u;exact⟨rfl,trivial⟩
 case nilCheck x=>
  have A:=C.pv x
  revert u A;generalize x.pv E=x';intro u A
  cases x'<;>simp only[pNil,reduceCtorEq]at u
  .rename_i a cs;split at u
   .cases u
   .rename_i M;cases u;obtain⟨⟨V,D⟩,G⟩:=A;rcases D with D|⟨o,i,rfl,I⟩
    .cases cs with
     |nil=>exact absurd rfl M
     |cons c cs=>simp[ers]at D
    .exact⟨rfl,⟨V,.inr ⟨o,i,rfl,I⟩⟩,G⟩
  .cases u;exact⟨rfl,A⟩
  .cases u;exact⟨rfl,A⟩
 case build z ps=>
  obtain⟨cs,hf,rfl⟩:=YJ.1 u
  have:=zCI (ι:=ι) (Z:=Z) (h:=h) (n:=σ.next) (λp hp=>by obtain⟨q,_,rfl⟩:=Yj.1 hp;exact C.pv _) (VOKs.ofAVs z) hf
  rw[qx,Uw]at this;refine⟨?_,this.2⟩;have G:(List.map ((λp:Nat×Nat×PV=>(p.1,p.2.1,er ι p.2.2)) ∘ λp:Nat×Nat×IX=>(p.1,p.2.1,p.2.2.pv E)) ps)=ps.map λp=>(p.1,p.2.1,er ι (p.2.2.pv E)):=rfl;rw[G]at this;rw[this.1];rfl
 case field a k off x=>
  have A:=C.pv x
  revert u A;generalize x.pv E=x';intro u A
  cases x'<;>simp only[zDX,reduceCtorEq]at u
  rename_i cs;simp only[er,q8];have U:VOKs Z h σ.next cs:=A;cases a with
  |true=>
   simp only[if_true]at u ⊢;cases u;simp only[er,Z7,Z8];exact⟨trivial,(U.drop _).take _⟩
  |false=>
   simp only[Bool.false_eq_true,if_false]at u ⊢;rw[zCj,u];exact⟨rfl,U.get u⟩
 case fieldAddr off x=>
  have A:=C.pv x
  revert u A;generalize x.pv E=x';intro u A
  cases x'<;>simp only[zAK,reduceCtorEq]at u
  .rename_i a cs;split at u
   .cases u
   .rename_i M;cases u;obtain⟨⟨V,D⟩,G⟩:=A;rcases D with D|⟨o,i,rfl,I,Y⟩
    .cases cs with
     |nil=>exact absurd rfl M
     |cons c cs=>simp[ers]at D
    .refine⟨rfl,⟨rfl,?_⟩,G.drop _⟩;rw[Z8];by_cases hl:off<(ers idz cs).length
     .right;refine⟨o,i+off,rfl,I,?_⟩;rw[zDR Y (a:=off) (b:=(List.drop off (ers idz cs)).length) (by simp;omega),Yg]
     .left;exact List.drop_eq_nil_of_le (by omega)
  .cases u;exact⟨rfl,A⟩
 case indexAddr sz x i=>exact zII (C.pv x) u
 case indexStr x i=>
  revert u;generalize x.pv E=x';generalize i.pv E=i';intro u
  cases x'<;>cases i'<;>simp only[zEH,reduceCtorEq]at u
  split at u
  .rename_i J;obtain⟨c,X,rfl⟩:=YJ.1 u;simp only[er,qd];rw[if_pos J,X];exact⟨rfl,trivial⟩
  .cases u
 case extract x i=>
  have A:=C.pv x
  revert u A;generalize x.pv E=x';intro u A
  cases x'<;>simp only[zCz,reduceCtorEq]at u
  rename_i vs;simp only[er,qR];rw[zCj,u];exact⟨rfl,VOKs.get (as:=vs) A u⟩
 case len x=>
  have A:=C.pv x
  revert u A;generalize x.pv E=x';intro u A
  cases x'<;>simp only[pLen,plen,Option.map_none,Option.map_some,reduceCtorEq]at u<;>cases u
  .obtain⟨rfl,rfl,_⟩|⟨o,off,cap,rfl,_⟩:=A.1<;>exact⟨rfl,trivial⟩
  .exact⟨rfl,trivial⟩
 case lenStr x=>
  revert u;generalize x.pv E=x';intro u
  cases x'<;>simp only[zEG,reduceCtorEq]at u
  cases u;exact⟨rfl,trivial⟩
 case cap x=>
  revert u;generalize x.pv E=x';intro u
  cases x'<;>(try (simp only[pCap,reduceCtorEq]at u;done))
  case sl s off len cap=>
   simp only[pCap]at u;cases cap<;>simp only[reduceCtorEq]at u
   cases u;exact⟨rfl,trivial⟩
  case fz w a l cs=>
   cases a<;>simp only[pCap,reduceCtorEq]at u
   cases u;exact⟨rfl,trivial⟩
 case slice sz x lo hi mx=>
  have:=zH8 (ι:=ι) (C.pv x) u
  simpa only[Option.map_map,Function.comp_def]using this
 case sliceStr x lo hi=>
  revert u;generalize x.pv E=x';intro u
  cases x'<;>simp only[zBy,reduceCtorEq]at u
  simp only[YZ]at u;obtain⟨k,G,l,I,u⟩:=u;cases u;simp only[er,zCC];have N:=zl (ι:=ι) G;have O:=zl (ι:=ι) I;rw[Option.map_map]at N O;simp only[Function.comp_def]at N O;rw[N];simp only[YM];rw[O];simp only[YM];exact⟨trivial,trivial⟩
 case maxmin m x y=>
  revert u;generalize x.pv E=x';generalize y.pv E=y';intro u
  cases x'<;>cases y'<;>simp only[zCa,reduceCtorEq]at u
  split at u
  .rename_i J;cases u;simp only[er,qc];rw[if_pos J];exact⟨rfl,trivial⟩
  .cases u
 case makeFunc f a b=>
  cases u;simp only[er,zGq,er_pv];exact⟨trivial,C.pvs a,C.pvs b⟩
 case load a k x=>exact zCv r (C.pv x) u
 case rev k=>
  split at u
  .rename_i S;cases u;obtain⟨D,G⟩:=T k S;exact⟨by simp only[er];rw[G],D⟩
  .cases u
 case revS k m=>
  split at u
  .rename_i S;cases u;obtain⟨D,G⟩:=T k S;exact⟨by simp only[er];rw[G],D⟩
  .cases u
def Up(ι:Nat->Nat)(Z:Nat->Prop)(σ:PHeap)(h:AHeap)(K:PV->PHeap->Prop):AV->AHeap->Prop:=λv h'=>
 ∃pv σ' ι' Z',Rel ι' Z' σ' h'/\Aft ι Z σ h ι' Z' σ' h'/\VOK Z' h' σ'.next pv/\v=er ι' pv/\K pv σ'
def zA(P:Program)(f:FuncId)(args:List PV)(σ:PHeap)(K:PV->PHeap->Prop):Prop:=
 ∀(ι:Nat->Nat) (Z:Nat->Prop) (h:AHeap),Rel ι Z σ h->VOKs Z h σ.next args->ZZ P f (ers ι args) h (Up ι Z σ h K)
theorem zA.mono{f:FuncId}{args:List PV}{K K':PV->PHeap->Prop}(c:zA P f args σ K)(l:∀v σ',K v σ'->K' v σ'):zA P f args σ K':=
 λι Z h r u=>(c ι Z h r u).mono λ_ _ ⟨pv,σ',ι',Z',a,b,d,e,k⟩=>⟨pv,σ',ι',Z',a,b,d,e,l _ _ k⟩
def ep(P:Program)(op:IOp)(e:PEnv)(σ:PHeap)(K:PV->PHeap->Prop):Prop:=
 match op with
 | .alloc z=>K (.ptr σ.next 0) (σ.new (ofAVs z))
 | .box x=>(x.pv e).cells.all PV.one=true/\K (.ptr σ.next 0) (σ.new (x.pv e).cells)
 | .buildSl sz len z ps=>optK (pfill (ofAVs (zeros z len)) (ps.map λp=>(p.1,p.2.1,p.2.2.pv e))) λcs=>K (.sl σ.next 0 len (.known len)) (σ.new cs)
 | .store n x v=>match x.pv e with
  | .ptr s i=>(v.pv e).cells.length=n/\optK (σ.wr s i (v.pv e).cells) λσ'=>K .undef σ'
  |_=>False
 | .makeSl sz bytes z l c=>match l.pv e,c.pv e with
  | .int _ l,.int _ c=>(0<=l/\l<=c/\c*bytes<=140737488355328/\c<=9223372036854775807)/\K (.sl σ.next 0 l.toNat (.known c.toNat)) (σ.new (ofAVs (zeros z c.toNat)))
  |_,_=>False
 | .append sz bytes s x=>optK (qB sz bytes σ (s.pv e) (x.pv e)) λp=>K p.1 p.2
 | .appendMk sz bytes z s n=>match s.pv e,n.pv e with
  | .fz _ .nils _ _,.int _ n=>(0<=n/\n*bytes<=140737488355328/\n<=4611686018427387904)/\if 0<n then K (.sl σ.next 0 n.toNat (.grown sz)) (σ.new (ofAVs (zeros z n.toNat)))else K (.fz true .nils 0 []) σ
  | .sl s off len c,.int _ n=>(0<=n/\n*bytes<=140737488355328/\n<=4611686018427387904)/\optK (if 0<n then pgrow sz bytes σ (.sl s off len c) (ofAVs (zeros z n.toNat)) n.toNat else(psame (.sl s off len c)).map λv=>(v,σ)) λp=>K p.1 p.2
  |_,_=>False
 | .copy sz d s=>optK (pcopy sz σ (d.pv e) (s.pv e)) λp=>K p.1 p.2
 | .call f args=>zA P f (args.map (·.pv e)) σ K
 | .callV f args=>match f.pv e with
  | .clo f first cJ=>okF P f=true/\zA P f (first++args.map (·.pv e)++cJ) σ K
  |_=>False
 | .strOf x=>optK (zBh σ (x.pv e)) λs=>K (.str s) σ
 |_=>False
def putι(ι:Nat->Nat)(s o:Nat):Nat->Nat:=λl=>if l=s then o else ι l
theorem Rel.new(r:Rel ι Z σ h){cs:List PV}(I:VOKs Z h σ.next cs):Rel (putι ι σ.next h.next) Z (σ.new cs) (h.new ⟨true,ers ι cs⟩)/\Aft ι Z σ h (putι ι σ.next h.next) Z (σ.new cs) (h.new ⟨true,ers ι cs⟩):=by
 have A:Aft ι Z σ h (putι ι σ.next h.next) Z (σ.new cs) (h.new ⟨true,ers ι cs⟩):=
  ⟨by simp[PHeap.new],by simp[AHeap.new],λs hs=>by simp[putι,Nat.ne_of_lt hs],λo l=>⟨l,zC1 (by have:=r.zlt o l;omega) _⟩,λs hs N=>by simp only[PHeap.new];rw[if_neg (by omega)];exact N,
   λs E hs l=>by
    by_cases e:s=σ.next
    .subst e;simp[putι]
    .simp only[PHeap.new,if_neg e]at l;exact absurd (r.none_lt l) (by omega)⟩
 refine⟨⟨r.hwf.new _,λo l=>by have:=r.zlt o l;simp only[AHeap.new];omega,by have:=r.top;simp only[PHeap.new,AHeap.new];omega,λs hs=>?_,λs E hs=>?_,λs C a b hs D hi=>?_⟩,A⟩
 .simp only[PHeap.new]at hs ⊢;rw[if_neg (by omega)];exact r.wf s (by omega)
 .simp only[PHeap.new]at hs;by_cases e:s=σ.next
  .subst e;rw[if_pos rfl]at hs;cases hs;refine⟨?_,A.voks I,λS=>?_⟩
   .rw[A.ers I];simp[putι,AHeap.new]
   .have:=r.zlt _ S;simp[putι]at this
  .rw[if_neg e]at hs;obtain⟨u,G,J⟩:=r.obj s E hs;refine⟨?_,A.voks G,by simpa [putι,e]using J⟩;rw[A.ers G];simp only[putι,if_neg e];rw[zC1 (by have:=r.hwf.lt u;omega)];exact u
 .have ah:∀{t:Nat} {a:List PV},t≠σ.next->(σ.new cs).obj t=some a->σ.obj t=some a:=λO M=>by simpa [PHeap.new,O]using M
  by_cases e:s=σ.next
  .by_cases e':C=σ.next
   .rw[e,e']
   .obtain⟨u,_⟩:=r.obj C b (ah e' D)
    have:=r.hwf.lt u
    subst e;simp[putι,e']at hi;omega
  .by_cases e':C=σ.next
   .obtain⟨u,_⟩:=r.obj s a (ah e hs)
    have:=r.hwf.lt u
    subst e';simp[putι,e]at hi;omega
   .simp only[putι,if_neg e,if_neg e']at hi;exact r.inj s C a b (ah e hs) (ah e' D) hi
theorem Rel.set(r:Rel ι Z σ h){s:Nat}{cs u:List PV}(hs:σ.obj s=some cs)(O:VOKs Z h σ.next u):Rel ι Z (σ.set s u) (h.set (ι s) (ers ι u))/\Aft ι Z σ h ι Z (σ.set s u) (h.set (ι s) (ers ι u)):=by
 obtain⟨N,U,E⟩:=r.obj s cs hs;have C:Aft ι Z σ h ι Z (σ.set s u) (h.set (ι s) (ers ι u)):=
  ⟨na _,na _,λ_ _=>rfl,λo A=>⟨A,zFj (λe=>E (by rw[<-e];exact A)) _⟩,λt l D=>by
   simp only[PHeap.set];rw[if_neg (λe=>by subst e;rw[hs]at D;cases D)];exact D,λt u l A=>by
   have:=r.none_lt hs
   simp only[PHeap.set]at A;rw[if_neg (by omega)]at A;exact absurd (r.none_lt A) (by omega)⟩
 refine⟨⟨r.hwf.set (r.hwf.lt N) _,r.zlt,r.top,λt l=>?_,λt as l=>?_,λt t' a b l G hi=>?_⟩,C⟩
 .have an:t≠s:=λe=>by subst e;rw[r.wf t l]at hs;cases hs
  simp only[PHeap.set,if_neg an];exact r.wf t l
 .simp only[PHeap.set]at l;by_cases e:t=s
  .subst e;rw[if_pos rfl]at l;cases l;exact⟨zLM _ _,C.voks O,E⟩
  .rw[if_neg e]at l;obtain⟨I,J,M⟩:=r.obj t as l;exact⟨by rw[zFj (λe'=>e (r.inj t s as cs l hs e'))];exact I,C.voks J,M⟩
 .have conv:∀{t:Nat} {a:List PV},(σ.set s u).obj t=some a->∃a',σ.obj t=some a':=λ{t a} l=>by
   simp only[PHeap.set]at l;by_cases e:t=s
   .subst e;exact⟨_,hs⟩
   .rw[if_neg e]at l;exact⟨_,l⟩
  obtain⟨a',T⟩:=conv l;obtain⟨b',S⟩:=conv G;exact r.inj t t' a' b' T S hi
theorem Rel.kill(r:Rel ι Z σ h){s:Nat}{cs:List PV}(hs:σ.obj s=some cs):Rel ι Z (σ.kill s) (h.kill (ι s))/\Aft ι Z σ h ι Z (σ.kill s) (h.kill (ι s)):=by
 obtain⟨N,O,I⟩:=r.obj s cs hs;have A:Aft ι Z σ h ι Z (σ.kill s) (h.kill (ι s)):=
  ⟨na _,na _,λ_ _=>rfl,λo u=>⟨u,zEt (λe=>I (by rw[<-e];exact u))⟩,λt l J=>by
   simp only[PHeap.kill];split;rfl;exact J,λt M l u=>by
   simp only[PHeap.kill]at u;split at u;cases u;exact absurd (r.none_lt u) (by omega)⟩
 have conv:∀{t:Nat} {a:List PV},(σ.kill s).obj t=some a->t≠s/\σ.obj t=some a:=λ{t a} l=>by
  simp only[PHeap.kill]at l;split at l
  .cases l
  .exact⟨by assumption,l⟩
 refine⟨⟨r.hwf.kill _,r.zlt,r.top,λt l=>?_,λt as l=>?_,λt t' a b l C hi=>r.inj t t' a b (conv l).2 (conv C).2 hi⟩,A⟩
 .simp only[PHeap.kill];split
  .rfl
  .exact r.wf t l
 .obtain⟨e,l⟩:=conv l
  obtain⟨D,E,G⟩:=r.obj t as l;exact⟨by rw[zEt (λe'=>e (r.inj t s as cs l hs e'))];exact D,A.voks E,G⟩
theorem zDS(r:Rel ι Z σ h){s i:Nat}{vs:List PV}(A:VOKs Z h σ.next vs)(hw:σ.wr s i vs=some σ'):
  ∃h',h.wr (ι s) i (ers ι vs)=some h'/\Rel ι Z σ' h'/\Aft ι Z σ h ι Z σ' h':=by
 simp only[PHeap.wr,YZ]at hw;obtain⟨cs,hs,hw⟩:=hw;split at hw
 .rename_i u;cases hw;obtain⟨C,l,E⟩:=r.obj s cs hs;obtain⟨D,a'⟩:=r.set hs (((l.take i).append A).append (l.drop (i+vs.length)));refine⟨_,?_,D,a'⟩;rw[zQp C (by rw[zm,zm];exact u.1) (by rw[zEQ A];exact u.2)];rw[ZP,ZP,Z7,Z8,zm]
 .cases hw
theorem zA8{x:PV}(u:VOK Z h n x){m:Nat}(l:plen x=some m):alen (er ι x)=some m:=by
 cases x<;>simp only[plen,reduceCtorEq]at l<;>cases l
 .obtain⟨rfl,rfl,_⟩|⟨o,off,cap,rfl,_⟩:=u.1<;>rfl
 .rfl
theorem zBe(r:Rel ι Z σ h){e:Nat}{x:PV}(E:VOK Z h σ.next x){m:Nat}{cs:List PV}(l:ZY e σ x m=some cs):zAa e h (er ι x) m=some (ers ι cs)/\VOKs Z h σ.next cs:=by
 unfold ZY at l;unfold zAa;split at l
 .rename_i A;cases l;rw[if_pos A];exact⟨rfl,trivial⟩
 .rename_i A;rw[if_neg A];split at l
  .rename_i s off len cap;split at l
   .rename_i u;simp only[er];rw[if_pos u];exact zGe r l
   .cases l
  .rename_i w a len cs;split at l
   .rename_i u;cases l;obtain⟨D,C⟩:=E;have G:=(C.take (m*e)).up (YW σ.next);simp only[er];rcases D with ⟨rfl,rfl,_⟩|⟨o,off,cap,rfl,I,h2,_⟩
    .omega
    .simp only;rw[if_pos u.1,zBG (ι:=ι) (C.take _),Z7];refine⟨?_,G⟩;rcases h2 with h2|h2
     .have:=u.2.1
      have J:cs.length=0:=by rw[<-zm (ι:=idz),h2];rfl
      have:=Nat.mul_pos (Nat.pos_of_ne_zero A) u.2.2
      omega
     .have:=zDR h2 (a:=0) (b:=m*e) (by rw[zm];omega)
      simpa using this
   .cases l
  .cases l
theorem zEm(r:Rel ι Z σ h){e bytes:Nat}{s:PV}(hs:VOK Z h σ.next s){news:List PV}(D:VOKs Z h σ.next news){m:Nat}{p:PV×PHeap}(u:pgrow e bytes σ s news m=some p):
  ∃q,agrow e bytes h (er ι s) (ers ι news) m=some q/\∃ι' Z',Rel ι' Z' p.2 q.2/\Aft ι Z σ h ι' Z' p.2 q.2/\VOK Z' q.2 p.2.next p.1/\q.1=er ι' p.1:=by
 unfold pgrow at u;split at u
 ·-- nil
  split at u
  .rename_i A;cases u;obtain⟨C,a'⟩:=r.new D;simp only[er,agrow];rw[if_pos A];exact⟨_,rfl,_,_,C,a',YP _,by simp[er,putι]⟩
  .cases u
 ·-- frozen, full
  rename_i w o off l c len cs;split at u
  .rename_i A;cases u;obtain⟨G,N⟩:=hs;have O:=N.up (YW σ.next);obtain⟨C,a'⟩:=r.new (O.append D);rcases G with ⟨G,_⟩|⟨o',dD,aG,X,E,h2,U,V⟩
   .cases G
   cases X;simp only[er,agrow];rw[if_neg (by omega),if_pos A.2.2.2]
   have:h.rd o off (l*e)=some (ers ι cs):=by
    rw[zBG (ι:=ι) N];rcases h2 with h2|h2
    .have eU:cs=[]:=YF (by rw[<-zm (ι:=idz),h2];rfl);subst eU;rcases A.2.1 with hw|hw
     .obtain⟨rfl,I⟩:=V hw;rw[<-A.2.2.1,zBv I (by simp)];rfl
     .simp at hw
    .rw[zm,A.2.2.1]at h2;exact h2
   rw[this,Option.map_some,<-ZP];exact⟨_,rfl,_,_,C,a',YP _,by simp[er,putι]⟩
  .cases u
 .rename_i s off len c;simp only[er,agrow];split at u
  .rename_i A;rw[if_pos A];obtain⟨σ',hw,rfl⟩:=YJ.1 u;obtain⟨h',s5,C,a'⟩:=zDS r D hw;rw[s5];exact⟨_,rfl,_,_,C,a',a'.vok hs,rfl⟩
  .rename_i A;rw[if_neg A];split at u
   .rename_i T;rw[if_pos T];obtain⟨old,I,rfl⟩:=YJ.1 u;obtain⟨E,h2⟩:=zGe r I;obtain⟨C,a'⟩:=r.new (h2.append D);rw[E,Option.map_some,<-ZP];exact⟨_,rfl,_,_,C,a',YP _,by simp[er,putι]⟩
   .cases u
 .rename_i s off len g;simp only[er,agrow];split at u
  .rename_i A;rw[if_pos A];simp only[YZ]at u;obtain⟨cs,M,u⟩:=u;split at u
   .rename_i Y;cases u;obtain⟨E,h2,U⟩:=r.obj s cs M;obtain⟨r1,J⟩:=r.kill M;obtain⟨r2,S⟩:=r1.new (J.voks (((h2.drop off).take (len*e)).append D));rw[E];simp only[YM];rw[if_pos ⟨trivial,by rw[zm];exact Y⟩,<-Z8,<-Z7,<-ZP];exact⟨_,rfl,_,_,r2,J.trans S,YP _,by simp[er,putι,PHeap.kill,AHeap.kill]⟩
   .cases u
  .cases u
 .cases u
theorem zEl{s v:PV}(hs:VOK Z h n s)(u:psame s=some v):asame (er ι s)=some (er ι v)/\VOK Z h n v:=by
 unfold psame at u;split at u
 .cases u;exact⟨rfl,.inl ⟨rfl,rfl,rfl⟩,trivial⟩
 .split at u
  .rename_i E;cases u;simp only[er,asame];rw[if_pos E];exact⟨rfl,hs⟩
  .cases u
 .cases u;exact⟨rfl,hs⟩
 .rename_i w o off l c len cs;cases u;have C:=hs;obtain⟨A,_⟩:=hs;rcases A with ⟨A,_⟩|⟨O,J,I,G,M,N,D,_⟩
  .cases A
  cases G;simp only[er];cases c with
  |known c=>simp only[asame];rw[if_pos (D c rfl)];exact⟨rfl,C⟩
  |grown g=>exact⟨rfl,C⟩
 .cases u
theorem zHR(r:Rel ι Z σ h){e bytes:Nat}{s x:PV}(hs:VOK Z h σ.next s)(D:VOK Z h σ.next x){p:PV×PHeap}(l:qB e bytes σ s x=some p):
  ∃q,zCo e bytes h (er ι s) (er ι x)=some q/\∃ι' Z',Rel ι' Z' p.2 q.2/\Aft ι Z σ h ι' Z' p.2 q.2/\VOK Z' q.2 p.2.next p.1/\q.1=er ι' p.1:=by
 simp only[qB,YZ]at l;obtain⟨m,E,l⟩:=l;simp only[zCo];rw[zA8 D E];simp only[YM];split at l
 .rename_i u;rw[if_pos u];obtain⟨v,I,rfl⟩:=YJ.1 l;obtain⟨A,C⟩:=zEl (ι:=ι) hs I;rw[A];exact⟨_,rfl,_,_,r,Aft.refl r,C,rfl⟩
 .rename_i u;rw[if_neg u];simp only[YZ]at l;obtain⟨news,G,l⟩:=l;obtain⟨A,C⟩:=zBe r D G;rw[A];exact zEm r hs C l
theorem zJm(r:Rel ι Z σ h){e:Nat}{d s:PV}(hd:VOK Z h σ.next d)(hs:VOK Z h σ.next s){p:PV×PHeap}(l:pcopy e σ d s=some p):
  ∃q,acopy e h (er ι d) (er ι s)=some q/\∃ι' Z',Rel ι' Z' p.2 q.2/\Aft ι Z σ h ι' Z' p.2 q.2/\VOK Z' q.2 p.2.next p.1/\q.1=er ι' p.1:=by
 simp only[pcopy,YZ]at l;obtain⟨m,G,k,E,l⟩:=l;simp only[acopy];rw[zA8 hd G,zA8 hs E];simp only[YM];split at l
 .rename_i u;rw[if_pos u];cases l;exact⟨_,rfl,_,_,r,Aft.refl r,trivial,rfl⟩
 .rename_i u;rw[if_neg u];split at l
  .rename_i o off len cap;simp only[YZ]at l;obtain⟨cs,D,l⟩:=l;obtain⟨σ',hw,rfl⟩:=YJ.1 l;obtain⟨A,C⟩:=zBe r hs D;obtain⟨h',J,I,a'⟩:=zDS r C hw;simp only[er];rw[A];simp only[YM];rw[J];exact⟨_,rfl,_,_,I,a',trivial,rfl⟩
  .cases l
theorem zDW:∀{cs:List PV} {s:List UInt8},zCZ cs=some s->zBo (ers ι cs)=some s
 |[],s,hs=>hs
 |c::cs,s,hs=>by
  unfold zCZ at hs;split at hs
  .rename_i heq;cases heq
  .rename_i n r heq;cases heq;obtain⟨t,l,rfl⟩:=YJ.1 hs;simp only[ers,er,zBo,zDW l,Option.map_some]
  .cases hs
theorem zIt(r:Rel ι Z σ h){E:PEnv}(C:EOK Z h σ.next E){op:IOp}{K:PV->PHeap->Prop}(u:ep P op E σ K):eff P op (erE ι E) h (Up ι Z σ h K):=by
 have mk:∀{v:PV} {σ':PHeap} {ι':Nat->Nat} {Z':Nat->Prop} {h':AHeap},Rel ι' Z' σ' h'->Aft ι Z σ h ι' Z' σ' h'->VOK Z' h' σ'.next v->K v σ'->Up ι Z σ h K (er ι' v) h':=λa b c d=>⟨_,_,_,_,a,b,c,rfl,d⟩
 have nw:∀{cs:List PV} {v:PV} ,VOKs Z h σ.next cs->(∀ι',VOK Z (h.new ⟨true,ers ι cs⟩) (σ.next+1) v/\(ι' σ.next=h.next->er ι' v=er (putι ι σ.next h.next) v))->K v (σ.new cs)->Up ι Z σ h K (er (putι ι σ.next h.next) v) (h.new ⟨true,ers ι cs⟩):=λD J u=>by
  obtain⟨A,a'⟩:=r.new D;exact⟨_,_,_,_,A,a',(J (putι ι σ.next h.next)).1,rfl,u⟩
 cases op<;>simp only[ep]at u<;>simp only[eff,<-er_pv]<;>(try (exact u.elim))
 case alloc z=>
  obtain⟨A,a'⟩:=r.new (VOKs.ofAVs z);rw[qx]at A a';exact⟨_,_,_,_,A,a',YP _,by simp[er,putι],u⟩
 case box x=>
  have I:=(C.pv x).cells;obtain⟨A,a'⟩:=r.new I;rw[zFQ (C.pv x)];exact⟨by rw[zEQ I];exact u.1,_,_,_,_,A,a',YP _,by simp[er,putι],u.2⟩
 case buildSl sz len z ps=>
  obtain⟨cs,hf,u⟩:=u
  have:=zCI (ι:=ι) (Z:=Z) (h:=h) (n:=σ.next) (λp G=>by obtain⟨q,_,rfl⟩:=Yj.1 G;exact C.pv _) (VOKs.ofAVs (zeros z len)) hf
  rw[qx,Uw]at this;have O:(List.map ((λp:Nat×Nat×PV=>(p.1,p.2.1,er ι p.2.2)) ∘ λp:Nat×Nat×IX=>(p.1,p.2.1,p.2.2.pv E)) ps)=ps.map λp=>(p.1,p.2.1,er ι (p.2.2.pv E)):=rfl;rw[O]at this;obtain⟨A,a'⟩:=r.new this.2;exact⟨_,this.1,_,_,_,_,A,a',YP _,by simp[er,putι],u⟩
 case store k x v=>
  have I:=C.pv x
  revert u I;generalize x.pv E=x';intro u I
  cases x'<;>simp only at u
  rename_i s i;obtain⟨hl,σ',hw,u⟩:=u;obtain⟨h',s5,A,a'⟩:=zDS r (C.pv v).cells hw;simp only[er];rw[zFQ (C.pv v)];exact⟨by rw[zm];exact hl,_,s5,.undef,_,_,_,A,a',trivial,rfl,u⟩
 case makeSl sz bytes z l c=>
  revert u;generalize l.pv E=l';generalize c.pv E=c';intro u
  cases l'<;>cases c'<;>simp only at u
  obtain⟨D,u⟩:=u;simp only[er];rename_i k1 l T c;obtain⟨A,a'⟩:=r.new (VOKs.ofAVs (zeros z c.toNat));rw[qx]at A a';exact⟨D,_,_,_,_,A,a',YP _,by simp[er,putι],u⟩
 case appendMk sz bytes z s n=>
  have hs:=C.pv s
  revert u hs;generalize s.pv E=s';generalize n.pv E=n';intro u hs
  cases s'<;>cases n'<;>(try (simp only at u;done))
  .rename_i w1 U l1 X T n;cases U with
   |nils=>
    obtain⟨D,u⟩:=u;simp only[er];refine⟨D,?_⟩;by_cases N:0<n
    .rw[if_pos N]at u ⊢;obtain⟨A,a'⟩:=r.new (VOKs.ofAVs (zeros z n.toNat));rw[qx]at A a';exact⟨_,_,_,_,A,a',YP _,by simp[er,putι],u⟩
    .rw[if_neg N]at u ⊢;exact⟨.fz true .nils 0 [],_,_,_,r,Aft.refl r,(show VOK Z h σ.next (.fz true .nils 0 []) from⟨.inl ⟨rfl,rfl,rfl⟩,trivial⟩),rfl,u⟩
   |_=>simp only at u
  .rename_i s1 Ld l1 X T n;obtain⟨D,p,G,u⟩:=u;simp only[er];by_cases N:0<n
   .rw[if_pos N]at G ⊢;have hz:VOKs Z h σ.next (ofAVs (zeros z n.toNat)):=VOKs.ofAVs _;obtain⟨q,M,ι',Z',A,a',J,e⟩:=zEm r hs hz G;rw[qx]at M;exact⟨D,q,M,_,_,_,_,A,a',J,e,u⟩
   .rw[if_neg N]at G ⊢;obtain⟨v,jj,rfl⟩:=YJ.1 G;obtain⟨S,O⟩:=zEl (ι:=ι) hs jj;simp only[er]at S;rw[S];exact⟨D,_,rfl,_,_,_,_,r,Aft.refl r,O,rfl,u⟩
 case append sz bytes s x=>
  obtain⟨p,G,u⟩:=u;obtain⟨q,M,ι',Z',A,a',J,e⟩:=zHR r (C.pv s) (C.pv x) G;exact⟨q,M,_,_,_,_,A,a',J,e,u⟩
 case copy sz s x=>
  obtain⟨p,G,u⟩:=u;obtain⟨q,M,ι',Z',A,a',J,e⟩:=zJm r (C.pv s) (C.pv x) G;exact⟨q,M,_,_,_,_,A,a',J,e,u⟩
 case call f args=>
  have:=u ι Z h r (C.pvs args)
  rw[zGq]at this;simpa only[<-er_pv]using this
 case callV f args=>
  have I:=C.pv f
  revert u I;generalize f.pv E=f';intro u I
  cases f'<;>simp only at u
  rename_i f first cJ
  obtain⟨S,O⟩:=u
  have:=O ι Z h r ((I.1.append (C.pvs args)).append I.2)
  rw[ZP,ZP,zGq]at this;simp only[er];exact⟨S,by simpa only[<-er_pv]using this⟩
 case strOf x=>
  obtain⟨s,hs,u⟩:=u;unfold zBh at hs;simp only[YZ]at hs;obtain⟨k,V,cs,D,hb⟩:=hs;obtain⟨Y,g2⟩:=zBe r (C.pv x) D;refine⟨s,?_,.str s,_,_,_,r,Aft.refl r,trivial,rfl,u⟩;simp only[zA8 (C.pv x) V,YM,Y];exact zDW hb
end
section
variable{ι:Nat->Nat}{Z Z':Nat->Prop}{h:AHeap}{σ σ':PHeap}
mutual
def Bel(n:Nat):PV->Prop
 | .ptr s _=>s<n
 | .sl s _ _ _=>s<n
 | .clo _ a b=>Bels n a/\Bels n b
 | .agg cs=>Bels n cs
 | .tup cs=>Bels n cs
 |_=>True
def Bels(n:Nat):List PV->Prop
 |[]=>True
 |c::cs=>Bel n c/\Bels n cs
end
theorem zAp:∀{cs:List PV},Bels n cs↔∀c∈cs,Bel n c
 |[]=>by simp[Bels]
 |c::cs=>by simp[Bels,zAp (cs:=cs)]
mutual
theorem VOK.bel:∀{v:PV},VOK Z h n v->Bel n v
 | .undef,_ | .bool _,_ | .int _ _,_ | .str _,_ | .nilp,_ | .nilf,_ | .fz _ _ _ _,_ | .fp _ _,_=>trivial
 | .ptr _ _,hv=>hv
 | .sl _ _ _ _,hv=>hv
 | .clo _ a b,hv=>⟨VOKs.bel hv.1,VOKs.bel hv.2⟩
 | .agg cs,hv=>VOKs.bel (cs:=cs) hv
 | .tup cs,hv=>VOKs.bel (cs:=cs) hv
theorem VOKs.bel:∀{cs:List PV},VOKs Z h n cs->Bels n cs
 |[],_=>trivial
 |c::cs,hv=>⟨VOK.bel hv.1,VOKs.bel hv.2⟩
end
mutual
theorem VOK.of_bel:∀{v:PV},VOK Z h n v->Bel n' v->VOK Z h n' v
 | .undef,_,_ | .bool _,_,_ | .int _ _,_,_ | .str _,_,_ | .nilp,_,_ | .nilf,_,_=>trivial
 | .fz _ _ _ _,hv,_=>hv
 | .fp _ _,hv,_=>hv
 | .ptr _ _,_,hb=>hb
 | .sl _ _ _ _,_,hb=>hb
 | .clo _ a b,hv,hb=>⟨VOKs.of_bel hv.1 hb.1,VOKs.of_bel hv.2 hb.2⟩
 | .agg cs,hv,hb=>VOKs.of_bel (cs:=cs) hv hb
 | .tup cs,hv,hb=>VOKs.of_bel (cs:=cs) hv hb
theorem VOKs.of_bel:∀{cs:List PV},VOKs Z h n cs->Bels n' cs->VOKs Z h n' cs
 |[],_,_=>trivial
 |c::cs,hv,hb=>⟨VOK.of_bel hv.1 hb.1,VOKs.of_bel hv.2 hb.2⟩
end
mutual
theorem Bel.up(l:n<=n'):∀{v:PV},Bel n v->Bel n' v
 | .undef,_ | .bool _,_ | .int _ _,_ | .str _,_ | .nilp,_ | .nilf,_ | .fz _ _ _ _,_ | .fp _ _,_=>trivial
 | .ptr _ _,hv=>Yk hv l
 | .sl _ _ _ _,hv=>Yk hv l
 | .clo _ a b,hv=>⟨Bels.up l hv.1,Bels.up l hv.2⟩
 | .agg cs,hv=>Bels.up (cs:=cs) l hv
 | .tup cs,hv=>Bels.up (cs:=cs) l hv
theorem Bels.up(l:n<=n'):∀{cs:List PV},Bels n cs->Bels n' cs
 |[],_=>trivial
 |c::cs,hv=>⟨Bel.up l hv.1,Bels.up l hv.2⟩
end
structure PWF(σ:PHeap):Prop where
 wf:∀s,σ.next<=s->σ.obj s=none
 bel:∀s cs,σ.obj s=some cs->Bels σ.next cs
theorem Rel.pwf(r:Rel ι Z σ h):PWF σ:=⟨r.wf,λs cs hs=>(r.obj s cs hs).2.1.bel⟩
theorem PWF.lt(w:PWF σ){s:Nat}{cs:List PV}(hs:σ.obj s=some cs):s<σ.next:=by
 rcases YG s σ.next with x|x
 .exact x
 .rw[w.wf s x]at hs;cases hs
def capOK:Cap->Nat->Bool
 | .known c,l=>decide (l<=c)
 | .grown _,_=>true
mutual
def sb(s o:Nat)(cs:List PV):PV->PV
 | .sl s' off l cap=>if s'=s/\off=0/\capOK cap l=true then .fz true (.sl o 0 l cap) l cs else .sl s' off l cap
 | .clo f a b=>.clo f (sbs s o cs a) (sbs s o cs b)
 | .agg vs=>.agg (sbs s o cs vs)
 | .tup vs=>.tup (sbs s o cs vs)
 |v=>v
def sbs(s o:Nat)(cs:List PV):List PV->List PV
 |[]=>[]
 |v::vs=>sb s o cs v::sbs s o cs vs
end
mutual
theorem er_sb{s o:Nat}{cs:List PV}(u:o=ι s):∀v:PV,er ι (sb s o cs v)=er ι v
 | .undef | .bool _ | .int _ _ | .str _ | .nilp | .nilf | .fz _ _ _ _ | .fp _ _ | .ptr _ _=>rfl
 | .sl s' off l cap=>by
  simp only[sb];split
  .rename_i A;simp only[er];rw[A.1,A.2.1,u]
  .rfl
 | .clo f a b=>by simp only[sb,er,Qm u a,Qm u b]
 | .agg a=>by simp only[sb,er,Qm u a]
 | .tup a=>by simp only[sb,er,Qm u a]
theorem Qm{s o:Nat}{cs:List PV}(l:o=ι s):∀vs:List PV,ers ι (sbs s o cs vs)=ers ι vs
 |[]=>rfl
 |v::vs=>by simp only[sbs,ers,er_sb l v,Qm l vs]
end
mutual
theorem VOK.sb{s o:Nat}{cs:List PV}(C:Z o)(u:h.obj o=some ⟨true,ers idz cs⟩)(A:VOKs Z h 0 cs):∀{v:PV},VOK Z h n v->VOK Z h n (sb s o cs v)
 | .undef,_ | .bool _,_ | .int _ _,_ | .str _,_ | .nilp,_ | .nilf,_=>trivial
 | .fz _ _ _ _,hv | .fp _ _,hv | .ptr _ _,hv=>hv
 | .sl s' off l cap,hv=>by
  simp only[Go.Ab.sb];split
  .rename_i E;refine⟨.inr ⟨o,0,cap,rfl,C,.inr (zCs u rfl),λc D=>?_,λ_=>⟨rfl,u⟩⟩,A⟩;subst D;simpa [capOK]using E.2.2
  .exact hv
 | .clo f a b,hv=>⟨VOKs.sbs C u A hv.1,VOKs.sbs C u A hv.2⟩
 | .agg a,hv=>VOKs.sbs (vs:=a) C u A hv
 | .tup a,hv=>VOKs.sbs (vs:=a) C u A hv
theorem VOKs.sbs{s o:Nat}{cs:List PV}(A:Z o)(u:h.obj o=some ⟨true,ers idz cs⟩)(l:VOKs Z h 0 cs):∀{vs:List PV},VOKs Z h n vs->VOKs Z h n (sbs s o cs vs)
 |[],_=>trivial
 |v::vs,hv=>⟨VOK.sb A u l hv.1,VOKs.sbs A u l hv.2⟩
end
theorem Rel.freeze(r:Rel ι Z σ h){s:Nat}{cs:List PV}(hs:σ.obj s=some cs)(I:Bels 0 cs):
  (Rel ι (λo=>Z o\/o=ι s) ((σ.kill s).up (max σ.top (ι s+1))) h)/\VOKs Z h 0 cs/\h.obj (ι s)=some ⟨true,ers idz cs⟩/\¬Z (ι s):=by
 obtain⟨D,T,U⟩:=r.obj s cs hs;have C:VOKs Z h 0 cs:=T.of_bel I;have E:=r.hwf.lt D;have conv:∀{t:Nat} {a:List PV},(σ.kill s).obj t=some a->t≠s/\σ.obj t=some a:=λ{t a} l=>by
  simp only[PHeap.kill]at l;split at l
  .cases l
  .exact⟨by assumption,l⟩
 refine⟨⟨r.hwf,?_,?_,λt l=>?_,λt u l=>?_,λt t' u S l G J=>r.inj t t' u S (conv l).2 (conv G).2 J⟩,C,by rw[<-zBG C];exact D,U⟩
 .rintro o (A|rfl)
  .exact r.zlt o A
  .exact E
 .have:=r.top
  simp only[PHeap.up];omega
 .simp only[PHeap.kill,PHeap.up];split
  .rfl
  .exact r.wf t l
 .obtain⟨e,l⟩:=conv l
  obtain⟨M,N,O⟩:=r.obj t u l;refine⟨M,N.mono (λo A=>⟨.inl A,rfl⟩) (na _),?_⟩
  rintro(hz|hz)
  .exact O hz
  .exact e (r.inj t s u cs l hs hz)
def PHeap.sub(σ:PHeap)(s o:Nat)(cs:List PV):PHeap:=⟨σ.next,σ.top,λt=>(σ.obj t).map (sbs s o cs)⟩
theorem Rel.sub(r:Rel ι Z σ h){s o:Nat}{cs:List PV}(hs:o=ι s)(J:Z o)(I:h.obj o=some ⟨true,ers idz cs⟩)(E:VOKs Z h 0 cs):Rel ι Z (σ.sub s o cs) h:=by
 have conv:∀{t:Nat} {a:List PV},(σ.sub s o cs).obj t=some a->∃b,σ.obj t=some b/\a=sbs s o cs b:=λ{t a} l=>by
  simp only[PHeap.sub,YJ]at l;obtain⟨b,u,D⟩:=l;exact⟨b,u,D.symm⟩
 refine⟨r.hwf,r.zlt,r.top,λt l=>by simp only[PHeap.sub];rw[r.wf t l];rfl,λt C l=>?_,λt t' C T l A G=>?_⟩
 .obtain⟨b,u,rfl⟩:=conv l
  obtain⟨M,N,O⟩:=r.obj t b u;exact⟨by rw[Qm hs];exact M,VOKs.sbs J I E N,O⟩
 .obtain⟨b,u,_⟩:=conv l
  obtain⟨b',S,_⟩:=conv A;exact r.inj t t' b b' u S G
mutual
theorem zQy{s o:Nat}{cs:List PV}:∀{n:Nat} {v:PV},n<=s->Bel n v->sb s o cs v=v
 |n,.undef,_,_|n,.bool _,_,_|n,.int _ _,_,_|n,.str _,_,_|n,.nilp,_,_|n,.nilf,_,_|n,.fz _ _ _ _,_,_|n,.fp _ _,_,_|n,.ptr _ _,_,_=>rfl
 |n,.sl s' _ _ _,hn,hb=>by
  have:s'<n:=hb
  simp only[sb];rw[if_neg (by omega)]
 |n,.clo _ a b,hn,hb=>by simp only[sb,Qg hn hb.1,Qg hn hb.2]
 |n,.agg a,hn,hb=>by simp only[sb,Qg (vs:=a) hn hb]
 |n,.tup a,hn,hb=>by simp only[sb,Qg (vs:=a) hn hb]
theorem Qg{s o:Nat}{cs:List PV}:∀{n:Nat} {vs:List PV},n<=s->Bels n vs->sbs s o cs vs=vs
 |n,[],_,_=>rfl
 |n,v::vs,hn,hb=>by simp only[sbs,zQy hn hb.1,Qg hn hb.2]
end
theorem zFk{s o:Nat}{cs:List PV}:∀(a b:List PV),sbs s o cs (a++b)=sbs s o cs a++sbs s o cs b
 |[],b=>rfl
 |v::a,b=>by simp only[Yo,sbs,zFk a b]
inductive GL(I:List PV->PHeap->Prop):List PV->PHeap->Prop where
 |here {vs:List PV} {h:PHeap} (k:I vs h):GL I vs h
 |fz {vs:List PV} {h:PHeap} (s:Nat) (cs:List PV) (hs:h.obj s=some cs) (hb:Bels 0 cs) (k:∀o,GL I (sbs s o cs vs) (h.kill s)):GL I vs h
 |fzh {vs:List PV} {h:PHeap} (s:Nat) (cs:List PV) (hs:h.obj s=some cs) (hb:Bels 0 cs) (k:∀o,GL I (sbs s o cs vs) ((h.kill s).sub s o cs)):GL I vs h
theorem GL.sound{I:List PV->PHeap->Prop}{vs:List PV}{σ:PHeap}(g:GL I vs σ):∀{ι:Nat->Nat} {Z:Nat->Prop} {h:AHeap},Rel ι Z σ h->VOKs Z h σ.next vs->
  ∃Z' σ' C,Rel ι Z' σ' h/\Aft ι Z σ h ι Z' σ' h/\VOKs Z' h σ'.next C/\ers ι C=ers ι vs/\I C σ':=by
 induction g with
 |here k=>intro ι Z h r hv;exact⟨Z,_,_,r,Aft.refl r,hv,rfl,k⟩
 |fz s cs hs hb k ih=>
  rename_i vs σ;intro ι Z h r hv;obtain⟨l,D,A,V⟩:=r.freeze hs hb;have u:∀o,Z o->(Z o\/o=ι s)/\h.obj o=h.obj o:=λo A=>⟨.inl A,rfl⟩
  have r2:Rel ι (λo=>Z o\/o=ι s) (σ.kill s) h:=⟨l.hwf,l.zlt,by have:=r.top;exact this,l.wf,l.obj,l.inj⟩
  obtain⟨Z',σ',C,M,N,O,S,T⟩:=ih (ι s) r2 (VOKs.sbs (.inr rfl) A (D.mono u (na _)) (hv.mono u (na _)));have E:Aft ι Z σ h ι (λo=>Z o\/o=ι s) (σ.kill s) h:=⟨na _,na _,λ_ _=>rfl,u,λt J G=>by simp only[PHeap.kill];split;rfl;exact G,λt U J hd=>by
   simp only[PHeap.kill]at hd;split at hd;cases hd;exact absurd (r.none_lt hd) (by omega)⟩
  exact⟨Z',σ',C,M,E.trans N,O,S.trans (Qm rfl vs),T⟩
 |fzh s cs hs hb k ih=>
  rename_i vs σ;intro ι Z h r hv;obtain⟨l,D,A,V⟩:=r.freeze hs hb;have u:∀o,Z o->(Z o\/o=ι s)/\h.obj o=h.obj o:=λo A=>⟨.inl A,rfl⟩
  have r2:Rel ι (λo=>Z o\/o=ι s) (σ.kill s) h:=⟨l.hwf,l.zlt,by have:=r.top;exact this,l.wf,l.obj,l.inj⟩
  have r3:=r2.sub (s:=s) rfl (.inr rfl) A (D.mono u (na _));obtain⟨Z',σ',C,M,N,O,S,T⟩:=ih (ι s) r3 (VOKs.sbs (.inr rfl) A (D.mono u (na _)) (hv.mono u (na _)));have E:Aft ι Z σ h ι (λo=>Z o\/o=ι s) ((σ.kill s).sub s (ι s) cs) h:=⟨na _,na _,λ_ _=>rfl,u,λt J G=>by simp only[PHeap.kill,PHeap.sub];split;rfl;rw[G];rfl,λt U J hd=>by
   simp only[PHeap.kill,PHeap.sub]at hd;split at hd;cases hd;cases Ci:σ.obj t with
   |none=>rw[Ci]at hd;cases hd
   |some b=>exact absurd (r.none_lt Ci) (by omega)⟩
  exact⟨Z',σ',C,M,E.trans N,O,S.trans (Qm rfl vs),T⟩
end
section
variable{P:Program}{ι ι':Nat->Nat}{Z Z':Nat->Prop}{h h':AHeap}{σ σ':PHeap}
def Q6(v:PV)(b:Bool)(x:Option PV):Option PV:=
 match v with
 | .bool c=>if c=b then x else some (.tup [])
 | .tup []=>some (.tup [])
 |_=>none
def QN(v:PV)(b:Bool)(x y:Prop):Prop:=
 match v with
 | .bool c=>if c=b then x else y
 | .tup []=>y
 |_=>False
def QE(v:PV)(a b:Prop):Prop:=
 match v with
 | .bool t=>if t=true then a else b
 |_=>False
def gqp(nb nr:Nat)(it:II)(e:PEnv)(σ:PHeap):Option PV:=
 match it.guard with
 |none=>qp nb nr it.op e σ
 |some (t,b)=>Q6 (e t) b (qp nb nr it.op e σ)
def gep(P:Program)(it:II)(e:PEnv)(σ:PHeap)(K:PV->PHeap->Prop):Prop:=
 match it.guard with
 |none=>ep P it.op e σ K
 |some (t,b)=>QN (e t) b (ep P it.op e σ K) (K (.tup []) σ)
def RVp(P:Program):List II->PEnv->PHeap->(PEnv->PHeap->Prop)->Prop
 |[],e,h,K=>K e h
 |it::r,e,h,K=>match it.q with
  |true=>optK (gqp 0 0 it e h) λv=>RVp P r (e.put it.dst v) h K
  |false=>gep P it e h λv h'=>RVp P r (e.put it.dst v) h' K
structure RecP where
 idx:Nat
 agg:Bool
 n:Nat
 x:PV
 v:PV
def zBK(g:Option (Nat×Bool))(e:PEnv):Bool:=
 match g with
 |none=>true
 |some (t,b)=>match e t with
  | .bool c=>decide (c=b)
  |_=>false
def zw(it:DI)(e:PEnv)(v:PV):List RecP:=
 match it.op with
 | .load agg n x=>if zBK it.guard e=true then [⟨it.idx,agg,n,x.pv e,v⟩]else []
 |_=>[]
def Qb(chk:List Nat):List RecP->PHeap->Prop
 |[],_=>True
 |r::rs,h=>(if chk.contains r.idx=true then pldv r.agg r.n r.x h=some r.v else True)/\Qb chk rs h
def DVp(P:Program)(nb nr:Nat):List DI->List RecP->PEnv->PHeap->(PEnv->PHeap->Prop)->Prop
 |[],_,e,h,K=>K e h
 |it::r,recs,e,h,K=>match it.q with
  |true=>optK (gqp nb nr it.toII e h) λv=>DVp P nb nr r (zw it e v++recs) (e.put it.dst v) h K
  |false=>gep P it.toII e h λv h'=>Qb it.chk recs h'/\DVp P nb nr r recs (e.put it.dst v) h' K
def TVp(P:Program):OT->List RecP->PEnv->PHeap->(PEnv->PHeap->Prop)->Prop
 | .done,_,e,h,K=>K e h
 | .none,_,_,_,_=>True
 | .q it nx,recs,e,h,K=>optK (gqp 0 0 it.toII e h) λv=>TVp P nx (zw it e v++recs) (e.put it.dst v) h K
 | .e it nx alt,recs,e,h,K=>(gep P it.toII e h λv h'=>Qb it.chk recs h'/\TVp P nx recs (e.put it.dst v) h' K)/\TVp P alt recs e h K
def vp(P:Program):IC->(Exit->PEnv->PHeap->Prop)->PEnv->PHeap->Prop
 | .skip,Q,e,h=>Q .normal e h
 | .region S bc,Q,e,h=>RVp P bc e h λe' h'=>Q .normal (PEnv.mk S (S.map e')) h'
 | .draw S zs bc,Q,e,h=>DVp P h.next zs.length bc [] e (h.news zs) λe' h'=>Q .normal (PEnv.mk S (S.map e')) h'
 | .tree S t,Q,e,h=>TVp P t [] e h λe' h'=>Q .normal (PEnv.mk S (S.map e')) h'
 | .seq a b,Q,e,h=>vp P a (λx e' h'=>match x with | .normal=>vp P b Q e' h'|x=>Q x e' h') e h
 | .cond c a b,Q,e,h=>QE (c.pv e) (vp P a Q e h) (vp P b Q e h)
 | .block id c,Q,e,h=>vp P c (λx e' h'=>match x with | .exit lK=>if lK=id then Q .normal e' h' else Q (.exit lK) e' h'|x=>Q x e' h') e h
 | .loop S c,Q,e,h=>∃I:Nat->List PV->PHeap->Prop,(∃n,GL (I n) (S.map e) h)/\
   ∀n vs h,I n vs h->vp P c (λx e' h'=>match x with | .normal=>∃n',n'<n/\GL (I n') (S.map e') h'|x=>Q x e' h') (PEnv.mk S vs) h
 | .exit id,Q,e,h=>Q (.exit id) e h
 | .ret,Q,e,h=>Q .ret e h
def ZW:List IRes->PEnv->PHeap->Option (List PV)
 |[],_,_=>some []
 | .tmp t::r,e,h=>(ZW r e h).map λvs=>e t::vs
 | .cell t agg n::r,e,h=>(pldv agg n (e t) h).bind λv=>(ZW r e h).map λvs=>v::vs
def packP:List PV->PV
 |[v]=>v
 |vs=>.tup vs
def retP(res:List IRes)(Q:PV->PHeap->Prop):Exit->PEnv->PHeap->Prop
 | .normal,e,h=>optK (ZW res e h) λvs=>Q (packP vs) h
 | .ret,e,h=>optK (ZW res e h) λvs=>Q (packP vs) h
 |_,_,_=>False
theorem zK1{op:IOp}{e:PEnv}{K K':PV->PHeap->Prop}(C:∀v h',K v h'->K' v h')(A:ep P op e σ K):ep P op e σ K':=by
 cases op<;>simp only[ep]at A ⊢
 case alloc z=>exact C _ _ A
 case box x=>exact⟨A.1,C _ _ A.2⟩
 case buildSl a b c ps=>obtain⟨x,y,z⟩:=A;exact⟨x,y,C _ _ z⟩
 case store n x v=>
  split at A
  .obtain⟨x,y,z,u⟩:=A;exact⟨x,y,z,C _ _ u⟩
  .exact A
 case makeSl a b z l c=>
  split at A
  .exact⟨A.1,C _ _ A.2⟩
  .exact A
 case appendMk a b z l c=>
  split at A
  .refine⟨A.1,?_⟩;have D:=A.2;split at D
   .rename_i E;rw[if_pos E];exact C _ _ D
   .rename_i E;rw[if_neg E];exact C _ _ D
  .obtain⟨x,y,z,u⟩:=A;exact⟨x,y,z,C _ _ u⟩
  .exact A
 case append a b s x=>obtain⟨x,y,z⟩:=A;exact⟨x,y,C _ _ z⟩
 case copy a d s=>obtain⟨x,y,z⟩:=A;exact⟨x,y,C _ _ z⟩
 case call f a=>exact A.mono C
 case callV f a=>
  split at A
  .exact⟨A.1,A.2.mono C⟩
  .exact A
 case strOf x=>obtain⟨s,hs,A⟩:=A;exact⟨s,hs,C _ _ A⟩
theorem zFM{it:II}{e:PEnv}{K K':PV->PHeap->Prop}(u:∀v h',K v h'->K' v h')(l:gep P it e σ K):gep P it e σ K':=by
 obtain⟨dst,op,q,guard⟩:=it;cases guard with
 |none=>exact zK1 u l
 |some g=>
  obtain⟨t,b⟩:=g;simp only[gep,QN]at l ⊢;split at l
  .split at l
   .rename_i h;rw[if_pos h];exact zK1 u l
   .rename_i h;rw[if_neg h];exact u _ _ l
  .exact u _ _ l
  .exact l
theorem zFZ{K K':PEnv->PHeap->Prop}(A:∀e h',K e h'->K' e h'):∀(u:List II) {e:PEnv} {σ:PHeap},RVp P u e σ K->RVp P u e σ K'
 |[],e,σ,l=>A _ _ l
 |it::u,e,σ,l=>by
  simp only[RVp]at l ⊢;split at l
  .obtain⟨v,C,l⟩:=l;exact⟨v,C,zFZ A u l⟩
  .exact zFM (λv h' k=>zFZ A u k) l
theorem zC7{K K':PEnv->PHeap->Prop}(u:∀e h',K e h'->K' e h'):∀(t:OT) {recs:List RecP} {e:PEnv} {σ:PHeap},TVp P t recs e σ K->TVp P t recs e σ K'
 | .done,_,e,σ,l=>u _ _ l
 | .none,_,e,σ,l=>trivial
 | .q it nx,_,e,σ,l=>by
  obtain⟨v,A,l⟩:=l;exact⟨v,A,zC7 u nx l⟩
 | .e it nx alt,_,e,σ,l=>⟨zFM (λv h' k=>⟨k.1,zC7 u nx k.2⟩) l.1,zC7 u alt l.2⟩
theorem zFb{nb nr:Nat}{K K':PEnv->PHeap->Prop}(A:∀e h',K e h'->K' e h'):∀(u:List DI) {recs:List RecP} {e:PEnv} {σ:PHeap},DVp P nb nr u recs e σ K->DVp P nb nr u recs e σ K'
 |[],_,e,σ,l=>A _ _ l
 |it::u,_,e,σ,l=>by
  simp only[DVp]at l ⊢;split at l
  .obtain⟨v,C,l⟩:=l;exact⟨v,C,zFb A u l⟩
  .exact zFM (λv h' k=>⟨k.1,zFb A u k.2⟩) l
theorem zAc:∀(c:IC) {Q l:Exit->PEnv->PHeap->Prop} {e:PEnv} {σ:PHeap},(∀x e h,Q x e h->l x e h)->vp P c Q e σ->vp P c l e σ
 | .skip,Q,l,e,σ,hm,hk=>hm _ _ _ hk
 | .exit id,Q,l,e,σ,hm,hk=>hm _ _ _ hk
 | .ret,Q,l,e,σ,hm,hk=>hm _ _ _ hk
 | .region S bc,Q,l,e,σ,hm,hk=>zFZ (λe h k=>hm _ _ _ k) bc hk
 | .tree S t,Q,l,e,σ,hm,hk=>zC7 (λe h k=>hm _ _ _ k) t hk
 | .draw S zs bc,Q,l,e,σ,hm,hk=>zFb (λe h k=>hm _ _ _ k) bc hk
 | .seq a b,Q,l,e,σ,hm,hk=>zAc a (λx e h k=>by cases x<;>first|exact zAc b hm k|exact hm _ _ _ k) hk
 | .cond c a b,Q,l,e,σ,hm,hk=>by
  simp only[vp,QE]at hk ⊢;split at hk
  .split at hk
   .rename_i h;rw[if_pos h];exact zAc a hm hk
   .rename_i h;rw[if_neg h];exact zAc b hm hk
  .exact hk
 | .block id c,Q,l,e,σ,hm,hk=>zAc c (λx e h k=>by
   cases x with
   |exit lK=>
    dsimp only at k ⊢;split at k
    .rename_i h;rw[if_pos h];exact hm _ _ _ k
    .rename_i h;rw[if_neg h];exact hm _ _ _ k
   |_=>exact hm _ _ _ k) hk
 | .loop S c,Q,l,e,σ,hm,⟨I,h0,hr⟩=>⟨I,h0,λn vs h u=>zAc c (λx e h k=>by cases x<;>first|exact k|exact hm _ _ _ k) (hr n vs h u)⟩
def Rest(ι:Nat->Nat)(Z:Nat->Prop)(σ:PHeap)(h:AHeap)(K:PEnv->PHeap->Prop)(K1:Env->AHeap->Prop):Prop:=
 ∀(l:PEnv) (σ':PHeap) (ι':Nat->Nat) (Z':Nat->Prop) (h':AHeap),Rel ι' Z' σ' h'->Aft ι Z σ h ι' Z' σ' h'->EOK Z' h' σ'.next l->K l σ'->K1 (erE ι' l) h'
theorem Rest.later{σ':PHeap}{K:PEnv->PHeap->Prop}{K1:Env->AHeap->Prop}(c:Rest ι Z σ h K K1)(a:Aft ι Z σ h ι' Z' σ' h'):Rest ι' Z' σ' h' K K1:=
 λl σ'' ι'' u dZ r b e k=>c l σ'' ι'' u dZ r (a.trans b) e k
theorem zDp(r:Rel ι Z σ h){E:PEnv}(C:EOK Z h σ.next E){nb nr nb1:Nat}(A:RevOK ι σ nb nr nb1){it:II}{v:PV}(l:gqp nb nr it E σ=some v):
  gq nb1 it (erE ι E) h=some (er ι v)/\VOK Z h σ.next v:=by
 obtain⟨dst,op,q,guard⟩:=it;cases guard with
 |none=>exact zH1 r C A l
 |some g=>
  obtain⟨t,b⟩:=g;simp only[gqp,gq,erE]at l ⊢;cases ht:E t with
  |bool c=>
   rw[ht]at l;simp only[Q6]at l;simp only[er];split at l
   .rename_i u;rw[if_pos u];exact zH1 r C A l
   .rename_i u;rw[if_neg u];cases l;exact⟨rfl,trivial⟩
  |tup cs=>
   rw[ht]at l;cases cs with
   |nil=>cases l;exact⟨rfl,trivial⟩
   |cons x cs=>simp only[Q6,reduceCtorEq]at l
  |_=>rw[ht]at l;simp only[Q6,reduceCtorEq]at l
theorem zDq(r:Rel ι Z σ h){E:PEnv}(A:EOK Z h σ.next E){it:II}{K:PV->PHeap->Prop}(l:gep P it E σ K):ge P it (erE ι E) h (Up ι Z σ h K):=by
 obtain⟨dst,op,q,guard⟩:=it;cases guard with
 |none=>exact zIt r A l
 |some g=>
  obtain⟨t,b⟩:=g;simp only[gep,ge,erE]at l ⊢;cases ht:E t with
  |bool c=>
   rw[ht]at l;simp only[QN]at l;simp only[er];split at l
   .rename_i u;rw[if_pos u];exact zIt r A l
   .rename_i u;rw[if_neg u];exact⟨.tup [],σ,ι,Z,r,Aft.refl r,trivial,rfl,l⟩
  |tup cs=>
   rw[ht]at l;cases cs with
   |nil=>exact⟨.tup [],σ,ι,Z,r,Aft.refl r,trivial,rfl,l⟩
   |cons x cs=>simp only[QN]at l
  |_=>rw[ht]at l;simp only[QN]at l
theorem zD6:∀(u:List II) {ι:Nat->Nat} {Z:Nat->Prop} {σ:PHeap} {h:AHeap} {E:PEnv} {K:PEnv->PHeap->Prop} {K1:Env->AHeap->Prop},Rel ι Z σ h->EOK Z h σ.next E->RVp P u E σ K->Rest ι Z σ h K K1->RV P u (erE ι E) h K1
 |[],ι,Z,σ,h,E,K,K1,r,he,l,hr=>hr E σ ι Z h r (Aft.refl r) he l
 |it::u,ι,Z,σ,h,E,K,K1,r,he,l,hr=>by
  simp only[RVp,RV]at l ⊢;split at l
  .rename_i A;simp only[A];obtain⟨v,C,l⟩:=l;obtain⟨G,I⟩:=zDp r he (nb1:=0) (λk l=>absurd l (Nat.not_lt_zero _)) C;refine⟨_,G,?_⟩
   have:=zD6 u r (he.put I it.dst) l hr
   rw[zBT]at this;exact this
  .rename_i A;simp only[A];refine zAm ?_ (zDq r he l)
   rintro v h' ⟨pv,σ',ι',Z',J,a',C,rfl,D⟩
   have:=zD6 u J ((a'.eok he).put C it.dst) D (hr.later a')
   rw[zBT,a'.erE he]at this;exact this
def erR(ι:Nat->Nat)(r:RecP):Rec:=⟨r.idx,r.agg,r.n,er ι r.x,er ι r.v⟩
def ROK(Z:Nat->Prop)(h:AHeap)(n:Nat)(rs:List RecP):Prop:=∀r∈rs,VOK Z h n r.x/\VOK Z h n r.v
theorem Aft.rok{rs:List RecP}(a:Aft ι Z σ h ι' Z' σ' h')(u:ROK Z h σ.next rs):ROK Z' h' σ'.next rs:=λr l=>⟨a.vok (u r l).1,a.vok (u r l).2⟩
theorem Aft.erR{rs:List RecP}(a:Aft ι Z σ h ι' Z' σ' h')(u:ROK Z h σ.next rs):rs.map (Go.Ab.erR ι')=rs.map (Go.Ab.erR ι):=
 List.map_congr_left λr l=>by simp only[Go.Ab.erR];rw[a.er (u r l).1,a.er (u r l).2]
theorem zEk{E:PEnv}{it:DI}{v:PV}{nb nr:Nat}(l:gqp nb nr it.toII E σ=some v):recOf it (erE ι E) (er ι v)=(zw it E v).map (erR ι):=by
 obtain⟨⟨dst,op,q,guard⟩,idx,chk⟩:=it;have hw:Za guard (erE ι E)=zBK guard E:=by
  cases guard with
  |none=>rfl
  |some g=>
   obtain⟨t,b⟩:=g;simp only[gqp]at l;simp only[Za,zBK,erE];cases ht:E t with
   |bool c=>rfl
   |tup cs=>rfl
   |_=>rw[ht]at l;simp only[Q6,reduceCtorEq]at l
 cases op<;>simp only[recOf,zw]<;>try rfl
 rw[hw];split
 .simp only[YO,Y3,erR,er_pv]
 .rfl
theorem zGz(r:Rel ι Z σ h){E:PEnv}(l:EOK Z h σ.next E){it:DI}{v:PV}(u:VOK Z h σ.next v):ROK Z h σ.next (zw it E v):=by
 unfold zw;split
 .split
  .intro r hr;simp only[YN]at hr;subst hr;exact⟨l.pv _,u⟩
  .intro r hr;simp at hr
 .intro r hr;simp at hr
theorem zBp(r:Rel ι Z σ h){chk:List Nat}:∀{rs:List RecP},ROK Z h σ.next rs->Qb chk rs σ->RecOK chk (rs.map (erR ι)) h
 |[],_,_=>trivial
 |x::rs,hr,hk=>by
  simp only[YO,Qb,RecOK]at hk ⊢;refine⟨?_,zBp r (λy A=>hr y (by simp[A])) hk.2⟩;have u:=hk.1;by_cases l:chk.contains x.idx=true
  .rw[if_pos l]at u;rw[if_pos (show chk.contains (erR ι x).idx=true from l)];exact(zCv r (hr x (by simp)).1 u).1
  .rw[if_neg (show ¬chk.contains (erR ι x).idx=true from l)];trivial
theorem RevOK.later{nb nr nb1:Nat}(u:RevOK ι σ nb nr nb1)(a:Aft ι Z σ h ι' Z' σ' h'):RevOK ι' σ' nb nr nb1:=
 λk l=>⟨Yk (u k l).1 a.next,by rw[a.inj _ (u k l).1];exact(u k l).2⟩
theorem zD9{nb nr nb1:Nat}:∀(u:List DI) {recs:List RecP} {ι:Nat->Nat} {Z:Nat->Prop} {σ:PHeap} {h:AHeap} {E:PEnv} {K:PEnv->PHeap->Prop} {K1:Env->AHeap->Prop},RevOK ι σ nb nr nb1->Rel ι Z σ h->EOK Z h σ.next E->ROK Z h σ.next recs->
  DVp P nb nr u recs E σ K->Rest ι Z σ h K K1->DV P nb1 u (recs.map (erR ι)) (erE ι E) h K1
 |[],recs,ι,Z,σ,h,E,K,K1,hv,r,he,iF,l,hr=>hr E σ ι Z h r (Aft.refl r) he l
 |it::u,recs,ι,Z,σ,h,E,K,K1,hv,r,he,iF,l,hr=>by
  simp only[DVp,DV]at l ⊢;split at l
  .rename_i D;simp only[D];obtain⟨v,C,l⟩:=l;obtain⟨O,G⟩:=zDp r he hv C;refine⟨_,O,?_⟩
   have:=zD9 u hv r (he.put G it.dst) (recs:=zw it E v++recs) (λx A=>(YY.1 A).elim (λA=>zGz r he G x A) (λA=>iF x A)) l hr
   rw[zBT,Yh,<-zEk C]at this;exact this
  .rename_i D;simp only[D];refine zAm ?_ (zDq r he l)
   rintro v h' ⟨pv,σ',ι',Z',J,a',C,rfl,M,N⟩
   have I:=zBp J (a'.rok iF) M;rw[a'.erR iF]at I;refine⟨I,?_⟩
   have:=zD9 u (hv.later a') J ((a'.eok he).put C it.dst) (a'.rok iF) N (hr.later a')
   rw[zBT,a'.erE he,a'.erR iF]at this;exact this
theorem zCD:∀(t:OT) {recs:List RecP} {ι:Nat->Nat} {Z:Nat->Prop} {σ:PHeap} {h:AHeap} {E:PEnv} {K:PEnv->PHeap->Prop} {K1:Env->AHeap->Prop},Rel ι Z σ h->EOK Z h σ.next E->ROK Z h σ.next recs->TVp P t recs E σ K->Rest ι Z σ h K K1->TV P t (recs.map (erR ι)) (erE ι E) h K1
 | .done,_,ι,Z,σ,h,E,K,K1,r,he,iF,l,hr=>hr E σ ι Z h r (Aft.refl r) he l
 | .none,_,ι,Z,σ,h,E,K,K1,r,he,iF,l,hr=>trivial
 | .q it nx,recs,ι,Z,σ,h,E,K,K1,r,he,iF,l,hr=>by
  obtain⟨v,A,l⟩:=l;obtain⟨M,C⟩:=zDp r he (nb1:=0) (λk l=>absurd l (Nat.not_lt_zero _)) A;refine⟨_,M,?_⟩
  have:=zCD nx r (he.put C it.dst) (recs:=zw it E v++recs) (λx u=>(YY.1 u).elim (λu=>zGz r he C x u) (λu=>iF x u)) l hr
  rw[zBT,Yh,<-zEk A]at this;exact this
 | .e it nx alt,recs,ι,Z,σ,h,E,K,K1,r,he,iF,l,hr=>by
  refine⟨?_,zCD alt r he iF l.2 hr⟩;refine zAm ?_ (zDq r he l.1)
  rintro v h' ⟨pv,σ',ι',Z',G,a',A,rfl,I,J⟩
  have D:=zBp G (a'.rok iF) I;rw[a'.erR iF]at D;refine⟨D,?_⟩
  have:=zCD nx G ((a'.eok he).put A it.dst) (a'.rok iF) J (hr.later a')
  rw[zBT,a'.erE he,a'.erR iF]at this;exact this
theorem zIO:∀(zs:List (List AV)) {ι:Nat->Nat} {σ:PHeap} {h:AHeap},Rel ι Z σ h->
  ∃ι',Rel ι' Z (σ.news zs) (h.news zs)/\Aft ι Z σ h ι' Z (σ.news zs) (h.news zs)/\(σ.news zs).next=σ.next+zs.length/\∀k,k<zs.length->ι' (σ.next+k)=h.next+k
 |[],ι,σ,h,r=>⟨ι,r,Aft.refl r,rfl,λk l=>absurd l (Nat.not_lt_zero _)⟩
 |z::zs,ι,σ,h,r=>by
  obtain⟨r1,u⟩:=r.new (cs:=ofAVs z) (VOKs.ofAVs z);rw[qx]at r1 u;obtain⟨ι',r2,A,C,D⟩:=zIO zs r1;refine⟨ι',r2,u.trans A,?_,λk l=>?_⟩
  .show((σ.new (ofAVs z)).news zs).next=_
   rw[C];simp only[PHeap.new,YS];omega
  .cases k with
   |zero=>
    rw[UN,UN,A.inj _ (by simp[PHeap.new])];simp[putι]
   |succ k=>
    have:=D k (by simpa using l)
    simp only[PHeap.new,AHeap.new]at this;rw[show σ.next+(k+1)=σ.next+1+k by omega,this];omega
def RestC(ι:Nat->Nat)(Z:Nat->Prop)(σ:PHeap)(h:AHeap)(Q:Exit->PEnv->PHeap->Prop)(u:Exit->Env->AHeap->Prop):Prop:=
 ∀(x:Exit) (l:PEnv) (σ':PHeap) (ι':Nat->Nat) (Z':Nat->Prop) (h':AHeap),Rel ι' Z' σ' h'->Aft ι Z σ h ι' Z' σ' h'->EOK Z' h' σ'.next l->Q x l σ'->u x (erE ι' l) h'
theorem RestC.later{σ':PHeap}{Q:Exit->PEnv->PHeap->Prop}{l:Exit->Env->AHeap->Prop}(c:RestC ι Z σ h Q l)(a:Aft ι Z σ h ι' Z' σ' h'):RestC ι' Z' σ' h' Q l:=
 λx u σ'' ι'' A dZ r b e k=>c x u σ'' ι'' A dZ r (a.trans b) e k
theorem Qv:∀(c:IC) {ι:Nat->Nat} {Z:Nat->Prop} {σ:PHeap} {h:AHeap} {E:PEnv} {Q:Exit->PEnv->PHeap->Prop} {D:Exit->Env->AHeap->Prop},Rel ι Z σ h->EOK Z h σ.next E->vp P c Q E σ->RestC ι Z σ h Q D->vc P c D (erE ι E) h
 | .skip,ι,Z,σ,h,E,Q,D,r,he,u,hr=>hr .normal E σ ι Z h r (Aft.refl r) he u
 | .exit id,ι,Z,σ,h,E,Q,D,r,he,u,hr=>hr (.exit id) E σ ι Z h r (Aft.refl r) he u
 | .ret,ι,Z,σ,h,E,Q,D,r,he,u,hr=>hr .ret E σ ι Z h r (Aft.refl r) he u
 | .region S bc,ι,Z,σ,h,E,Q,D,r,he,u,hr=>by
  refine zD6 bc r he u ?_;intro U σ' ι' Z' h' C a' e' A
  have:=hr .normal _ σ' ι' Z' h' C a' (EOK.mk (e'.map S)) A
  rw[zCl,zCk]at this;exact this
 | .tree S t,ι,Z,σ,h,E,Q,D,r,he,u,hr=>by
  refine zCD t r he (recs:=[]) (λx X=>by simp at X) u ?_;intro U σ' ι' Z' h' C a' e' A
  have:=hr .normal _ σ' ι' Z' h' C a' (EOK.mk (e'.map S)) A
  rw[zCl,zCk]at this;exact this
 | .draw S zs bc,ι,Z,σ,h,E,Q,D,r,he,u,hr=>by
  obtain⟨ι1,r1,O,h1,h2⟩:=zIO zs r
  have:=zD9 (nb1:=h.next) (K1:=λe' h'=>D .normal (Env.mk S (S.map e')) h') bc (recs:=[]) (λk u=>⟨by rw[h1];omega,h2 k u⟩) r1 (O.eok he) (λx X=>by simp at X) u ?_
  .rw[O.erE he]at this;exact this
  .intro U σ' ι' Z' h' C a' e' A
   have:=hr .normal _ σ' ι' Z' h' C (O.trans a') (EOK.mk (e'.map S)) A
   rw[zCl,zCk]at this;exact this
 | .seq a b,ι,Z,σ,h,E,Q,D,r,he,u,hr=>by
  refine Qv a r he u ?_;intro x U σ' ι' Z' h' C a' e' A;cases x with
  |normal=>exact Qv b C e' A (hr.later a')
  |exit id=>exact hr _ _ _ _ _ _ C a' e' A
  |goto l=>exact hr _ _ _ _ _ _ C a' e' A
  |ret=>exact hr _ _ _ _ _ _ C a' e' A
  |panic ch=>exact hr _ _ _ _ _ _ C a' e' A
  |outgrown=>exact hr _ _ _ _ _ _ C a' e' A
 | .cond c a b,ι,Z,σ,h,E,Q,D,r,he,u,hr=>by
  simp only[vp,vc,<-er_pv]at u ⊢;cases T:c.pv E<;>rw[T]at u<;>simp only[QE]at u
  simp only[er];split at u
  .rename_i V;rw[if_pos V];exact Qv a r he u hr
  .rename_i V;rw[if_neg V];exact Qv b r he u hr
 | .block id c,ι,Z,σ,h,E,Q,D,r,he,u,hr=>by
  refine Qv c r he u ?_;intro x U σ' ι' Z' h' C a' e' A;cases x with
  |exit lK=>
   simp only at A ⊢;split at A
   .rename_i T;rw[if_pos T];exact hr _ _ _ _ _ _ C a' e' A
   .rename_i T;rw[if_neg T];exact hr _ _ _ _ _ _ C a' e' A
  |normal=>exact hr _ _ _ _ _ _ C a' e' A
  |goto l=>exact hr _ _ _ _ _ _ C a' e' A
  |ret=>exact hr _ _ _ _ _ _ C a' e' A
  |panic ch=>exact hr _ _ _ _ _ _ C a' e' A
  |outgrown=>exact hr _ _ _ _ _ _ C a' e' A
 | .loop S c,ι,Z,σ,h,E,Q,D,r,he,u,hr=>by
  obtain⟨I,⟨n,h0⟩,jA⟩:=u;obtain⟨Z0,σ0,Hb,r0,a0,v0,e0,i0⟩:=h0.sound r (he.map S);refine⟨λn vs h'=>∃ι' Z' σ' pvs,Rel ι' Z' σ' h'/\Aft ι Z σ h ι' Z' σ' h'/\VOKs Z' h' σ'.next pvs/\vs=ers ι' pvs/\I n pvs σ',⟨n,ι,Z0,σ0,Hb,r0,a0,v0,(zCk E S).symm.trans e0.symm,i0⟩,?_⟩
  rintro n vs h' ⟨ι',Z',σ',pvs,C,a',hv,rfl,hI⟩
  rw[<-zCl];refine Qv c C (EOK.mk hv) (jA n pvs σ' hI) ?_;intro x Y σ'' ι'' uJ dZ M J G N;cases x with
  |normal=>
   obtain⟨n',ah,wq⟩:=N;obtain⟨Z1,σ1,Ke,r1,O,v1,e1,i1⟩:=wq.sound M (G.map S);exact⟨n',ah,ι'',Z1,σ1,Ke,r1,a'.trans (J.trans O),v1,(zCk Y S).symm.trans e1.symm,i1⟩
  |exit id=>exact hr _ _ _ _ _ _ M (a'.trans J) G N
  |goto l=>exact hr _ _ _ _ _ _ M (a'.trans J) G N
  |ret=>exact hr _ _ _ _ _ _ M (a'.trans J) G N
  |panic ch=>exact hr _ _ _ _ _ _ M (a'.trans J) G N
  |outgrown=>exact hr _ _ _ _ _ _ M (a'.trans J) G N
theorem zBX(r:Rel ι Z σ h){E:PEnv}(u:EOK Z h σ.next E):∀{rs:List IRes} {vs:List PV},ZW rs E σ=some vs->rvals rs (erE ι E) h=some (ers ι vs)/\VOKs Z h σ.next vs
 |[],vs,l=>by cases l;exact⟨rfl,trivial⟩
 | .tmp t::rs,vs,l=>by
  simp only[ZW,YJ]at l;obtain⟨J,l,rfl⟩:=l;obtain⟨A,C⟩:=zBX r u l;exact⟨by simp only[rvals,A,Option.map_some,ers,erE],u t,C⟩
 | .cell t a k::rs,vs,l=>by
  simp only[ZW,YZ,YJ]at l;obtain⟨v,I,J,l,rfl⟩:=l;obtain⟨A,C⟩:=zBX r u l;obtain⟨D,G⟩:=zCv r (u t) I;refine⟨?_,G,C⟩;simp only[rvals,erE];rw[D];simp only[YM];rw[A];rfl
theorem zJx{vs:List PV}(l:VOKs Z h n vs):packR (ers ι vs)=er ι (packP vs)/\VOK Z h n (packP vs):=by
 cases vs with
 |nil=>exact⟨rfl,trivial⟩
 |cons v vs=>
  cases vs with
  |nil=>exact⟨rfl,l.1⟩
  |cons u us=>exact⟨rfl,l⟩
theorem Zn(I:P.follows .mixedOrders=true){f:FuncId}{E:Func}{u:IFn}(T:P.funcs[f]? = some E)(S:cF P E=some u){args:List PV}{K:PV->PHeap->Prop}(U:args.length=u.params.length)
  (C:vp P u.body (retP u.res K) (PEnv.mk u.params args) σ):zA P f args σ K:=by
 intro ι Z h r va;refine zJL I T S (by rw[zm];exact U) ?_;rw[<-zCl];refine Qv u.body r (EOK.mk va) C ?_;intro x D σ' ι' Z' h' G a' e' A;have fin:optK (ZW u.res D σ') (λvs=>K (packP vs) σ')->optK (rvals u.res (erE ι' D) h') λvs=>Up ι Z σ h K (packR vs) h':=by
  rintro⟨vs,V,C⟩
  obtain⟨J,M⟩:=zBX G e' V;obtain⟨N,O⟩:=zJx (ι:=ι') M;exact⟨_,J,packP vs,σ',ι',Z',G,a',O,N,C⟩
 cases x with
 |normal=>exact fin A
 |ret=>exact fin A
 |exit id=>exact A.elim
 |goto l=>exact A.elim
 |panic ch=>exact A.elim
 |outgrown=>exact A.elim
theorem zD{P:Program}(u:P.follows .mixedOrders=true){f:FuncId}{l:Func}(C:P.funcs[f]? = some l){args:List PV}{K:PV->PHeap->Prop}{σ:PHeap}{p:List Nat}{r:List IRes}{b:IC}(D:vp P b (retP r K) (PEnv.mk p args) σ)(A:cF P l=some ⟨p,r,b⟩:=by conv=>lhs;cbv)(E:args.length=p.length:=by rfl):zA P f args σ K:=Zn u C A E D
theorem qG{P:Program}(u:P.follows .mixedOrders=true){f:FuncId}{l:Func}(C:P.funcs[f]? = some l){args:List PV}{K:PV->PHeap->Prop}{σ:PHeap}{p:List Nat}{r:List IRes}{b:IC}(D:vp P b (retP r K) (PEnv.mk p args) σ)(A:cF P l=some ⟨p,r,b⟩:=by conv=>lhs;reduce)(E:args.length=p.length:=by rfl):zA P f args σ K:=Zn u C A E D
end
section
variable{P:Program}{ι ι':Nat->Nat}{Z Z':Nat->Prop}{h h':AHeap}{σ σ' σ0 σ1 σ2:PHeap}{K:PV->PHeap->Prop}
mutual
def addrs:PV->List Nat
 | .fz _ (.sl o _ _ _) _ cs=>o::ZI cs
 | .fp (.ptr o _) cs=>(if cs.isEmpty then []else [o])++ZI cs
 | .clo _ a b=>ZI a++ZI b
 | .agg cs=>ZI cs
 | .tup cs=>ZI cs
 |_=>[]
def ZI:List PV->List Nat
 |[]=>[]
 |c::cs=>addrs c++ZI cs
end
mutual
theorem zGu:∀{n:Nat} {v:PV},VOK Z h n v->∀o∈addrs v,Z o
 |n,.undef,_,o,ho|n,.bool _,_,o,ho|n,.int _ _,_,o,ho|n,.str _,_,o,ho|n,.nilp,_,o,ho|n,.nilf,_,o,ho=>by simp[addrs]at ho
 |n,.ptr _ _,_,o,ho|n,.sl _ _ _ _,_,o,ho=>by simp[addrs]at ho
 |n,.fz w a len cs,hv,o,ho=>by
  obtain⟨rfl,_,_⟩|⟨D,off,cap,rfl,l,_⟩:=hv.1
  .simp[addrs]at ho
  .simp only[addrs,YH]at ho;rcases ho with rfl|ho
   .exact l
   .exact Z9 hv.2 o ho
 |n,.fp a cs,hv,o,ho=>by
  cases a with
  |ptr D i=>
   simp only[addrs,YY]at ho;rcases ho with ho|ho
   .split at ho
    .simp at ho
    .rename_i u;simp only[YN]at ho;subst ho;obtain⟨_,l|⟨G,E,C,A,_⟩⟩:=hv.1
     .cases cs with
      |nil=>exact absurd rfl u
      |cons c cs=>simp[ers]at l
     .cases C;exact A
   .exact Z9 hv.2 o ho
  |_=>simp[addrs]at ho
 |n,.clo _ a b,hv,o,ho=>by
  simp only[addrs,YY]at ho;exact ho.elim (Z9 hv.1 o) (Z9 hv.2 o)
 |n,.agg cs,hv,o,ho=>Z9 (cs:=cs) hv o (by simpa only[addrs]using ho)
 |n,.tup cs,hv,o,ho=>Z9 (cs:=cs) hv o (by simpa only[addrs]using ho)
theorem Z9:∀{n:Nat} {cs:List PV},VOKs Z h n cs->∀o∈ZI cs,Z o
 |n,[],_,o,ho=>by simp[ZI]at ho
 |n,c::cs,hv,o,ho=>by
  simp only[ZI,YY]at ho;exact ho.elim (zGu hv.1 o) (Z9 hv.2 o)
end
def Gh(σ0:PHeap)(K:PV->PHeap->Prop)(v:PV)(σ1:PHeap):Prop:=
 PWF σ0->∀(ι:Nat->Nat) (Z:Nat->Prop) (h:AHeap) (b:Nat),Rel ι Z σ1 h->VOK Z h σ1.next v->σ0.next<=σ1.next->σ0.top<=b->(∀s cs,σ0.next<=s->σ1.obj s=some cs->b<=ι s)->(∀s,s<σ0.next->σ0.obj s=none->σ1.obj s=none)->
  ∃v2 σ2 ι2 Z2,Rel ι2 Z2 σ2 h/\VOK Z2 h σ2.next v2/\σ0.next<=σ2.next/\(∀s,s<σ0.next->ι2 s=ι s)/\(∀o,Z o->Z2 o)/\(∀s cs,σ0.next<=s->σ2.obj s=some cs->b<=ι2 s)/\(∀s,s<σ0.next->σ0.obj s=none->σ2.obj s=none)/\er ι2 v2=er ι v/\K v2 σ2
theorem zA.gh{f:FuncId}{args:List PV}(c:zA P f args σ (Gh σ K)):zA P f args σ K:=by
 intro ι Z h r va;refine(c ι Z h r va).mono ?_
 rintro _ h' ⟨pv,σ',ι',Z',S,a',O,rfl,k⟩
 obtain⟨T,σ2,ι2,u,A,C,D,E,G,I,J,M,N⟩:=k r.pwf ι' Z' h' h.next S O a'.next r.top (λs cs hs l=>a'.fresh s cs hs l) a'.dead;exact⟨T,σ2,ι2,u,A,⟨D,a'.hnext,λs hs=>(E s hs).trans (a'.inj s hs),λo l=>⟨G o (a'.z o l).1,(a'.z o l).2⟩,J,I⟩,C,M.symm,N⟩
theorem zA.pwf{f:FuncId}{args:List PV}(c:PWF σ->zA P f args σ K):zA P f args σ K:=λι Z h r l=>c r.pwf ι Z h r l
theorem zA.nil0{f:FuncId}{w:Bool}{a:AV}{l:Nat}{cs:List PV}{rest:List PV}(c:(ZL a=true->l=0/\cs=[])->zA P f (.fz w a l cs::rest) σ K):zA P f (.fz w a l cs::rest) σ K:=λι Z h r A=>c (λD=>by
 rw[zMA D]at A;obtain⟨_,u,C⟩|⟨_,_,_,u,_⟩:=A.1.1
 .exact⟨u,YF (by rw[<-zm (ι:=idz),C];rfl)⟩
 .cases u) ι Z h r A
theorem Gh.ret{v:PV}(k:K v σ1):Gh σ0 K v σ1:=λ_ ι Z h b r A u C l hd=>⟨v,σ1,ι,Z,r,A,u,λ_ _=>rfl,λ_ h=>h,l,hd,rfl,k⟩
theorem Gh.cut{v:PV}(C:σ2.next=σ0.next)(O:σ2.top<=σ1.top)(l:∀s cs,σ2.obj s=some cs->s<σ0.next/\σ1.obj s=some cs/\(σ0.obj s=some cs\/Bels σ0.next cs))(N:Bel σ0.next v)(k:K v σ2):Gh σ0 K v σ1:=by
 intro w ι Z h b r S Y h2 J M;refine⟨v,σ2,ι,Z,⟨r.hwf,r.zlt,Y7 O r.top,λs hs=>?_,λs cs hs=>?_,λs D cs A hs E hi=>r.inj s D cs A (l s cs hs).2.1 (l D A E).2.1 hi⟩,by rw[C];exact S.of_bel N,by omega,λ_ _=>rfl,λ_ h=>h,λs cs hs u=>?_,λs hs u=>?_,rfl,k⟩
 .cases u:σ2.obj s with
  |none=>rfl
  |some cs=>have:=(l s cs u).1;omega
 .obtain⟨X,G,I⟩:=l s cs hs;obtain⟨T,U,V⟩:=r.obj s cs G;exact⟨T,by rw[C];exact U.of_bel (I.elim (λg=>w.bel s cs g) id),V⟩
 .exact J s cs hs (l s cs u).2.1
 .cases kL:σ2.obj s with
  |none=>rfl
  |some cs=>have:=(l s cs kL).2.1;rw[M s hs u]at this;cases this
structure Keep(σ0 σ1:PHeap):Prop where
 next:σ0.next<=σ1.next
 top:σ0.top<=σ1.top
 obj:∀s,s<σ0.next->σ1.obj s=σ0.obj s
theorem Keep.refl(σ:PHeap):Keep σ σ:=⟨na _,na _,λ_ _=>rfl⟩
theorem Keep.trans(a:Keep σ0 σ1)(b:Keep σ1 σ2):Keep σ0 σ2:=⟨Y7 a.next b.next,Y7 a.top b.top,λs hs=>(b.obj s (Yk hs a.next)).trans (a.obj s hs)⟩
theorem Keep.new(a:Keep σ0 σ1)(cs:List PV):Keep σ0 (σ1.new cs):=
 ⟨by have:=a.next;simp only[PHeap.new];omega,a.top,λs hs=>by have:=a.next;simp only[PHeap.new];rw[if_neg (by omega)];exact a.obj s hs⟩
theorem Keep.set(a:Keep σ0 σ1){s:Nat}(hs:σ0.next<=s)(cs:List PV):Keep σ0 (σ1.set s cs):=
 ⟨a.next,a.top,λt l=>by simp only[PHeap.set];rw[if_neg (by omega)];exact a.obj t l⟩
theorem Keep.kill(a:Keep σ0 σ1){s:Nat}(hs:σ0.next<=s):Keep σ0 (σ1.kill s):=
 ⟨a.next,a.top,λt l=>by simp only[PHeap.kill];rw[if_neg (by omega)];exact a.obj t l⟩
theorem Keep.up(a:Keep σ0 σ1){t:Nat}(l:σ1.top<=t):Keep σ0 (σ1.up t):=⟨a.next,Y7 a.top l,a.obj⟩
theorem Gh.fin0T{v:PV}{t:Nat}(u:Keep σ0 σ1)(A:t<=σ1.top)(l:Bel σ0.next v)(k:PWF σ0->K v (σ0.up t)):Gh σ0 K v σ1:=λw=>
 Gh.cut (σ2:=σ0.up t) rfl A (λs cs hs=>⟨w.lt hs,by rw[u.obj s (w.lt hs)];exact hs,.inl hs⟩) l (k w) w
theorem Gh.fin0{v:PV}(l:Keep σ0 σ1)(u:Bel σ0.next v)(k:K v σ0):Gh σ0 K v σ1:=Gh.fin0T (t:=σ0.top) l l.top u λ_=>k
theorem Gh.finS{s off l:Nat}{cap:Cap}{cs:List PV}(E:Keep σ0 σ1)(hs:σ1.obj s=some cs)(M:σ0.next<=s)(O:Bels σ0.next cs)(k:K (.sl σ0.next off l cap) (σ0.new cs)):Gh σ0 K (.sl s off l cap) σ1:=by
 intro w ι Z h b r hv h1 h2 N h4;obtain⟨X,Y,q3⟩:=r.obj s cs hs;have hi:∀{t:Nat} {C:List PV},σ0.obj t=some C->ι t≠ι s:=λ{t C} u A=>by
  have:=r.inj t s C cs (by rw[E.obj t (w.lt u)];exact u) hs A
  have:=w.lt u
  omega
 have conv:∀t,t<σ0.next->putι ι σ0.next (ι s) t=ι t:=λt u=>by simp[putι,Nat.ne_of_lt u]
 have I:VOKs Z h σ0.next cs:=Y.of_bel O;refine⟨.sl σ0.next off l cap,σ0.new cs,putι ι σ0.next (ι s),Z,⟨r.hwf,r.zlt,Y7 E.top r.top,λt u=>?_,λt C u=>?_,λt t' C V u D A=>?_⟩,YP _,by simp[PHeap.new],conv,λ_ h=>h,λt C u hd=>?_,λt u hd=>?_,(by simp[er,putι]),k⟩
 .simp only[PHeap.new]at u ⊢;rw[if_neg (by omega)];exact w.wf t (by omega)
 .simp only[PHeap.new]at u ⊢;by_cases e:t=σ0.next
  .subst e;rw[if_pos rfl]at u;cases u;rw[Zh conv I];simp only[putι,if_true];exact⟨X,I.up (UQ _),q3⟩
  .rw[if_neg e]at u;have G:=w.lt u;obtain⟨S,T,U⟩:=r.obj t C (by rw[E.obj t G];exact u);have J:=T.of_bel (w.bel t C u);rw[conv t G,Zh conv J];exact⟨S,J.up (UQ _),U⟩
 .simp only[PHeap.new]at u D;by_cases e:t=σ0.next
  .by_cases e':t'=σ0.next
   .rw[e,e']
   .rw[if_neg e']at D;rw[conv t' (w.lt D)]at A;subst e;simp only[putι,if_true]at A;exact absurd A.symm (hi D)
  .rw[if_neg e]at u;rw[conv t (w.lt u)]at A;by_cases e':t'=σ0.next
   .subst e';simp only[putι,if_true]at A;exact absurd A (hi u)
   .rw[if_neg e']at D;rw[conv t' (w.lt D)]at A;exact r.inj t t' C V (by rw[E.obj t (w.lt u)];exact u) (by rw[E.obj t' (w.lt D)];exact D) A
 .simp only[PHeap.new]at hd;by_cases e:t=σ0.next
  .subst e;simp only[putι,if_true];exact N s cs M hs
  .rw[if_neg e]at hd;have:=w.lt hd;omega
 .simp only[PHeap.new];rw[if_neg (by omega)];exact hd
theorem Gh.freeze{v:PV}{s:Nat}{cs:List PV}(hs:σ1.obj s=some cs)(h0:σ0.next<=s)(hb:Bels 0 cs)
  (k:∀o,σ0.top<=o->o∉ZI cs->o∉addrs v->Gh σ0 K (sb s o cs v) ((σ1.kill s).up (max σ1.top (o+1)))):Gh σ0 K v σ1:=by
 intro w ι Z h b r E h1 h2 D h4;obtain⟨r',C,u,G⟩:=r.freeze hs hb;have ki:=D s cs h0 hs;have conv:∀{t:Nat} {a:List PV},(σ1.kill s).obj t=some a->t≠s/\σ1.obj t=some a:=λ{t a} l=>by
  simp only[PHeap.kill]at l;split at l
  .cases l
  .exact⟨by assumption,l⟩
 obtain⟨v2,σ2,ι2,I,M,N,O,S,T,U,V,X,Y⟩:=k (ι s) (by omega) (λA=>G (Z9 C _ A)) (λA=>G (zGu E _ A)) w ι (λo=>Z o\/o=ι s) h b r'
  (VOK.sb (.inr rfl) u (C.mono (λo u=>⟨.inl u,rfl⟩) (na _)) (E.mono (λo u=>⟨.inl u,rfl⟩) (na _))) h1 h2 (λt J l hd=>D t J l (conv hd).2)
  (λt l hd=>by simp only[PHeap.kill,PHeap.up];split;rfl;exact h4 t l hd)
 exact⟨v2,σ2,ι2,I,M,N,O,S,λo u=>T o (.inl u),U,V,X.trans (er_sb rfl v),Y⟩
theorem Gh.finZ{s l:Nat}{cap:Cap}{cs:List PV}(E:Keep σ0 σ1)(hs:σ1.obj s=some cs)(u:σ0.next<=s)(C:Bels 0 cs)(A:capOK cap l=true)
  (k:∀o,σ0.top<=o->o∉ZI cs->∀t,o<t->σ1.top<=t->K (.fz true (.sl o 0 l cap) l cs) (σ0.up t)):Gh σ0 K (.sl s 0 l cap) σ1:=
 Gh.freeze hs u C λo G D _=>by
  simp only[sb];rw[if_pos ⟨trivial,trivial,A⟩];exact Gh.fin0T (t:=max σ1.top (o+1)) ((E.kill u).up (by simp only[PHeap.kill];omega)) (na _) trivial λw=>k o G D _ (by omega) (by omega)
theorem Gh.finF{s l:Nat}{cap:Cap}{cs:List PV}(D:Keep σ0 σ1)(hs:σ1.obj s=some cs)(u:σ0.next<=s)(C:Bels 0 cs)(A:capOK cap l=true)
  (k:∀o,K (.fz true (.sl o 0 l cap) l cs) σ0):Gh σ0 K (.sl s 0 l cap) σ1:=
 Gh.freeze hs u C λo G E _=>by
  simp only[sb];rw[if_pos ⟨trivial,trivial,A⟩];exact Gh.fin0 ((D.kill u).up (by simp only[PHeap.kill];omega)) trivial (k o)
theorem zA.frz{f:FuncId}{args:List PV}{s:Nat}{cs:List PV}(hs:σ.obj s=some cs)(E:Bels 0 cs)(c:∀o,zA P f (sbs s o cs args) (σ.kill s) K):zA P f args σ K:=by
 intro ι Z h r va;obtain⟨A,D,u,T⟩:=r.freeze hs E;have r2:Rel ι (λo=>Z o\/o=ι s) (σ.kill s) h:=⟨A.hwf,A.zlt,by have:=r.top;exact this,A.wf,A.obj,A.inj⟩
 have C:∀o,Z o->(Z o\/o=ι s)/\h.obj o=h.obj o:=λo u=>⟨.inl u,rfl⟩
 have S:(σ.kill s).next=σ.next:=rfl
 have:=c (ι s) ι _ h r2 (VOKs.sbs (.inr rfl) u (D.mono C (na _)) (va.mono C (na _)))
 rw[Qm rfl]at this;refine this.mono ?_
 rintro v h' ⟨pv,σ',ι',Z',J,l,M,N,O⟩
 exact⟨pv,σ',ι',Z',J,⟨l.next,l.hnext,l.inj,λo u=>l.z o (.inl u),λt I G=>l.dead t I (by simp only[PHeap.kill];split;rfl;exact G),l.fresh⟩,M,N,O⟩
end
section
variable{P:Program}{Q:Exit->PEnv->PHeap->Prop}{e:PEnv}{h:PHeap}{K:PEnv->PHeap->Prop}{KA:PV->PHeap->Prop}{nb nr:Nat}
theorem zPh:vp P .skip Q e h=Q .normal e h:=rfl
theorem zMY(S:List Nat)(l:List II):vp P (.region S l) Q e h=RVp P l e h λe' h'=>Q .normal (PEnv.mk S (S.map e')) h':=rfl
theorem zGV(S:List Nat)(t:OT):vp P (.tree S t) Q e h=TVp P t [] e h λe' h'=>Q .normal (PEnv.mk S (S.map e')) h':=rfl
theorem QB(recs:List RecP):TVp P .done recs e h K=K e h:=rfl
theorem QA(recs:List RecP):TVp P .none recs e h K=True:=rfl
theorem TVp_q(d:Option Nat)(op:IOp)(g:Option (Nat×Bool))(q:Bool)(i:Nat)(c:List Nat)(nx:OT)(recs:List RecP):TVp P (.q ⟨⟨d,op,q,g⟩,i,c⟩ nx) recs e h K=optK (gqp 0 0 ⟨d,op,q,g⟩ e h) λv=>TVp P nx (zw ⟨⟨d,op,q,g⟩,i,c⟩ e v++recs) (e.put d v) h K:=rfl
theorem TVp_e(d:Option Nat)(op:IOp)(g:Option (Nat×Bool))(q:Bool)(i:Nat)(c:List Nat)(nx alt:OT)(recs:List RecP):TVp P (.e ⟨⟨d,op,q,g⟩,i,c⟩ nx alt) recs e h K=((gep P ⟨d,op,q,g⟩ e h λv h'=>Qb c recs h'/\TVp P nx recs (e.put d v) h' K)/\TVp P alt recs e h K):=rfl
theorem zPj(S:List Nat)(zs:List (List AV))(l:List DI):vp P (.draw S zs l) Q e h=DVp P h.next zs.length l [] e (h.news zs) λe' h'=>Q .normal (PEnv.mk S (S.map e')) h':=rfl
theorem zQq(a b:IC):vp P (.seq a b) Q e h=vp P a (λx e' h'=>match x with | .normal=>vp P b Q e' h'|x=>Q x e' h') e h:=rfl
theorem zPk(c:IX)(a b:IC):vp P (.cond c a b) Q e h=QE (c.pv e) (vp P a Q e h) (vp P b Q e h):=rfl
theorem zOM(id:Nat)(c:IC):vp P (.block id c) Q e h=vp P c (λx e' h'=>match x with | .exit lK=>if lK=id then Q .normal e' h' else Q (.exit lK) e' h'|x=>Q x e' h') e h:=rfl
theorem zPi(id:Nat):vp P (.exit id) Q e h=Q (.exit id) e h:=rfl
theorem zQr:vp P .ret Q e h=Q .ret e h:=rfl
theorem zQi:RVp P [] e h K=K e h:=rfl
theorem RVp_q(d:Option Nat)(op:IOp)(g:Option (Nat×Bool))(r:List II):RVp P (⟨d,op,true,g⟩::r) e h K=optK (gqp 0 0 ⟨d,op,true,g⟩ e h) λv=>RVp P r (e.put d v) h K:=rfl
theorem RVp_e(d:Option Nat)(op:IOp)(g:Option (Nat×Bool))(r:List II):RVp P (⟨d,op,false,g⟩::r) e h K=gep P ⟨d,op,false,g⟩ e h λv h'=>RVp P r (e.put d v) h' K:=rfl
theorem zQl(recs:List RecP):DVp P nb nr [] recs e h K=K e h:=rfl
theorem DVp_q(d:Option Nat)(op:IOp)(g:Option (Nat×Bool))(i:Nat)(c:List Nat)(r:List DI)(recs:List RecP):DVp P nb nr (⟨⟨d,op,true,g⟩,i,c⟩::r) recs e h K=optK (gqp nb nr ⟨d,op,true,g⟩ e h) λv=>DVp P nb nr r (zw ⟨⟨d,op,true,g⟩,i,c⟩ e v++recs) (e.put d v) h K:=rfl
theorem DVp_e(d:Option Nat)(op:IOp)(g:Option (Nat×Bool))(i:Nat)(c:List Nat)(r:List DI)(recs:List RecP):DVp P nb nr (⟨⟨d,op,false,g⟩,i,c⟩::r) recs e h K=gep P ⟨d,op,false,g⟩ e h λv h'=>Qb c recs h'/\DVp P nb nr r recs (e.put d v) h' K:=rfl
theorem zPI(d:Option Nat)(op:IOp)(q:Bool):gqp nb nr ⟨d,op,q,none⟩ e h=qp nb nr op e h:=rfl
theorem zPH(d:Option Nat)(op:IOp)(q:Bool)(t:Nat)(b:Bool):gqp nb nr ⟨d,op,q,some (t,b)⟩ e h=Q6 (e t) b (qp nb nr op e h):=rfl
theorem zPK(d:Option Nat)(op:IOp)(q:Bool):gep P ⟨d,op,q,none⟩ e h KA=ep P op e h KA:=rfl
theorem zPJ(d:Option Nat)(op:IOp)(q:Bool)(t:Nat)(b:Bool):gep P ⟨d,op,q,some (t,b)⟩ e h KA=QN (e t) b (ep P op e h KA) (KA (.tup []) h):=rfl
theorem zJn(a b:Prop):QE (.bool true) a b=a:=rfl
theorem zIH(a b:Prop):QE (.bool false) a b=b:=rfl
theorem zLY(c:Prop)[Decidable c](a b:Prop):QE (.bool (decide c)) a b=if c then a else b:=by by_cases x:c<;>simp[QE,x]
theorem zJo(c:Prop)[Decidable c](a b:Prop):QE (.bool (!decide c)) a b=if c then b else a:=by by_cases x:c<;>simp[QE,x]
theorem zIG(c b:Bool)(x y:Prop):QN (.bool c) b x y=if c=b then x else y:=rfl
theorem zIE(c b:Bool)(x:Option PV):Q6 (.bool c) b x=if c=b then x else some (.tup []):=rfl
theorem zID(b:Bool)(x:Option PV):Q6 (.tup []) b x=some (.tup []):=rfl
theorem zIF(b:Bool)(x y:Prop):QN (.tup []) b x y=y:=rfl
theorem pv_t(n:Nat):(IX.t n).pv e=e n:=rfl
theorem pv_c(v:AV):(IX.c v).pv e=ofAV v:=rfl
theorem zOm(s:Nat)(S:List Nat)(v:PV)(vs:List PV)(t:Nat):PEnv.mk (s::S) (v::vs) t=if t=s then v else PEnv.mk S vs t:=rfl
theorem zMw(d:Nat)(v:PV)(t:Nat):e.put (some d) v t=if t=d then v else e t:=rfl
theorem zMx(v:PV):e.put none v=e:=rfl
theorem qp_mv(x:IX):qp nb nr (.mv x) e h=some (x.pv e):=rfl
theorem zPr(c a b:IX):qp nb nr (.pick c a b) e h=pPick (c.pv e) (a.pv e) (b.pv e):=rfl
theorem zQ2(op:BinOp)(l:EqK)(x y:IX):qp nb nr (.bin op l x y) e h=pbin op l (x.pv e) (y.pv e):=rfl
theorem qp_un(op:UnOp)(x:IX):qp nb nr (.un op x) e h=pun op (x.pv e):=rfl
theorem zPt(k:IntKind)(x:IX):qp nb nr (.conv k x) e h=pConv k (x.pv e):=rfl
theorem zJh(x:IX):qp nb nr (.nilCheck x) e h=pNil (x.pv e):=rfl
theorem zOc(z:List AV)(l:List (Nat×Nat×IX)):qp nb nr (.build z l) e h=(pfill (ofAVs z) (l.map λp=>(p.1,p.2.1,p.2.2.pv e))).map .agg:=rfl
theorem zOb(a:Bool)(n off:Nat)(x:IX):qp nb nr (.field a n off x) e h=zDX a n off (x.pv e):=rfl
theorem zH3(off:Nat)(x:IX):qp nb nr (.fieldAddr off x) e h=zAK off (x.pv e):=rfl
theorem zH2(sz:Nat)(x i:IX):qp nb nr (.indexAddr sz x i) e h=zCb sz (x.pv e) (i.pv e):=rfl
theorem zJj(x i:IX):qp nb nr (.indexStr x i) e h=zEH (x.pv e) (i.pv e):=rfl
theorem zLT(x:IX)(i:Nat):qp nb nr (.extract x i) e h=zCz (x.pv e) i:=rfl
theorem zQ0(x:IX):qp nb nr (.len x) e h=pLen (x.pv e):=rfl
theorem zMq(x:IX):qp nb nr (.lenStr x) e h=zEG (x.pv e):=rfl
theorem zQ1(x:IX):qp nb nr (.cap x) e h=pCap (x.pv e):=rfl
theorem zOa(sz:Nat)(x:IX)(lo hi mx:Option IX):qp nb nr (.slice sz x lo hi mx) e h=zAI sz (x.pv e) (lo.map (·.pv e)) (hi.map (·.pv e)) (mx.map (·.pv e)):=rfl
theorem zJg(x:IX)(lo hi:Option IX):qp nb nr (.sliceStr x lo hi) e h=zBy (x.pv e) (lo.map (·.pv e)) (hi.map (·.pv e)):=rfl
theorem zMp(mx:Bool)(x y:IX):qp nb nr (.maxmin mx x y) e h=zCa mx (x.pv e) (y.pv e):=rfl
theorem zJi(f:FuncId)(a b:List IX):qp nb nr (.makeFunc f a b) e h=some (.clo f (a.map (·.pv e)) (b.map (·.pv e))):=rfl
theorem zPs(a:Bool)(n:Nat)(x:IX):qp nb nr (.load a n x) e h=pldv a n (x.pv e) h:=rfl
theorem zQz(k:Nat):qp nb nr (.rev k) e h=if k<nr then some (.ptr (nb+k) 0)else none:=rfl
theorem zPq(k n:Nat):qp nb nr (.revS k n) e h=if k<nr then some (.sl (nb+k) 0 n (.known n))else none:=rfl
theorem zPR(z:List AV):ep P (.alloc z) e h KA=KA (.ptr h.next 0) (h.new (ofAVs z)):=rfl
theorem zRQ(x:IX):ep P (.box x) e h KA=((x.pv e).cells.all PV.one=true/\KA (.ptr h.next 0) (h.new (x.pv e).cells)):=rfl
theorem zMF(sz len:Nat)(z:List AV)(l:List (Nat×Nat×IX)):ep P (.buildSl sz len z l) e h KA=optK (pfill (ofAVs (zeros z len)) (l.map λp=>(p.1,p.2.1,p.2.2.pv e))) λcs=>KA (.sl h.next 0 len (.known len)) (h.new cs):=rfl
def zFu(n:Nat)(x v:PV)(h:PHeap)(KA:PV->PHeap->Prop):Prop:=
 match x with
 | .ptr s i=>v.cells.length=n/\optK (h.wr s i v.cells) λh'=>KA .undef h'
 |_=>False
def pMake(sz bytes:Nat)(z:List AV)(l c:PV)(h:PHeap)(KA:PV->PHeap->Prop):Prop:=
 match l,c with
 | .int _ l,.int _ c=>(0<=l/\l<=c/\c*bytes<=140737488355328/\c<=9223372036854775807)/\KA (.sl h.next 0 l.toNat (.known c.toNat)) (h.new (ofAVs (zeros z c.toNat)))
 |_,_=>False
def zCc(sz bytes:Nat)(z:List AV)(s n:PV)(h:PHeap)(KA:PV->PHeap->Prop):Prop:=
 match s,n with
 | .fz _ .nils _ _,.int _ n=>(0<=n/\n*bytes<=140737488355328/\n<=4611686018427387904)/\if 0<n then KA (.sl h.next 0 n.toNat (.grown sz)) (h.new (ofAVs (zeros z n.toNat)))else KA (.fz true .nils 0 []) h
 | .sl s off len c,.int _ n=>(0<=n/\n*bytes<=140737488355328/\n<=4611686018427387904)/\optK (if 0<n then pgrow sz bytes h (.sl s off len c) (ofAVs (zeros z n.toNat)) n.toNat else(psame (.sl s off len c)).map λv=>(v,h)) λp=>KA p.1 p.2
 |_,_=>False
def zFv(P:Program)(f:PV)(args:List PV)(h:PHeap)(KA:PV->PHeap->Prop):Prop:=
 match f with
 | .clo f first cJ=>okF P f=true/\zA P f (first++args++cJ) h KA
 |_=>False
theorem zPP(n:Nat)(x v:IX):ep P (.store n x v) e h KA=zFu n (x.pv e) (v.pv e) h KA:=rfl
theorem zLj(n s i:Nat)(v:PV):zFu n (.ptr s i) v h KA=(v.cells.length=n/\optK (h.wr s i v.cells) λh'=>KA .undef h'):=rfl
theorem zNw(sz bytes:Nat)(z:List AV)(l c:IX):ep P (.makeSl sz bytes z l c) e h KA=pMake sz bytes z (l.pv e) (c.pv e) h KA:=rfl
theorem zKV(sz bytes:Nat)(z:List AV)(s n:IX):ep P (.appendMk sz bytes z s n) e h KA=zCc sz bytes z (s.pv e) (n.pv e) h KA:=rfl
theorem zJ2(sz bytes:Nat)(z:List AV)(w:Bool)(l:Nat)(cs:List PV)(k:IntKind)(n:Int):zCc sz bytes z (.fz w .nils l cs) (.int k n) h KA=((0<=n/\n*bytes<=140737488355328/\n<=4611686018427387904)/\if 0<n then KA (.sl h.next 0 n.toNat (.grown sz)) (h.new (ofAVs (zeros z n.toNat)))else KA (.fz true .nils 0 []) h):=rfl
theorem zNM(sz bytes:Nat)(z:List AV)(s off len:Nat)(c:Cap)(k:IntKind)(n:Int):zCc sz bytes z (.sl s off len c) (.int k n) h KA=((0<=n/\n*bytes<=140737488355328/\n<=4611686018427387904)/\optK (if 0<n then pgrow sz bytes h (.sl s off len c) (ofAVs (zeros z n.toNat)) n.toNat else(psame (.sl s off len c)).map λv=>(v,h)) λp=>KA p.1 p.2):=rfl
theorem zNH(sz bytes:Nat)(z:List AV)(k u:IntKind)(l c:Int):pMake sz bytes z (.int k l) (.int u c) h KA=((0<=l/\l<=c/\c*bytes<=140737488355328/\c<=9223372036854775807)/\KA (.sl h.next 0 l.toNat (.known c.toNat)) (h.new (ofAVs (zeros z c.toNat)))):=rfl
theorem zNx(sz bytes:Nat)(s x:IX):ep P (.append sz bytes s x) e h KA=optK (qB sz bytes h (s.pv e) (x.pv e)) λp=>KA p.1 p.2:=rfl
theorem zQa(sz:Nat)(d s:IX):ep P (.copy sz d s) e h KA=optK (pcopy sz h (d.pv e) (s.pv e)) λp=>KA p.1 p.2:=rfl
theorem zQb(f:FuncId)(args:List IX):ep P (.call f args) e h KA=zA P f (args.map (·.pv e)) h KA:=rfl
theorem zAn(x:IX):ep P (.strOf x) e h KA=optK (zBh h (x.pv e)) λs=>KA (.str s) h:=rfl
theorem zPQ(f:IX)(args:List IX):ep P (.callV f args) e h KA=zFv P (f.pv e) (args.map (·.pv e)) h KA:=rfl
theorem zLn(f:FuncId)(a b args:List PV):zFv P (.clo f a b) args h KA=(okF P f=true/\zA P f (a++args++b) h KA):=rfl
theorem zO7:ofAV .undef=.undef:=rfl
theorem of_bool(b:Bool):ofAV (.bool b)=.bool b:=rfl
theorem of_int(k:IntKind)(n:Int):ofAV (.int k n)=.int k n:=rfl
theorem zRA(s:List UInt8):ofAV (.str s)=.str s:=rfl
theorem zQE:ofAV .nilp=.nilp:=rfl
theorem zQF:ofAV .nilf=.nilf:=rfl
theorem zQD:ofAV .nils=.fz true .nils 0 []:=rfl
theorem zRB(f:FuncId)(a b:List AV):ofAV (.clo f a b)=.clo f (ofAVs a) (ofAVs b):=rfl
theorem zRC(a:List AV):ofAV (.agg a)=.agg (ofAVs a):=rfl
theorem zQC:ofAVs []=[]:=rfl
theorem zO6(c:AV)(cs:List AV):ofAVs (c::cs)=ofAV c::ofAVs cs:=rfl
theorem zKq(n:Nat)(c:AV):ofAVs (List.replicate n c)=List.replicate n (ofAV c):=by rw[zG4,List.map_replicate]
theorem zO1(k:IntKind)(l:EqK)(a b:Int):pbin .add l (.int k a) (.int k b)=some (.int k (k.wrap (a+b))):=by simp[pbin,abin,aint,ofAV]
theorem zOr(k:IntKind)(l:EqK)(a b:Int):pbin .sub l (.int k a) (.int k b)=some (.int k (k.wrap (a-b))):=by simp[pbin,abin,aint,ofAV]
theorem zOv(k:IntKind)(l:EqK)(a b:Int):pbin .mul l (.int k a) (.int k b)=some (.int k (k.wrap (a*b))):=by simp[pbin,abin,aint,ofAV]
theorem zO0(k:IntKind)(l:EqK)(a b:Int):pbin .eql l (.int k a) (.int k b)=some (.bool (decide (a=b))):=by simp[pbin,abin,aint,ofAV]
theorem zOu(k:IntKind)(l:EqK)(a b:Int):pbin .neq l (.int k a) (.int k b)=some (.bool (!decide (a=b))):=by simp[pbin,abin,aint,ofAV]
theorem zOw(k:IntKind)(l:EqK)(a b:Int):pbin .lss l (.int k a) (.int k b)=some (.bool (decide (a<b))):=by simp[pbin,abin,aint,ofAV]
theorem zOx(k:IntKind)(l:EqK)(a b:Int):pbin .leq l (.int k a) (.int k b)=some (.bool (decide (a<=b))):=by simp[pbin,abin,aint,ofAV]
theorem zOy(k:IntKind)(l:EqK)(a b:Int):pbin .gtr l (.int k a) (.int k b)=some (.bool (decide (b<a))):=by simp[pbin,abin,aint,ofAV]
theorem zOz(k:IntKind)(l:EqK)(a b:Int):pbin .geq l (.int k a) (.int k b)=some (.bool (decide (b<=a))):=by simp[pbin,abin,aint,ofAV]
theorem zOt(k:IntKind)(l:EqK)(a b:Int):pbin .quo l (.int k a) (.int k b)=if b=0 then none else some (.int k (k.wrap (a.tdiv b))):=by simp only[pbin,abin,aint,if_true];split<;>rfl
theorem zOs(k:IntKind)(l:EqK)(a b:Int):pbin .rem l (.int k a) (.int k b)=if b=0 then none else some (.int k (a.tmod b)):=by simp only[pbin,abin,aint,if_true];split<;>rfl
theorem zLh(n:Nat)(xs ys:List PV):pbin .eql (.ints n) (.agg xs) (.agg ys)=if xs.length=n/\ys.length=n then(paggB xs ys).bind λr=>some (.bool r)else none:=rfl
theorem zND:paggB [] []=some true:=rfl
theorem zLi(k:IntKind)(a b:Int)(xs ys:List PV):paggB (.int k a::xs) (.int k b::ys)=(paggB xs ys).map λr=>decide (a=b) && r:=by simp[paggB]
theorem zNC(a b:Bool):pbin .eql .bool (.bool a) (.bool b)=some (.bool (a == b)):=rfl
theorem zNB(a b:Bool):pbin .neq .bool (.bool a) (.bool b)=some (.bool !(a == b)):=rfl
theorem zLg(w u:Bool)(a:AV)(n n':Nat)(cs l:List PV):pbin .eql .slice (.fz w a n cs) (.fz u .nils n' l)=some (.bool (ZL a)):=rfl
theorem zJw(w u:Bool)(a:AV)(n n':Nat)(cs l:List PV):pbin .neq .slice (.fz w a n cs) (.fz u .nils n' l)=some (.bool (!ZL a)):=rfl
theorem zLf(s o n:Nat)(c:Cap)(u:Bool)(n':Nat)(l:List PV):pbin .eql .slice (.sl s o n c) (.fz u .nils n' l)=some (.bool false):=rfl
theorem zJv(s o n:Nat)(c:Cap)(u:Bool)(n':Nat)(l:List PV):pbin .neq .slice (.sl s o n c) (.fz u .nils n' l)=some (.bool true):=rfl
theorem zJu(l:EqK)(a b:List UInt8):pbin .add l (.str a) (.str b)=if a.length+b.length<=9223372036854775807 then some (.str (a++b))else none:=by simp only[pbin,astr];split<;>rfl
theorem zJt(l:EqK)(a b:List UInt8):pbin .eql l (.str a) (.str b)=some (.bool (a == b)):=rfl
theorem zJs(l:EqK)(a b:List UInt8):pbin .neq l (.str a) (.str b)=some (.bool !(a == b)):=rfl
theorem zKS:ZL .nils=true:=rfl
theorem zNn(o f n:Nat)(c:Cap):ZL (.sl o f n c)=false:=rfl
theorem zPy(k:IntKind)(n:Int):pun .neg (.int k n)=some (.int k (k.wrap (0-n))):=rfl
theorem zPx(b:Bool):pun .not (.bool b)=some (.bool !b):=rfl
theorem zLk(a b:PV):pPick (.bool true) a b=some a:=rfl
theorem zJy(a b:PV):pPick (.bool false) a b=some b:=rfl
theorem zNK(k l:IntKind)(n:Int):pConv k (.int l n)=some (.int k (k.wrap n)):=rfl
theorem zO2(s i:Nat):pNil (.ptr s i)=some (.ptr s i):=rfl
theorem zO3(f:FuncId)(a b:List PV):pNil (.clo f a b)=some (.clo f a b):=rfl
theorem zP8(a:AV)(c:PV)(cs:List PV):pNil (.fp a (c::cs))=some (.fp a (c::cs)):=rfl
theorem zLm(n off:Nat)(cs:List PV):zDX true n off (.agg cs)=some (.agg ((cs.drop off).take n)):=rfl
theorem zLl(n off:Nat)(cs:List PV):zDX false n off (.agg cs)=cs[off]?:=rfl
theorem zGf(off s i:Nat):zAK off (.ptr s i)=some (.ptr s (i+off)):=rfl
theorem zHS(off:Nat)(a:AV)(c:PV)(cs:List PV):zAK off (.fp a (c::cs))=some (.fp (pAdd a off) ((c::cs).drop off)):=rfl
theorem zNI(sz s off len:Nat)(c:Cap)(k:IntKind)(n:Int):zCb sz (.sl s off len c) (.int k n)=if 0<=n/\n<len then some (.ptr s (off+n.toNat*sz))else none:=rfl
theorem zNJ(sz:Nat)(w:Bool)(a:AV)(len:Nat)(cs:List PV)(k:IntKind)(n:Int):zCb sz (.fz w a len cs) (.int k n)=if 0<=n/\n<len then some (.fp (pAt a (n.toNat*sz)) (cs.drop (n.toNat*sz)))else none:=rfl
theorem zJ1(s:List UInt8)(k:IntKind)(n:Int):zEH (.str s) (.int k n)=if 0<=n then(s[n.toNat]?).map λc=>.int .u8 c.toNat else none:=rfl
theorem zIJ(vs:List PV)(i:Nat):zCz (.tup vs) i=vs[i]?:=rfl
theorem zQA(w:Bool)(a:AV)(n:Nat)(cs:List PV):pLen (.fz w a n cs)=some (.int .i64 n):=rfl
theorem zP9(s o n:Nat)(c:Cap):pLen (.sl s o n c)=some (.int .i64 n):=rfl
theorem zJ0(s:List UInt8):zEG (.str s)=some (.int .i64 s.length):=rfl
theorem zNL(w:Bool)(l:Nat)(cs:List PV):pCap (.fz w .nils l cs)=some (.int .i64 0):=rfl
theorem zQB(s o n c:Nat):pCap (.sl s o n (.known c))=some (.int .i64 c):=rfl
theorem zJz(mx:Bool)(k:IntKind)(a b:Int):zCa mx (.int k a) (.int k b)=some (.int k (if mx=true then max a b else min a b)):=by simp[zCa]
theorem zM5(n s i:Nat):pldv false n (.ptr s i) h=h.rd1 s i:=rfl
theorem zM4(n s i:Nat):pldv true n (.ptr s i) h=(h.rd s i n).map .agg:=rfl
theorem zOo(n:Nat)(a:AV)(cs:List PV):pldv false n (.fp a cs) h=cs[0]?:=rfl
theorem zOn(n:Nat)(a:AV)(cs:List PV):pldv true n (.fp a cs) h=if 0<n/\n<=cs.length then some (.agg (cs.take n))else none:=rfl
theorem zM3:h.news []=h:=rfl
theorem zLW(z:List AV)(zs:List (List AV)):h.news (z::zs)=(h.new (ofAVs z)).news zs:=rfl
theorem zMU(recs:List RecP):Qb [] recs h=True:=by
 apply propext;refine⟨λ_=>trivial,λ_=>?_⟩
 induction recs with
 |nil=>trivial
 |cons r rs ih=>exact⟨by simp,ih⟩
theorem zKa(c:List Nat):Qb c [] h=True:=rfl
theorem zKb(c:List Nat)(i:Nat)(a:Bool)(n:Nat)(x v:PV)(rs:List RecP):Qb c (⟨i,a,n,x,v⟩::rs) h=((if c.contains i=true then pldv a n x h=some v else True)/\Qb c rs h):=rfl
theorem zJe(d:Option Nat)(a:Bool)(n:Nat)(x:IX)(g:Option (Nat×Bool))(i:Nat)(c:List Nat)(v:PV):zw ⟨⟨d,.load a n x,true,g⟩,i,c⟩ e v=if zBK g e=true then [⟨i,a,n,x.pv e,v⟩]else []:=rfl
theorem zMn(d:Option Nat)(x:IX)(g:Option (Nat×Bool))(i:Nat)(c:List Nat)(v:PV):zw ⟨⟨d,(.mv x),true,g⟩,i,c⟩ e v=[]:=rfl
theorem zJd(d:Option Nat)(x y z:IX)(g:Option (Nat×Bool))(i:Nat)(c:List Nat)(v:PV):zw ⟨⟨d,(.pick x y z),true,g⟩,i,c⟩ e v=[]:=rfl
theorem zLS(d:Option Nat)(op:BinOp)(l:EqK)(x y:IX)(g:Option (Nat×Bool))(i:Nat)(c:List Nat)(v:PV):zw ⟨⟨d,(.bin op l x y),true,g⟩,i,c⟩ e v=[]:=rfl
theorem zMm(d:Option Nat)(op:UnOp)(x:IX)(g:Option (Nat×Bool))(i:Nat)(c:List Nat)(v:PV):zw ⟨⟨d,(.un op x),true,g⟩,i,c⟩ e v=[]:=rfl
theorem zJf(d:Option Nat)(k:IntKind)(x:IX)(g:Option (Nat×Bool))(i:Nat)(c:List Nat)(v:PV):zw ⟨⟨d,(.conv k x),true,g⟩,i,c⟩ e v=[]:=rfl
theorem zFo(d:Option Nat)(x:IX)(g:Option (Nat×Bool))(i:Nat)(c:List Nat)(v:PV):zw ⟨⟨d,(.nilCheck x),true,g⟩,i,c⟩ e v=[]:=rfl
theorem zHz(d:Option Nat)(z:List AV)(l:List (Nat×Nat×IX))(g:Option (Nat×Bool))(i:Nat)(c:List Nat)(v:PV):zw ⟨⟨d,(.build z l),true,g⟩,i,c⟩ e v=[]:=rfl
theorem zHy(d:Option Nat)(a:Bool)(n off:Nat)(x:IX)(g:Option (Nat×Bool))(i:Nat)(c:List Nat)(v:PV):zw ⟨⟨d,(.field a n off x),true,g⟩,i,c⟩ e v=[]:=rfl
theorem zE7(d:Option Nat)(off:Nat)(x:IX)(g:Option (Nat×Bool))(i:Nat)(c:List Nat)(v:PV):zw ⟨⟨d,(.fieldAddr off x),true,g⟩,i,c⟩ e v=[]:=rfl
theorem zE6(d:Option Nat)(sz:Nat)(x y:IX)(g:Option (Nat×Bool))(i:Nat)(c:List Nat)(v:PV):zw ⟨⟨d,(.indexAddr sz x y),true,g⟩,i,c⟩ e v=[]:=rfl
theorem zFq(d:Option Nat)(x y:IX)(g:Option (Nat×Bool))(i:Nat)(c:List Nat)(v:PV):zw ⟨⟨d,(.indexStr x y),true,g⟩,i,c⟩ e v=[]:=rfl
theorem zGd(d:Option Nat)(x:IX)(j:Nat)(g:Option (Nat×Bool))(i:Nat)(c:List Nat)(v:PV):zw ⟨⟨d,(.extract x j),true,g⟩,i,c⟩ e v=[]:=rfl
theorem zLQ(d:Option Nat)(x:IX)(g:Option (Nat×Bool))(i:Nat)(c:List Nat)(v:PV):zw ⟨⟨d,(.len x),true,g⟩,i,c⟩ e v=[]:=rfl
theorem zHO(d:Option Nat)(x:IX)(g:Option (Nat×Bool))(i:Nat)(c:List Nat)(v:PV):zw ⟨⟨d,(.lenStr x),true,g⟩,i,c⟩ e v=[]:=rfl
theorem zLR(d:Option Nat)(x:IX)(g:Option (Nat×Bool))(i:Nat)(c:List Nat)(v:PV):zw ⟨⟨d,(.cap x),true,g⟩,i,c⟩ e v=[]:=rfl
theorem zHx(d:Option Nat)(sz:Nat)(x:IX)(lo hi mx:Option IX)(g:Option (Nat×Bool))(i:Nat)(c:List Nat)(v:PV):zw ⟨⟨d,(.slice sz x lo hi mx),true,g⟩,i,c⟩ e v=[]:=rfl
theorem zFn(d:Option Nat)(x:IX)(lo hi:Option IX)(g:Option (Nat×Bool))(i:Nat)(c:List Nat)(v:PV):zw ⟨⟨d,(.sliceStr x lo hi),true,g⟩,i,c⟩ e v=[]:=rfl
theorem zHN(d:Option Nat)(mx:Bool)(x y:IX)(g:Option (Nat×Bool))(i:Nat)(c:List Nat)(v:PV):zw ⟨⟨d,(.maxmin mx x y),true,g⟩,i,c⟩ e v=[]:=rfl
theorem zFp(d:Option Nat)(f:FuncId)(y z:List IX)(g:Option (Nat×Bool))(i:Nat)(c:List Nat)(v:PV):zw ⟨⟨d,(.makeFunc f y z),true,g⟩,i,c⟩ e v=[]:=rfl
theorem zLP(d:Option Nat)(j:Nat)(g:Option (Nat×Bool))(i:Nat)(c:List Nat)(v:PV):zw ⟨⟨d,(.rev j),true,g⟩,i,c⟩ e v=[]:=rfl
theorem zJc(d:Option Nat)(j m:Nat)(g:Option (Nat×Bool))(i:Nat)(c:List Nat)(v:PV):zw ⟨⟨d,(.revS j m),true,g⟩,i,c⟩ e v=[]:=rfl
theorem zHn:zBK none e=true:=rfl
theorem zHm(t:Nat)(b:Bool):zBK (some (t,b)) e=(match e t with | .bool c=>decide (c=b)|_=>false):=rfl
theorem zLO:ZW [] e h=some []:=rfl
theorem zLN(t:Nat)(r:List IRes):ZW (.tmp t::r) e h=(ZW r e h).map λvs=>e t::vs:=rfl
theorem zJa(t:Nat)(a:Bool)(n:Nat)(r:List IRes):ZW (.cell t a n::r) e h=(pldv a n (e t) h).bind λv=>(ZW r e h).map λvs=>v::vs:=rfl
theorem zJb(res:List IRes):retP res KA .normal e h=optK (ZW res e h) λvs=>KA (packP vs) h:=rfl
theorem zOV(res:List IRes):retP res KA .ret e h=optK (ZW res e h) λvs=>KA (packP vs) h:=rfl
theorem zNF(v:PV):packP [v]=v:=rfl
theorem zNG:packP []=.tup []:=rfl
theorem zNE(u v:PV)(r:List PV):packP (u::v::r)=.tup (u::v::r):=rfl
theorem zM6(cs:List PV):pfill cs []=some cs:=rfl
theorem zLX(cs:List PV)(off size:Nat)(v:PV)(r:List (Nat×Nat×PV)):pfill cs ((off,size,v)::r)=if v.cells.length=size/\off+size<=cs.length/\v.cells.all PV.one=true then pfill (cs.take off++v.cells++cs.drop (off+size)) r else none:=rfl
theorem zLb(k:IntKind)(n:Int):PV.cells (.int k n)=[(.int k n)]:=rfl
theorem zOj(k:IntKind)(n:Int):PV.one (.int k n)=true:=rfl
theorem zJr(b:Bool):PV.cells (.bool b)=[(.bool b)]:=rfl
theorem zM0(b:Bool):PV.one (.bool b)=true:=rfl
theorem zLZ(s:List UInt8):PV.cells (.str s)=[(.str s)]:=rfl
theorem zOh(s:List UInt8):PV.one (.str s)=true:=rfl
theorem zJp:PV.cells .nilp=[.nilp]:=rfl
theorem zMy:PV.one .nilp=true:=rfl
theorem zJq:PV.cells .nilf=[.nilf]:=rfl
theorem zMz:PV.one .nilf=true:=rfl
theorem zM8(w:Bool)(a:AV)(n:Nat)(cs:List PV):PV.cells (.fz w a n cs)=[(.fz w a n cs)]:=rfl
theorem zP3(w:Bool)(a:AV)(n:Nat)(cs:List PV):PV.one (.fz w a n cs)=true:=rfl
theorem zM9(a:AV)(cs:List PV):PV.cells (.fp a cs)=[(.fp a cs)]:=rfl
theorem zP4(a:AV)(cs:List PV):PV.one (.fp a cs)=true:=rfl
theorem zLa(s i:Nat):PV.cells (.ptr s i)=[(.ptr s i)]:=rfl
theorem zOi(s i:Nat):PV.one (.ptr s i)=true:=rfl
theorem zM7(s o n:Nat)(c:Cap):PV.cells (.sl s o n c)=[(.sl s o n c)]:=rfl
theorem zP2(s o n:Nat)(c:Cap):PV.one (.sl s o n c)=true:=rfl
theorem zLc(f:FuncId)(a b:List PV):PV.cells (.clo f a b)=[(.clo f a b)]:=rfl
theorem zOk(f:FuncId)(a b:List PV):PV.one (.clo f a b)=true:=rfl
theorem zLd(cs:List PV):PV.cells (.agg cs)=cs:=rfl
theorem zCy(k:IntKind)(i:Int)(y:Nat):Qo (.int k i) y=if 0<=i/\i<=y then some i.toNat else none:=rfl
theorem zBb(x:PV)(d y:Nat):zq (some x) d y=Qo x y:=rfl
theorem zBc(d y:Nat):zq none d y=some d:=rfl
theorem zMt(sz:Nat)(w:Bool)(a:AV)(len:Nat)(cs:List PV)(lo hi:Option PV):zAI sz (.fz w a len cs) lo hi none=(zq hi len len).bind λh=>(zq lo 0 h).bind λl=>some (.fz false (pslA sz a l h) (h-l) ((cs.drop (l*sz)).take ((h-l)*sz))):=rfl
theorem zDU(sz s off len c:Nat)(lo hi mx:Option PV):zAI sz (.sl s off len (.known c)) lo hi mx=(zq mx c c).bind λm=>(zq hi len m).bind λh=>(zq lo 0 h).bind λl=>if hi.isNone=true/\mx.isSome=true then none else some (.sl s (if m=l then off else off+l*sz) (h-l) (.known (m-l))):=rfl
theorem zDV(sz s off len g:Nat)(lo hi:Option PV):zAI sz (.sl s off len (.grown g)) lo hi none=(zq hi len len).bind λh=>(zq lo 0 h).bind λl=>some (.sl s (off+l*sz) (h-l) (.grown (if g=sz then g else 0))):=rfl
theorem zHP(s:List UInt8)(lo hi:Option PV):zBy (.str s) lo hi=(zq hi s.length s.length).bind λh=>(zq lo 0 h).bind λl=>some (.str ((s.take h).drop l)):=rfl
theorem zCY(w:Bool)(a:AV)(n:Nat)(cs:List PV):plen (.fz w a n cs)=some n:=rfl
theorem zEF(s o n:Nat)(c:Cap):plen (.sl s o n c)=some n:=rfl
theorem ZM(sz bytes:Nat)(s x:PV):qB sz bytes h s x=(plen x).bind λm=>if m=0 then(psame s).map λv=>(v,h)else(ZY sz h x m).bind λnews=>pgrow sz bytes h s news m:=rfl
theorem zJl(s o n c:Nat):psame (.sl s o n (.known c))=if n<=c then some (.sl s o n (.known c))else none:=rfl
theorem zBz(sz:Nat)(w:Bool)(a:AV)(len:Nat)(cs:List PV)(n:Nat):ZY sz h (.fz w a len cs) n=if n=0 then some []else if n<=len/\n*sz<=cs.length/\0<sz then some (cs.take (n*sz))else none:=rfl
theorem ZH(sz s off len:Nat)(c:Cap)(n:Nat):ZY sz h (.sl s off len c) n=if n=0 then some []else if n<=len then h.rd s off (n*sz)else none:=rfl
theorem zA9(sz bytes:Nat)(w:Bool)(n:Nat)(cs news:List PV)(m:Nat):pgrow sz bytes h (.fz w .nils n cs) news m=if m*bytes<=140737488355328/\m<=4611686018427387904 then some (.sl h.next 0 m (.grown sz),h.new news)else none:=rfl
theorem zCH(sz bytes s off len c:Nat)(news:List PV)(m:Nat):pgrow sz bytes h (.sl s off len (.known c)) news m=if len+m<=c then(h.wr s (off+len*sz) news).map λσ'=>(.sl s off (len+m) (.known c),σ')else if (len+m)*bytes<=140737488355328/\len+m<=4611686018427387904 then(h.rd s off (len*sz)).map λold=>(.sl h.next 0 (len+m) (.grown sz),h.new (old++news))else none:=rfl
theorem zAq(sz bytes s off len g:Nat)(news:List PV)(m:Nat):pgrow sz bytes h (.sl s off len (.grown g)) news m=if (len+m)*bytes<=140737488355328/\len+m<=4611686018427387904/\g=sz then(h.obj s).bind λcs=>if off+len*sz<=cs.length then some (.sl h.next 0 (len+m) (.grown sz),(h.kill s).new ((cs.drop off).take (len*sz)++news))else none else none:=rfl
theorem zFA(cs:List PV)(s i:Nat):(h.new cs).rd1 s i=if s=h.next then cs[i]? else h.rd1 s i:=by by_cases x:s=h.next<;>simp[PHeap.rd1,PHeap.new,x]
theorem zBO(cs:List PV)(s i n:Nat):(h.new cs).rd s i n=if s=h.next then(if i+n<=cs.length then some ((cs.drop i).take n)else none)else h.rd s i n:=by by_cases x:s=h.next<;>simp[PHeap.rd,PHeap.new,x]
theorem zH(cs:List PV)(s:Nat):(h.new cs).obj s=if s=h.next then some cs else h.obj s:=rfl
theorem zPv(cs:List PV)(s i:Nat)(vs:List PV):(h.new cs).wr s i vs=if s=h.next then(if i+vs.length<=cs.length/\vs.all PV.one=true then some (h.new (cs.take i++vs++cs.drop (i+vs.length)))else none)else(h.wr s i vs).map λh'=>h'.new cs:=by
 by_cases x:s=h.next
 .subst x;simp only[PHeap.wr,PHeap.new,if_true,YM];split
  .congr 1;simp only[PHeap.set];congr 1;funext y;by_cases l:y=h.next<;>simp[l]
  .rfl
 .simp only[PHeap.wr,PHeap.new,if_neg x];cases ho:h.obj s with
  |none=>rfl
  |some ob=>
   simp only[YM];split
   .simp only[Option.map_some,PHeap.set];congr 2;funext y;by_cases l:y=s
    .subst l;simp[x]
    .simp[l]
   .rfl
theorem zM2(cs:List PV):(h.new cs).next=h.next+1:=rfl
theorem zH6(cs:List PV):(h.new cs).top=h.top:=rfl
theorem zOe(cs:List PV)(s:Nat)(u:List PV):(h.new cs).set s u=if s=h.next then h.new u else(h.set s u).new cs:=by
 by_cases x:s=h.next
 .subst x;rw[if_pos rfl];simp only[PHeap.set,PHeap.new];congr 1;funext y;by_cases l:y=h.next<;>simp[l]
 .rw[if_neg x];simp only[PHeap.set,PHeap.new];congr 1;funext y;by_cases l:y=s
  .subst l;simp[x]
  .simp[l]
theorem zAh(s:Nat)(cs l:List PV):(h.set s cs).set s l=h.set s l:=by
 simp only[PHeap.set];congr 1;funext y;by_cases u:y=s<;>simp[u]
theorem zM1(s:Nat)(cs:List PV):(h.set s cs).next=h.next:=rfl
theorem zLV(s:Nat):(h.kill s).next=h.next:=rfl
theorem zOl(t:Nat):(h.up t).next=h.next:=rfl
theorem zKm(t:Nat):(h.up t).top=t:=rfl
theorem zP6(t:Nat)(cs:List PV):(h.up t).new cs=(h.new cs).up t:=rfl
theorem zPz(t s i:Nat):(h.up t).rd1 s i=h.rd1 s i:=rfl
theorem zQ6(t s i n:Nat):(h.up t).rd s i n=h.rd s i n:=rfl
theorem zP5(t s:Nat):(h.up t).obj s=h.obj s:=rfl
theorem zQ3(t s i:Nat)(vs:List PV):(h.up t).wr s i vs=(h.wr s i vs).map λh'=>h'.up t:=by
 simp only[PHeap.wr,PHeap.up];cases h.obj s with
 |none=>rfl
 |some cs=>simp only[YM];split<;>rfl
theorem zG2(s t:Nat):(h.kill s).obj t=if t=s then none else h.obj t:=rfl
theorem zG(s:Nat)(cs:List PV)(t:Nat):(h.set s cs).obj t=if t=s then some cs else h.obj t:=rfl
theorem zMu(s t i:Nat):(h.kill s).rd1 t i=if t=s then none else h.rd1 t i:=by by_cases x:t=s<;>simp[PHeap.rd1,PHeap.kill,x]
theorem zOf(s t i n:Nat):(h.kill s).rd t i n=if t=s then none else h.rd t i n:=by by_cases x:t=s<;>simp[PHeap.rd,PHeap.kill,x]
theorem zE9(s:Nat)(cs:List PV)(t i:Nat):(h.set s cs).rd1 t i=if t=s then cs[i]? else h.rd1 t i:=by by_cases x:t=s<;>simp[PHeap.rd1,PHeap.set,x]
theorem qH(s:Nat)(cs:List PV)(t i n:Nat):(h.set s cs).rd t i n=if t=s then(if i+n<=cs.length then some ((cs.drop i).take n)else none)else h.rd t i n:=by by_cases x:t=s<;>simp[PHeap.rd,PHeap.set,x]
theorem zPu(s:Nat)(cs:List PV)(i:Nat)(vs:List PV):(h.set s cs).wr s i vs=if i+vs.length<=cs.length/\vs.all PV.one=true then some (h.set s (cs.take i++vs++cs.drop (i+vs.length)))else none:=by
 simp only[PHeap.wr,PHeap.set,if_true,YM];split
 .congr 2;funext y;by_cases l:y=s<;>simp[l]
 .rfl
end
def pw0:=YX @zPh <| YX @zMY <| YX @zPj <| YX @zQq <| YX @zPk <| YX @zOM <| YX @zPi <| YX @zQr <| YX @zQi <| YX @RVp_q <| YX @RVp_e <| YX @zQl <| YX @DVp_q <| YX @DVp_e <| YX @zPI <| YX @zPH <| YX @zPK <| YX @zPJ <| YX @zJn <| YX @zIH <| YX @zLY <| YX @zJo <| YX @zIG <| YX @zIE <| YX @zID <| YX @zIF <| YX @pv_t <| YX @pv_c <| YX @zOm <| @zMw
def pw1:=YX @zMx <| YX @qp_mv <| YX @zPr <| YX @zQ2 <| YX @qp_un <| YX @zPt <| YX @zJh <| YX @zOc <| YX @zOb <| YX @zH3 <| YX @zH2 <| YX @zJj <| YX @zLT <| YX @zQ0 <| YX @zMq <| YX @zQ1 <| YX @zOa <| YX @zJg <| YX @zMp <| YX @zJi <| YX @zPs <| YX @zQz <| YX @zPq <| YX @zPR <| YX @zRQ <| YX @zMF <| YX @zPP <| YX @zLj <| YX @zNw <| YX @zKV <| @zJ2
def pw2:=YX @zNH <| YX @zNx <| YX @zQa <| YX @zQb <| YX @zPQ <| YX @zLn <| YX @zO7 <| YX @of_bool <| YX @of_int <| YX @zRA <| YX @zQE <| YX @zQF <| YX @zQD <| YX @zRB <| YX @zRC <| YX @zQC <| YX @zO6 <| YX @zKq <| YX @zO1 <| YX @zOr <| YX @zOv <| YX @zO0 <| YX @zOu <| YX @zOw <| YX @zOx <| YX @zOy <| YX @zOz <| YX @zOt <| YX @zOs <| @zLh
def pw3:=YX @zND <| YX @zLi <| YX @zNC <| YX @zNB <| YX @zLg <| YX @zJw <| YX @zLf <| YX @zJv <| YX @zJu <| YX @zJt <| YX @zJs <| YX @zKS <| YX @zNn <| YX @zPy <| YX @zPx <| YX @zLk <| YX @zJy <| YX @zNK <| YX @zO2 <| YX @zO3 <| YX @zP8 <| YX @zLm <| YX @zLl <| YX @zGf <| YX @zHS <| YX @zNI <| YX @zNJ <| YX @zJ1 <| YX @zIJ <| @zQA
def pw4:=YX @zP9 <| YX @zJ0 <| YX @zNL <| YX @zQB <| YX @zJz <| YX @zM5 <| YX @zM4 <| YX @zOo <| YX @zOn <| YX @zM3 <| YX @zLW <| YX @zMU <| YX @zKa <| YX @zKb <| YX @zJe <| YX @zMn <| YX @zJd <| YX @zLS <| YX @zMm <| YX @zJf <| YX @zFo <| YX @zHz <| YX @zHy <| YX @zE7 <| YX @zE6 <| YX @zFq <| YX @zGd <| YX @zLQ <| YX @zHO <| @zLR
def pw5:=YX @zHx <| YX @zFn <| YX @zHN <| YX @zFp <| YX @zLP <| YX @zJc <| YX @zHn <| YX @zHm <| YX @zLO <| YX @zLN <| YX @zJa <| YX @zJb <| YX @zOV <| YX @zNF <| YX @zNG <| YX @zNE <| YX @zM6 <| YX @zLX <| YX @zLb <| YX @zOj <| YX @zJr <| YX @zM0 <| YX @zLZ <| YX @zOh <| YX @zJp <| YX @zMy <| YX @zJq <| YX @zMz <| YX @zM8 <| YX @zP3 <| @zM9
def pw6:=YX @zP4 <| YX @zLa <| YX @zOi <| YX @zM7 <| YX @zP2 <| YX @zLc <| YX @zOk <| YX @zLd <| YX @zCy <| YX @zBb <| YX @zBc <| YX @zMt <| YX @zDU <| YX @zDV <| YX @zHP <| YX @zCY <| YX @zEF <| YX @zFA <| YX @zBO <| YX @zH <| YX @zPv <| YX @zM2 <| YX @zH6 <| YX @zOe <| YX @zAh <| YX @zM1 <| YX @zLV <| YX @zOl <| YX @zKm <| @zP6
def pw7:=YX @zPz <| YX @zQ6 <| YX @zP5 <| YX @zQ3 <| YX @zG2 <| YX @zG <| YX @zMu <| YX @zOf <| YX @zE9 <| YX @qH <| YX @zPu <| YX @zB0 <| YX @zAw <| YX @zNN <| YX @zO5 <| YX @List.map_cons.{0,0} <| YX @List.map_nil.{0,0} <| YX @List.length_cons.{0} <| YX @List.length_nil.{0} <| YX @List.getElem?_cons_zero.{0} <| YX @List.getElem?_cons_succ.{0} <| YX @List.take_succ_cons.{0} <| YX @List.take_zero.{0} <| YX @List.drop_succ_cons.{0} <| YX @List.drop_zero.{0} <| YX @List.take_nil.{0} <| YX @List.drop_nil.{0} <| YX @List.nil_append.{0} <| YX @List.cons_append.{0} <| @List.append_nil.{0}
def pw8:=YX @List.all_cons.{0} <| YX @List.all_nil.{0} <| YX @List.contains_cons.{0} <| YX @List.contains_nil.{0} <| YX @Option.map_some.{0,0} <| YX @Option.map_none.{0,0} <| YX @Option.bind_some.{0,0} <| YX @Option.bind_none.{0,0} <| YX @decide_true <| YX @decide_false <| YX @Bool.not_true <| YX @Bool.not_false <| YX @Bool.and_true <| YX @Bool.true_and <| YX @Bool.and_self <| YX @Bool.or_false <| YX @Bool.or_true <| YX @Bool.true_or <| YX @Bool.false_or <| YX @true_and <| YX @and_true <| YX @Bool.true_eq_false <| YX @Bool.false_eq_true <| YX @Nat.left_eq_add <| YX @Nat.add_eq_left <| YX @Nat.succ_ne_self <| YX @Nat.one_ne_zero <| YX @Nat.add_left_cancel_iff <| YX @Nat.add_assoc <| @Nat.mul_one
def pw9:=YX @Nat.zero_add <| YX @Nat.add_zero <| YX @Nat.le_refl <| YX @Nat.lt_add_one <| YX @Int.toNat_natCast <| YX @Int.natCast_nonneg <| YX @Int.ofNat_lt <| YX @Int.le_refl <| YX @zLF <| YX @zLG <| YX @zDL <| YX @Nat.one_mul <| @Nat.zero_mul
def Z3:=YX pw0 <| YX pw1 <| YX pw2 <| YX pw3 <| YX pw4 <| YX pw5 <| YX pw6 <| YX pw7 <| YX pw8 <| YX pw9 <| YX @nm_eq <| YX @eq_self.{1} <| YX @Int.ofNat_le @List.getElem?_drop.{0}
section
variable{P:Program}
@[congr] theorem cg_vp {c:IC} {Q:Exit->PEnv->PHeap->Prop} {e e':PEnv} {h h':PHeap} (l:nm e=e') (u:h=h'):vp P c Q e h=vp P c Q e' h':=by rw[nm_eq]at l;rw[l,u]
@[congr] theorem zRu {t:OT} {recs l:List RecP} {K:PEnv->PHeap->Prop} {e e':PEnv} {h h':PHeap} (A:recs=l) (u:nm e=e') (C:h=h'):TVp P t recs e h K=TVp P t l e' h' K:=by rw[nm_eq]at u;rw[A,u,C]
@[congr] theorem zRv {l:List II} {K:PEnv->PHeap->Prop} {e e':PEnv} {h h':PHeap} (u:nm e=e') (A:h=h'):RVp P l e h K=RVp P l e' h' K:=by rw[nm_eq]at u;rw[u,A]
@[congr] theorem zRw {nb D nr l:Nat} {A:List DI} {recs u:List RecP} {K:PEnv->PHeap->Prop} {e e':PEnv} {h h':PHeap} (C:nm nb=D) (J:nr=l) (E:recs=u) (G:e=e') (I:h=h'):DVp P nb nr A recs e h K=DVp P D l A u e' h' K:=by rw[nm_eq]at C;rw[C,E,G,I,J]
@[congr] theorem zRs {it:II} {K:PV->PHeap->Prop} {e e':PEnv} {h h':PHeap} (l:nm e=e') (u:h=h'):gep P it e h K=gep P it e' h' K:=by rw[nm_eq]at l;rw[l,u]
@[congr] theorem cg_ep {op:IOp} {K:PV->PHeap->Prop} {e e':PEnv} {h h':PHeap} (l:nm e=e') (u:h=h'):ep P op e h K=ep P op e' h' K:=by rw[nm_eq]at l;rw[l,u]
@[congr] theorem zRm {f:FuncId} {K:PV->PHeap->Prop} {args l:List PV} {h h':PHeap} (u:nm args=l) (A:h=h'):zA P f args h K=zA P f l h' K:=by rw[nm_eq]at u;rw[u,A]
@[congr] theorem zRg {n:Nat} {K:PV->PHeap->Prop} {x A v u:PV} {h h':PHeap} (l:nm x=A) (C:v=u) (D:h=h'):zFu n x v h K=zFu n A u h' K:=by rw[nm_eq]at l;rw[l,C,D]
@[congr] theorem zRo {sz b:Nat} {z:List AV} {K:PV->PHeap->Prop} {x A v u:PV} {h h':PHeap} (l:nm x=A) (C:v=u) (D:h=h'):pMake sz b z x v h K=pMake sz b z A u h' K:=by rw[nm_eq]at l;rw[l,C,D]
@[congr] theorem zRi {sz b:Nat} {z:List AV} {K:PV->PHeap->Prop} {x A v u:PV} {h h':PHeap} (l:nm x=A) (C:v=u) (D:h=h'):zCc sz b z x v h K=zCc sz b z A u h' K:=by rw[nm_eq]at l;rw[l,C,D]
@[congr] theorem zRh {K:PV->PHeap->Prop} {f f':PV} {args l:List PV} {h h':PHeap} (u:nm f=f') (A:args=l) (C:h=h'):zFv P f args h K=zFv P f' l h' K:=by rw[nm_eq]at u;rw[u,A,C]
@[congr] theorem zRf {v u:PV} {a b:Prop} (l:nm v=u):QE v a b=QE u a b:=by rw[nm_eq]at l;rw[l]
@[congr] theorem zRe {v u:PV} {b:Bool} {x y:Prop} (l:nm v=u):QN v b x y=QN u b x y:=by rw[nm_eq]at l;rw[l]
end
def pis(xs:V1):List PV:=xs.map (.int .i64)
theorem zOq(x:Int)(xs:V1):pis (x::xs)=.int .i64 x::pis xs:=rfl
theorem zJ(xs:V1):(pis xs).length=xs.length:=by simp[pis]
theorem zK(xs:V1)(k:Nat):(pis xs)[k]? = (xs[k]?).map (.int .i64):=by simp[pis]
theorem zKo(xs:V1)(k:Nat)(x:Int):(pis xs).set k (.int .i64 x)=pis (xs.set k x):=by simp[pis,List.map_set]
theorem Qj(xs ys:V1):pis xs++pis ys=pis (xs++ys):=by simp[pis]
theorem zBd(xs:V1)(k:Nat):(pis xs).take k=pis (xs.take k):=by simp[pis,List.map_take]
theorem zOp(xs:V1)(k:Nat):(pis xs).drop k=pis (xs.drop k):=by simp[pis,List.map_drop]
theorem zf(n:Nat)(x:Int):List.replicate n (PV.int .i64 x)=pis (List.replicate n x):=by simp[pis]
theorem zL(n:Nat)(xs:V1):Bels n (pis xs):=by
 induction xs with
 |nil=>trivial
 |cons x xs ih=>exact⟨trivial,ih⟩
theorem zU{xs:V1}{i:Nat}(hi:i<xs.length){x:Int}:(pis xs).take i++[.int .i64 x]++(pis xs).drop (i+1)=pis (xs.set i x):=by
 rw[<-zKo,List.set_eq_take_append_cons_drop,if_pos (by rw[zJ];exact hi),Yb,UF]
theorem zBW{h:PHeap}{s:Nat}{cs:List PV}(hs:h.obj s=some cs):h.set s cs=h:=by
 cases h with
 |mk n t f=>
  simp only[PHeap.set];congr 1;funext y;by_cases l:y=s
  .subst l;simp at hs ⊢;exact hs.symm
  .simp[l]
theorem take_set{α:Type}(xs:List α){i:Nat}(hi:i<xs.length)(v:α):xs.take i++v::xs.drop (i+1)=xs.set i v:=by
 rw[List.set_eq_take_append_cons_drop,if_pos hi]
theorem gi{α:Type}{xs:List α}{i:Nat}(hi:i<xs.length):xs[i]? = some xs[i]:=YQ hi
def sm(a:Int):Prop:=-4611686018427387904<=a/\a<=4611686018427387904
theorem sm.w{a:Int}(h:sm a):IntKind.i64.wrap a=a:=wrap64 (by have:=h.1;omega) (by have:=h.2;omega)
theorem mk8{n:Nat}(h:n<=4294967296):(n:Int)*((8:Nat):Int)<=140737488355328:=by omega
theorem mk24{n:Nat}(h:n<=4294967296):(n:Int)*((24:Nat):Int)<=140737488355328:=by omega
theorem mkL{n:Nat}(h:n<=4294967296):(n:Int)<=9223372036854775807:=by omega
def subm(k:Int)(xs ys:V1):V1:=List.zipWith (λx y=>x-k*y) xs ys
theorem zEh{k:Int}{xs ys:V1}(h:xs.length<=ys.length):(subm k xs ys).length=xs.length:=by simp[subm];omega
theorem zOQ{k:Int}{xs ys:V1}{i:Nat}(l:i<xs.length)(u:i<ys.length):(subm k xs ys)[i]? = some (xs[i] - k*ys[i]):=by
 simp[subm,List.getElem?_zipWith,gi l,gi u]
def FI(v:PV)(xs:V1):Prop:=∃w a,v=.fz w a xs.length (pis xs)
def FL{α:Type}(R:PV->α->Prop)(v:PV)(xs:List α):Prop:=∃w a rows,v=.fz w a xs.length rows/\All2 R rows xs
abbrev FII:PV->V2->Prop:=FL FI
abbrev FIII:PV->V3->Prop:=FL FII
theorem FI.one{v:PV}{xs:V1}(h:FI v xs):v.one=true:=by obtain⟨w,a,rfl⟩:=h;rfl
theorem FI.cells{v:PV}{xs:V1}(h:FI v xs):v.cells=[v]:=by obtain⟨w,a,rfl⟩:=h;rfl
theorem FI.bel{v:PV}{xs:V1}(h:FI v xs)(n:Nat):Bel n v:=by obtain⟨w,a,rfl⟩:=h;trivial
theorem FL.one{α:Type}{R:PV->α->Prop}{v:PV}{xs:List α}(h:FL R v xs):v.one=true:=by obtain⟨w,a,r,rfl,_⟩:=h;rfl
theorem FL.cells{α:Type}{R:PV->α->Prop}{v:PV}{xs:List α}(h:FL R v xs):v.cells=[v]:=by obtain⟨w,a,r,rfl,_⟩:=h;rfl
theorem FL.bel{α:Type}{R:PV->α->Prop}{v:PV}{xs:List α}(h:FL R v xs)(n:Nat):Bel n v:=by obtain⟨w,a,r,rfl,_⟩:=h;trivial
theorem FI.sb{v:PV}{xs:V1}(h:FI v xs)(s o:Nat)(cs:List PV):sb s o cs v=v:=by obtain⟨w,a,rfl⟩:=h;rfl
theorem FL.sb{α:Type}{R:PV->α->Prop}{v:PV}{xs:List α}(h:FL R v xs)(s o:Nat)(cs:List PV):sb s o cs v=v:=by obtain⟨w,a,r,rfl,_⟩:=h;rfl
theorem All2.rowI{rows:List PV}{l:V2}(h:All2 FI rows l){k:Nat}(A:k<l.length):∃w a,rows[k]? = some (.fz w a l[k].length (pis l[k])):=by
 obtain⟨r,u,w,a,rfl⟩:=h.get A;exact⟨w,a,u⟩
theorem All2.rowL{α:Type}{R:PV->α->Prop}{rows:List PV}{l:List (List α)}(h:All2 (FL R) rows l){k:Nat}(C:k<l.length):∃w a rs,rows[k]? = some (.fz w a l[k].length rs)/\All2 R rs l[k]:=by
 obtain⟨r,u,w,a,rs,rfl,A⟩:=h.get C;exact⟨w,a,rs,u,A⟩
theorem All2.bels{α:Type}{R:PV->α->Prop}{n:Nat}{rows:List PV}{xs:List α}(h:All2 R rows xs)(u:∀v x,R v x->Bel n v):Bels n rows:=by
 rw[zAp];intro c A;obtain⟨k,l,rfl⟩:=YE.1 A;exact u _ _ (h.2 k _ (xs[k]'(by rw[<-h.1];exact l)) (YQ l) (YQ _))
theorem All2.bI{rows:List PV}{xs:V2}(h:All2 FI rows xs)(n:Nat):Bels n rows:=h.bels λ_ _ k=>k.bel n
theorem All2.bL{α:Type}{R:PV->α->Prop}{rows:List PV}{xs:List (List α)}(h:All2 (FL R) rows xs)(n:Nat):Bels n rows:=h.bels λ_ _ k=>k.bel n
theorem All2.take{α β:Type}{R:α->β->Prop}{as:List α}{u:List β}(h:All2 R as u)(k:Nat):All2 R (as.take k) (u.take k):=by
 refine⟨by simp[h.1],λj a b l A=>?_⟩;rw[Yd]at l A;split at l
 .exact h.2 j a b l (by simpa [*]using A)
 .cases l
theorem All2.drop{α β:Type}{R:α->β->Prop}{as:List α}{l:List β}(h:All2 R as l)(k:Nat):All2 R (as.drop k) (l.drop k):=by
 refine⟨by simp[h.1],λj a b u A=>?_⟩;rw[Ye]at u A;exact h.2 _ a b u A
theorem All2.append{α β:Type}{R:α->β->Prop}{as cs:List α}{A C:List β}(h:All2 R as A)(g:All2 R cs C):All2 R (as++cs) (A++C):=by
 refine⟨by simp[h.1,g.1],λj a b l u=>?_⟩;rcases YG j as.length with x|x
 .rw[Yy x]at l;rw[Yy (by rw[<-h.1];exact x)]at u;exact h.2 j a b l u
 .rw[Yx x]at l;rw[Yx (by rw[<-h.1];exact x),<-h.1]at u;exact g.2 _ a b l u
theorem zF{P:Program}{Q:Exit->PEnv->PHeap->Prop}{e:PEnv}{h:PHeap}{S:List Nat}{c:IC}(I:Nat->List PV->PHeap->Prop)(n:Nat)(l:I n (S.map e) h)
  (round:∀n vs h,I n vs h->vp P c (λx e' h'=>match x with | .normal=>∃n',n'<n/\I n' (S.map e') h'|x=>Q x e' h') (PEnv.mk S vs) h):vp P (.loop S c) Q e h:=
 ⟨I,⟨n,.here l⟩,λn vs h u=>zAc c (λx e h k=>by cases x<;>first|exact k.imp λ_ q=>⟨q.1,.here q.2⟩|exact k) (round n vs h u)⟩
theorem ZU{P:Program}{Q:Exit->PEnv->PHeap->Prop}{e:PEnv}{h:PHeap}{S:List Nat}{c:IC}(I:Nat->List PV->PHeap->Prop)(n:Nat)(l:GL (I n) (S.map e) h)
  (round:∀n vs h,I n vs h->vp P c (λx e' h'=>match x with | .normal=>∃n',n'<n/\GL (I n') (S.map e') h'|x=>Q x e' h') (PEnv.mk S vs) h):vp P (.loop S c) Q e h:=⟨I,⟨n,l⟩,round⟩
theorem iteI{c:Prop}[Decidable c]{A B:Prop}(l:c->A)(u:¬c->B):if c then A else B:=by
 by_cases h:c
 .rw[if_pos h];exact l h
 .rw[if_neg h];exact u h
theorem pkt{K:PV->PHeap->Prop}{h:PHeap}{p:Prop}[Decidable p](l:K (.bool (decide p)) h)(u:p):K (.bool true) h:=by
 rw[decide_eq_true u]at l;exact l
theorem pkf{K:PV->PHeap->Prop}{h:PHeap}{p:Prop}[Decidable p](l:K (.bool (decide p)) h)(u:¬p):K (.bool false) h:=by
 rw[decide_eq_false u]at l;exact l
theorem pke{K:PV->PHeap->Prop}{h:PHeap}{p q:Prop}[Decidable p][Decidable q](l:K (.bool (decide p)) h)(u:p↔q):K (.bool (decide q)) h:=by
 have:decide q=decide p:=decide_eq_decide.2 u.symm
 rw[this];exact l
theorem zC(σ:PHeap)(cs:List PV):Keep σ (σ.new cs):=(Keep.refl σ).new cs
theorem Keep.setN{σ0 σ1:PHeap}{cs:List PV}(a:Keep (σ0.new cs) σ1)(l:List PV):Keep (σ0.new l) (σ1.set σ0.next l):=
 ⟨a.next,a.top,λt u=>by
  by_cases e:t=σ0.next
  .subst e;simp[PHeap.set,PHeap.new]
  .have:=a.obj t u
   simp only[PHeap.set,PHeap.new,if_neg e]at this ⊢;exact this⟩
theorem Keep.of{σ0 σ1:PHeap}{cs:List PV}(a:Keep (σ0.new cs) σ1):Keep σ0 σ1:=(zC σ0 cs).trans a
theorem Keep.rd{σ0 σ1:PHeap}(a:Keep σ0 σ1){s:Nat}(hs:s<σ0.next)(i n:Nat):σ1.rd s i n=σ0.rd s i n:=by simp only[PHeap.rd,a.obj s hs]
theorem zI{h:PHeap}{s:Nat}{cs:List PV}(l:h.obj s=some cs)(i:Nat):h.rd1 s i=cs[i]?:=by simp[PHeap.rd1,l]
theorem zZ{h:PHeap}{s:Nat}{cs:List PV}(l:h.obj s=some cs)(i n:Nat):h.rd s i n=if i+n<=cs.length then some ((cs.drop i).take n)else none:=by simp[PHeap.rd,l]
theorem zT{h:PHeap}{s:Nat}{cs:List PV}(l:h.obj s=some cs)(i:Nat)(vs:List PV):h.wr s i vs=if i+vs.length<=cs.length/\vs.all PV.one=true then some (h.set s (cs.take i++vs++cs.drop (i+vs.length)))else none:=by simp[PHeap.wr,l]
def full(e:Nat)(cap:Cap)(n:Nat):Prop:=cap=.grown e\/cap=.known n
theorem full.ok{e n:Nat}{cap:Cap}(h:full e cap n):capOK cap n=true:=by
 rcases h with rfl|rfl
 .rfl
 .simp[capOK]
def PSl(b e:Nat)(h:PHeap)(v:PV)(n:Nat)(cs:List PV):Prop:=∃s cap,v=.sl s 0 n cap/\full e cap n/\h.obj s=some cs/\cs.length=n*e/\b<=s/\s<h.next
def PAcc(b e:Nat)(h:PHeap)(v:PV)(n:Nat)(cs:List PV):Prop:=
 (v=.fz true .nils 0 []/\n=0/\cs=[])\/PSl b e h v n cs
theorem PAcc.nil(b e:Nat)(h:PHeap):PAcc b e h (.fz true .nils 0 []) 0 []:=.inl ⟨rfl,rfl,rfl⟩
theorem PSl.own{b e n s:Nat}{h:PHeap}{cap:Cap}{cs:List PV}(u:full e cap n)(C:h.obj s=some cs)(A:cs.length=n*e)(l:b<=s)(hs:s<h.next):PSl b e h (.sl s 0 n cap) n cs:=⟨s,cap,rfl,u,C,A,l,hs⟩
theorem PSl.acc{b e n:Nat}{h:PHeap}{v:PV}{cs:List PV}(a:PSl b e h v n cs):PAcc b e h v n cs:=.inr a
theorem PSl.new(b e:Nat){h:PHeap}{n:Nat}{cs:List PV}(u:cs.length=n*e)(l:b<=h.next):PSl b e (h.new cs) (.sl h.next 0 n (.known n)) n cs:=⟨_,_,rfl,.inr rfl,by simp[PHeap.new],u,l,by simp[PHeap.new]⟩
theorem PSl.keep{b e n:Nat}{h h':PHeap}{v:PV}{cs:List PV}(a:PSl b e h v n cs)(u:Keep h h'):PSl b e h' v n cs:=by
 obtain⟨s,cap,rfl,A,C,D,E,l⟩:=a;exact⟨s,cap,rfl,A,by rw[u.obj s l];exact C,D,E,Yk l u.next⟩
theorem PSl.one{b e n:Nat}{h:PHeap}{v:PV}{cs:List PV}(a:PSl b e h v n cs):v.one=true:=by obtain⟨s,cap,rfl,_⟩:=a;rfl
theorem PSl.cells{b e n:Nat}{h:PHeap}{v:PV}{cs:List PV}(a:PSl b e h v n cs):v.cells=[v]:=by obtain⟨s,cap,rfl,_⟩:=a;rfl
theorem PAcc.keep{b e n:Nat}{h h':PHeap}{v:PV}{cs:List PV}(a:PAcc b e h v n cs)(u:Keep h h'):PAcc b e h' v n cs:=by
 rcases a with ⟨rfl,rfl,rfl⟩|⟨s,cap,rfl,A,C,D,E,l⟩
 .exact PAcc.nil _ _ _
 .exact .inr ⟨s,cap,rfl,A,by rw[u.obj s l];exact C,D,E,Yk l u.next⟩
theorem PAcc.one{b e n:Nat}{h:PHeap}{v:PV}{cs:List PV}(a:PAcc b e h v n cs):v.one=true:=by
 rcases a with ⟨rfl,rfl,rfl⟩|⟨s,cap,rfl,_⟩<;>rfl
theorem PAcc.cells{b e n:Nat}{h:PHeap}{v:PV}{cs:List PV}(a:PAcc b e h v n cs):v.cells=[v]:=by
 rcases a with ⟨rfl,rfl,rfl⟩|⟨s,cap,rfl,_⟩<;>rfl
theorem PSl.app{σb h:PHeap}{b e bytes n m:Nat}{v x:PV}{cs news:List PV}{K:PV×PHeap->Prop}(l:Keep σb h)(U:b<=σb.next)(a:PSl σb.next e h v n cs)(T:plen x=some m)(S:m≠0->ZY e h x m=some news)(J:news.length=m*e)
  (E:(n+m)*bytes<=140737488355328) (G:n+m<=4611686018427387904) (k:∀O h',Keep σb h'->PSl σb.next e h' O (n+m) (cs++news)->K (O,h')):optK (qB e bytes h v x) K:=by
 rw[ZM,T];simp only[YM];obtain⟨s,cap,rfl,I,A,C,D,N⟩:=a;by_cases u:m=0
 .rw[if_pos u];subst u
  have:news=[]:=YF (by omega)
  subst this;rcases I with rfl|rfl
  .refine Zo rfl (k _ _ l ?_);rw[Y0,UN];exact⟨s,_,rfl,.inl rfl,A,C,D,N⟩
  .rw[zJl,if_pos (na _)];refine Zo rfl (k _ _ l ?_);rw[Y0,UN];exact⟨s,_,rfl,.inr rfl,A,C,D,N⟩
 .rw[if_neg u,S u];simp only[YM];have M:=l.next;rcases I with rfl|rfl
  .rw[zAq,if_pos ⟨E,G,rfl⟩,A];simp only[YM];rw[if_pos (by omega),List.drop_zero];refine Zo rfl (k _ _ ((l.kill D).new _) ?_);rw[YR (by omega)];exact⟨h.next,_,rfl,.inl rfl,by simp[PHeap.new,PHeap.kill],by rw[YV,C,J,Nat.add_mul],M,by simp[PHeap.new,PHeap.kill]⟩
  .rw[zCH,if_neg (by omega),if_pos ⟨E,G⟩,zZ A,if_pos (by omega),List.drop_zero,YR (by omega)];simp only[Option.map_some];refine Zo rfl (k _ _ (l.new _) ?_);exact⟨h.next,_,rfl,.inl rfl,by simp[PHeap.new],by rw[YV,C,J,Nat.add_mul],M,by simp[PHeap.new]⟩
theorem PAcc.app{σb h:PHeap}{b e bytes n m:Nat}{v x:PV}{cs news:List PV}{K:PV×PHeap->Prop}(A:Keep σb h)(N:b<=σb.next)(a:PAcc σb.next e h v n cs)(I:plen x=some m)(D:m≠0->ZY e h x m=some news)(E:news.length=m*e)
  (C:(n+m)*bytes<=140737488355328) (M:n+m<=4611686018427387904) (k:∀l h',Keep σb h'->PAcc σb.next e h' l (n+m) (cs++news)->(0<n+m->PSl σb.next e h' l (n+m) (cs++news))->K (l,h')):optK (qB e bytes h v x) K:=by
 rcases a with ⟨rfl,rfl,rfl⟩|a
 .rw[ZM,I];simp only[YM];by_cases u:m=0
  .rw[if_pos u];subst u
   have:news=[]:=YF (by omega)
   subst this;exact Zo rfl (k _ _ A (PAcc.nil _ _ _) (by omega))
  .rw[if_neg u,D u];simp only[YM];rw[zA9,if_pos ⟨by simpa using C,by omega⟩];have G:PSl σb.next e (h.new news) (.sl h.next 0 m (.grown e)) m news:=⟨h.next,_,rfl,.inl rfl,by simp[PHeap.new],E,A.next,by simp[PHeap.new]⟩
   refine Zo rfl (k _ _ (A.new _) ?_ ?_)
   .rw[Ys,Y5];exact .inr G
   .rw[Ys,Y5];exactλ_=>G
 .exact PSl.app A N a I D E C M λl h' O J=>k l h' O (.inr J) λ_=>J
theorem PAcc.push{σb h:PHeap}{bytes n:Nat}{v x:PV}{cs:List PV}{K:PV×PHeap->Prop}(C:Keep σb h)(a:PAcc σb.next 1 h v n cs) 
  (u:(n+1)*bytes<=140737488355328) (A:n+1<=4611686018427387904) (k:∀l h',Keep σb h'->PSl σb.next 1 h' l (n+1) (cs++[x])->K (l,h')):optK (qB 1 bytes (h.new [x]) v (.sl h.next 0 1 (.known 1))) K:=
 PAcc.app (news:=[x]) (m:=1) (C.new _) (na _) (a.keep (zC _ _)) rfl (λ_=>by simp[ZH,zBO]) rfl u A λl h' D _ E=>k l h' D (E (by omega))
theorem PSl.push{σb h:PHeap}{bytes n:Nat}{v x:PV}{cs:List PV}{K:PV×PHeap->Prop}(C:Keep σb h)(a:PSl σb.next 1 h v n cs)
  (u:(n+1)*bytes<=140737488355328) (A:n+1<=4611686018427387904) (k:∀l h',Keep σb h'->PSl σb.next 1 h' l (n+1) (cs++[x])->K (l,h')):optK (qB 1 bytes (h.new [x]) v (.sl h.next 0 1 (.known 1))) K:=
 PAcc.push C a.acc u A k
theorem PAcc.cat{σb h:PHeap}{bytes n m:Nat}{w:Bool}{av:AV}{v:PV}{cs news:List PV}{K:PV×PHeap->Prop}(D:Keep σb h)(a:PAcc σb.next 1 h v n cs)(I:news.length=m)
  (A:(n+m)*bytes<=140737488355328) (C:n+m<=4611686018427387904) (k:∀l h',Keep σb h'->PAcc σb.next 1 h' l (n+m) (cs++news)->K (l,h')):optK (qB 1 bytes h v (.fz w av m news)) K:=
 PAcc.app (news:=news) (m:=m) D (na _) a rfl (λu=>by rw[zBz,if_neg u,if_pos ⟨na _,by omega,by omega⟩,YR (by omega)]) (by omega) A C λl h' E G _=>k l h' E G
theorem PSl.cat{σb h:PHeap}{bytes n m:Nat}{w:Bool}{av:AV}{v:PV}{cs news:List PV}{K:PV×PHeap->Prop}(D:Keep σb h)(a:PSl σb.next 1 h v n cs)(E:news.length=m)
  (A:(n+m)*bytes<=140737488355328) (C:n+m<=4611686018427387904) (k:∀l h',Keep σb h'->PSl σb.next 1 h' l (n+m) (cs++news)->K (l,h')):optK (qB 1 bytes h v (.fz w av m news)) K:=
 PSl.app (b:=0) (news:=news) (m:=m) D (YW _) a rfl (λu=>by rw[zBz,if_neg u,if_pos ⟨na _,by omega,by omega⟩,YR (by omega)]) (by omega) A C k
theorem PSl.fin{σ h:PHeap}{e n:Nat}{v:PV}{cs:List PV}{K:PV->PHeap->Prop}(A:Keep σ h)(a:PSl σ.next e h v n cs)(l:Bels 0 cs)(k:∀o cap,K (.fz true (.sl o 0 n cap) n cs) σ):Gh σ K v h:=by
 obtain⟨s,cap,rfl,u,C,E,D,G⟩:=a;exact Gh.finF A C D l u.ok λo=>k _ _
theorem PSl.out{σ h:PHeap}{e n:Nat}{v:PV}{cs:List PV}{K:PV->PHeap->Prop}(A:Keep σ h)(a:PSl σ.next e h v n cs)(l:Bels σ.next cs)(k:∀cap,full e cap n->K (.sl σ.next 0 n cap) (σ.new cs)):Gh σ K v h:=by
 obtain⟨s,cap,rfl,u,C,E,D,G⟩:=a;exact Gh.finS A C D l (k cap u)
theorem PAcc.fin{σ h:PHeap}{e n:Nat}{v:PV}{cs:List PV}{K:PV->PHeap->Prop}(l:Keep σ h)(a:PAcc σ.next e h v n cs)(u:Bels 0 cs)(k:∀a,K (.fz true a n cs) σ):Gh σ K v h:=by
 rcases a with ⟨rfl,rfl,rfl⟩|⟨s,cap,rfl,A,C,E,D,G⟩
 .exact Gh.fin0 l trivial (k _)
 .exact Gh.finF l C D u A.ok λo=>k _
theorem zA.fz{P:Program}{f:FuncId}{args:List PV}{σ:PHeap}{K:PV->PHeap->Prop}{l e:Nat}{cs:List PV}(c:∀K':PV->PHeap->Prop,(∀cap,full e cap l->K' (.sl σ.next 0 l cap) (σ.new cs))->zA P f args σ K')(u:Bels 0 cs)
  (k:∀o cap,K (.fz true (.sl o 0 l cap) l cs) σ):zA P f args σ K:=
 zA.gh (c _ λcap A=>Gh.finF (zC σ cs) (by simp[PHeap.new]) (na _) u A.ok λo=>k o cap)
def ResI(σ:PHeap)(K:PV->PHeap->Prop)(xs:V1):Prop:=(xs=[]->K (.fz true .nils 0 []) σ)/\∀cap,full 1 cap xs.length->K (.sl σ.next 0 xs.length cap) (σ.new (pis xs))
theorem zA.fzI{P:Program}{f:FuncId}{args:List PV}{σ:PHeap}{K:PV->PHeap->Prop}{xs:V1}(c:∀K':PV->PHeap->Prop,ResI σ K' xs->zA P f args σ K')(k:∀a,K (.fz true a xs.length (pis xs)) σ):zA P f args σ K:=
 zA.gh (c _ ⟨λl=>by subst l;exact Gh.ret (k _),λcap u=>Gh.finF (zC σ _) (by simp[PHeap.new]) (na _) (zL _ _) u.ok λo=>k _⟩)
theorem zA.fzN{P:Program}{f:FuncId}{args:List PV}{σ:PHeap}{K:PV->PHeap->Prop}{xs:V1}{n:Nat}(l:xs.length=n)(c:∀K':PV->PHeap->Prop,ResI σ K' xs->zA P f args σ K')(k:∀a,K (.fz true a n (pis xs)) σ):zA P f args σ K:=by
 subst l;exact zA.fzI c k
theorem PAcc.res{σ h:PHeap}{n:Nat}{v:PV}{xs:V1}{K:PV->PHeap->Prop}(l:Keep σ h)(A:n=xs.length)(a:PAcc σ.next 1 h v n (pis xs))(k:ResI σ K xs):Gh σ K v h:=by
 subst A;rcases a with ⟨rfl,u,C⟩|a
 .exact Gh.fin0 l trivial (k.1 (YF u))
 .exact a.out l (zL _ _) k.2
abbrev qI(d:Nat)(o:IOp):II:=⟨some d,o,true,none⟩
abbrev eI(d:Nat)(o:IOp):II:=⟨some d,o,false,none⟩
abbrev nI(o:IOp):II:=⟨none,o,false,none⟩
abbrev qD(d:Nat)(o:IOp)(i:Nat):DI:=⟨⟨some d,o,true,none⟩,i,[]⟩
abbrev eD(d:Nat)(o:IOp)(i:Nat)(c:List Nat):DI:=⟨⟨some d,o,false,none⟩,i,c⟩
theorem PWF.newB{σ:PHeap}{cs:List PV}(w:PWF σ)(u:Bels σ.next cs):PWF (σ.new cs):=
 ⟨λs hs=>by rw[zH,if_neg (by simp only[PHeap.new]at hs;omega)];exact w.wf s (by simp only[PHeap.new]at hs;omega),λs l hs=>by
  rw[zH]at hs;split at hs
  .cases hs;exact u.up (UQ _)
  .exact(w.bel s l hs).up (UQ _)⟩
theorem Zd{s o:Nat}{cs:List PV}:∀vs:List PV,(sbs s o cs vs).length=vs.length
 |[]=>rfl
 |v::vs=>by simp only[sbs,YS,Zd vs]
theorem Keep.sub{σ0 h:PHeap}(w:PWF σ0)(l:Keep σ0 h){s o:Nat}{cs:List PV}(hs:σ0.next<=s):Keep σ0 (h.sub s o cs):=
 ⟨l.next,l.top,λt u=>by
  simp only[PHeap.sub];rw[l.obj t u];cases hd:σ0.obj t with
  |none=>rfl
  |some b=>simp only[Option.map_some];rw[Qg hs (w.bel t b hd)]⟩
theorem PAcc.pos{b e n:Nat}{h:PHeap}{v:PV}{cs:List PV}(a:PAcc b e h v n cs)(u:0<n):PSl b e h v n cs:=by
 rcases a with ⟨_,l,_⟩|a
 .omega
 .exact a
theorem PAcc.low{b b' e n:Nat}{h:PHeap}{v:PV}{cs:List PV}(a:PAcc b e h v n cs)(E:b'<=b):PAcc b' e h v n cs:=by
 rcases a with a|⟨s,cap,rfl,l,u,A,C,D⟩
 .exact .inl a
 .exact .inr ⟨s,cap,rfl,l,u,A,Y7 E C,D⟩
theorem PAcc.appS{σb h:PHeap}{e bytes n m:Nat}{v x:PV}{rows news:List PV}{K:PV×PHeap->Prop}(C:Keep σb h)(a:PAcc σb.next e h v n rows)(hx:plen x=some m)(hm:m≠0)(Y:ZY e h x m=some news)(E:news.length=m*e)
  (D:(n+m)*bytes<=140737488355328) (S:n+m<=4611686018427387904)
  (k:∀M h',Keep σb h'->PSl σb.next e h' M (n+m) (rows++news)->(∀t,t<h.next->(∀off l c,v≠.sl t off l c)->h'.obj t=h.obj t)->(∀t,t<h.next->∀off l c,M≠.sl t off l c)->h.next<h'.next->K (M,h')):optK (qB e bytes h v x) K:=by
 rw[ZM,hx];simp only[YM];rw[if_neg hm,Y];simp only[YM];have G:=C.next;have J:∀t,t<h.next->∀(off l:Nat) (c:Cap) (T:Nat) (O:Cap),PV.sl h.next 0 T O≠.sl t off l c:=λt I off l c T O e=>by
  simp only[PV.sl.injEq]at e;omega
 rcases a with ⟨rfl,rfl,rfl⟩|⟨t,c,rfl,X,U,V,q4,q5⟩
 .rw[zA9,if_pos ⟨by simpa using D,by omega⟩];refine Zo rfl (k _ _ (C.new _) ⟨_,_,by rw[Y5],.inl rfl,by simp[PHeap.new],by simpa using E,G,by simp[PHeap.new]⟩ (λt I _=>?_) (λt I off l c=>J t I off l c _ _) (YP _));rw[zH,if_neg (by omega)]
 .rcases X with rfl|rfl
  .rw[zAq,if_pos ⟨D,S,rfl⟩,U];simp only[YM];rw[if_pos (by omega),List.drop_zero,YR (by omega)];refine Zo rfl (k _ _ ((C.kill q4).new _) ⟨_,_,rfl,.inl rfl,by simp[PHeap.new,PHeap.kill],by rw[YV,V,E,Nat.add_mul],G,by simp[PHeap.new,PHeap.kill]⟩ (λu A N=>?_) (λu A off l c=>J u A off l c _ _) (YP _));rw[zH,if_neg (by simp only[PHeap.kill];omega)]
   show(if u=t then none else _)=_
   rw[if_neg λe=>N 0 n _ (by rw[e])]
  .rw[zCH,if_neg (by omega),if_pos ⟨D,S⟩,zZ U,if_pos (by omega),List.drop_zero,YR (by omega)];simp only[Option.map_some];refine Zo rfl (k _ _ (C.new _) ⟨_,_,rfl,.inl rfl,by simp[PHeap.new],by rw[YV,V,E,Nat.add_mul],G,by simp[PHeap.new]⟩ (λu A N=>?_) (λu A off l c=>J u A off l c _ _) (YP _));rw[zH,if_neg (by omega)]
theorem PAcc.pushS{σb h:PHeap}{e bytes n:Nat}{v:PV}{rows news:List PV}{K:PV×PHeap->Prop}(G:Keep σb h)(a:PAcc σb.next e h v n rows)(S:news.length=e)(D:(n+1)*bytes<=140737488355328)(E:n+1<=4611686018427387904)
  (k:∀u h',Keep σb h'->PSl σb.next e h' u (n+1) (rows++news)->(∀t,t<h.next->(∀off l c,v≠.sl t off l c)->h'.obj t=h.obj t)->(∀t,t<h.next->∀off l c,u≠.sl t off l c)->h.next<h'.next->K (u,h')):optK (qB e bytes (h.new news) v (.sl h.next 0 1 (.known 1))) K:=
 PAcc.appS (m:=1) (G.new _) (a.keep (zC _ _)) rfl (by omega) (by rw[ZH,if_neg (by omega),if_pos (na _),zBO,if_pos rfl,if_pos (by omega),List.drop_zero,YR (by omega)]) (by omega) D E
  λu h' I J M N O=>k u h' I J (λt A C=>by rw[M t (Nat.lt_succ_of_lt A) C,zH,if_neg (by omega)]) (λt A=>N t (Nat.lt_succ_of_lt A)) (Nat.lt_trans (YP _) O)
theorem zKh{s o l:Nat}{cap:Cap}{rows cs:List PV}(u:Bels 0 rows)(A:capOK cap l=true):sbs s o cs (rows++[.sl s 0 l cap])=rows++[.fz true (.sl o 0 l cap) l cs]:=by
 rw[zFk,Qg (YW _) u];simp only[sbs,sb,A,and_self,if_true]
section
open Go.ChangeShapes Go.WideShapes Go.RowKit Go.Deep
variable{w0 W:World}{j:Inj}{h h':AHeap}{H:Type}{enc:TypeId×Value->H}{P:Program}{α:Type}
abbrev zlt(h:AHeap):Nat->Prop:=λo=>o<h.next
theorem Ext.voks{pvs:List PV}{n:Nat}(e:Ext h h')(u:VOKs (zlt h) h n pvs):VOKs (zlt h') h' n pvs:=u.mono (λo l=>⟨Yk l e.next,e.obj o l⟩) (na _)
theorem MR.name(m:MR W.heap.size w0 j h W)(l:Loc):MR W.heap.size w0 (j.put h.next l) ⟨h.next+1,h.obj⟩ W/\j.le (j.put h.next l)/\Ext h ⟨h.next+1,h.obj⟩:=by
 have hle:=Inj.le_put m l;have T:h.obj h.next=none:=(m.fresh _ (na _)).1;have conv:∀{o:Nat} {D:AObj} {C:Loc},h.obj o=some D->(j.put h.next l) o=some C->j o=some C:=λ{o D C} u A=>by
  have:o≠h.next:=λe=>by subst e;rw[T]at u;cases u
  simpa [Inj.put,this]using A
 refine⟨⟨m.below,m.bnd,λo u=>?_,λo D C u A=>?_,λo S x U N O G u E A I M=>m.apart o S x U N O G u E (conv u A) (conv E I) M⟩,hle,⟨by simp,λ_ _=>rfl,λo u=>m.wf o (by simp at u;omega)⟩⟩
 .simp only at u;refine⟨m.wf o (by omega),?_⟩;simp only[Inj.put];rw[if_neg (by omega)];exact(m.fresh o (by omega)).2
 .obtain⟨a,cur,ty,fz,b,c,d⟩:=m.obj o D C u (conv u A);exact⟨a,cur,ty,fz,b,λi v hi=>by obtain⟨J,x,y⟩:=c i v hi;exact⟨J,x,VI.mono hle _ _ y⟩,d⟩
def Lay1(enc:TypeId×Value->H)(P:Program)(W:World)(t:TypeId)(R:PV->α->Prop):Prop:=∀(w0:World) (j:Inj) (h:AHeap) (held:Bool) (fuel:Nat) (v:Value) (x:DataW H×List MemPlace),MR W.heap.size w0 j h W->
 DataW.trod enc P W 0 (λ_=>true) held fuel t [v]=some x->∃(l:Inj) (h':AHeap) (pv:PV) (a:α),MR W.heap.size w0 l h' W/\j.le l/\Ext h h'/\VI l (er idz pv) v/\VOK (zlt h') h' 0 pv/\pv.one=true/\R pv a
theorem Lay1.cells{e:TypeId}{R:PV->α->Prop}(L:Lay1 enc P W e R){V:Nat->Value}{D:Nat->DataW H}{I:Nat->List MemPlace}{held:Bool}{fuel:Nat}{w0:World}:∀(n:Nat) {j:Inj} {h:AHeap},MR W.heap.size w0 j h W->
  (∀i,i<n->DataW.trod enc P W 0 (λ_=>true) held fuel e [V i]=some (D i,I i))->
  ∃(l:Inj) (h':AHeap) (pvs:List PV) (as:List α),MR W.heap.size w0 l h' W/\j.le l/\Ext h h'/\pvs.length=n/\(∀i pv,pvs[i]? = some pv->VI l (er idz pv) (V i))/\VOKs (zlt h') h' 0 pvs/\pvs.all PV.one=true/\All2 R pvs as
 |0,j,h,m,_=>⟨j,h,[],[],m,Inj.le.refl _,Ext.refl m.wf,rfl,λi pv hi=>(by simp at hi),trivial,rfl,All2.nil _⟩
 |n+1,j,h,m,hx=>by
  obtain⟨X,N,pvs,as,m1,l1,M,A,U,S,J,T⟩:=Lay1.cells L n m λi hi=>hx i (by omega);obtain⟨Y,O,pv,a,m2,C,u,v2,o2,E,r2⟩:=L w0 X N held fuel (V n) _ m1 (hx n (by omega));refine⟨Y,O,pvs++[pv],as++[a],m2,l1.trans C,M.trans u,by simp[A],λi G hi=>?_,(u.voks S).append ⟨o2,trivial⟩,by simp[J,E],T.snoc r2⟩;rcases Nat.lt_trichotomy i n with x|x|x
  .rw[Yy (by omega)]at hi;exact VI.mono C _ _ (U i G hi)
  .subst x;rw[Yx (by omega)]at hi;simp[A]at hi;subst hi;exact v2
  .rw[Yq (by simp;omega)]at hi;cases hi
theorem addr_add(a:Addr)(i:Nat):(a.add i).block=a.block:=by unfold Addr.add;split<;>rfl
theorem zNc{t e:TypeId}(ht:P.underlying t=some (.slice e))(u:P.cellsOf e=1){R:PV->α->Prop}(L:Lay1 enc P W e R):Lay1 enc P W t (λv (xs:List α)=>FL R v xs/\xs.length<=9223372036854775807):=by
 intro w0 j h held fuel v x m hx;rcases open_slice1 ht u hx with ⟨A,rfl⟩|⟨a,len,c0,cap,n,a0,D,Pl,A,_,hl,hm,J,rfl,C⟩
 .simp only[List.cons.injEq,and_true]at A;subst A;exact⟨j,h,.fz true .nils 0 [],[],m,Inj.le.refl _,Ext.refl m.wf,rfl,⟨.inl ⟨rfl,rfl,rfl⟩,trivial⟩,rfl,⟨true,.nils,[],rfl,All2.nil _⟩,by simp⟩
 simp only[if_true]at J;subst J;simp only[List.cons.injEq,and_true]at A;subst A;have fZ:maxLen=9223372036854775807:=rfl;by_cases h0:cap=0
 .subst h0;obtain rfl:len=0:=by omega
  obtain⟨m',l',e'⟩:=m.name ⟨0,0,0⟩;exact⟨_,_,.fz false (.sl h.next 0 0 (.known 0)) 0 [],[],m',l',e',⟨⟨0,0,0⟩,a,by simp[Inj.put],rfl,.inr ⟨rfl,rfl⟩⟩,⟨.inr ⟨h.next,0,.known 0,rfl,by simp[zlt],.inl rfl,λc u=>by cases u;exact na _,by simp⟩,trivial⟩,rfl,⟨false,_,[],rfl,All2.nil _⟩,by simp⟩
 obtain⟨hs,cur,ty,fz,hb,_⟩:=zK6 (C 0 (by omega)).1;obtain⟨blk,off,spot⟩:=a;have yp:spot=none:=by simpa [Addr.add]using hs
 subst yp;have G:W.heap[blk]? = some (.cells cur ty fz):=by simpa [Addr.add]using hb
 have X:=zRY G;obtain⟨j1,O,pvs,as,I,l1,e1,T,dC,U,Y,S⟩:=L.cells len m λi hi=>(C i (by omega)).2;have m2:=I.lay (cells:=ers idz pvs) (l:=⟨blk,off,0⟩) (by rw[zEQ U];exact Y) X G (by
  intro i v hi;rw[zCj]at hi;obtain⟨pv,V,rfl⟩:=YJ.1 hi;have aN:i<len:=by rw[<-T];exact(Yn.1 V).1
  obtain⟨_,pA,nU,A1,E,M⟩:=zK6 (C i (by omega)).1;rw[addr_add]at E;rw[G]at E;cases E;rw[show((⟨blk,off,none⟩:Addr).add i).off=off+i by unfold Addr.add;split<;>simp_all]at M;exact⟨_,M,dC i pv V⟩)
 have N:=Ext.new I.wf ⟨false,ers idz pvs⟩;have cU:=S.1;refine⟨_,_,.fz false (.sl O.next 0 len (.known cap)) len pvs,as,m2,l1.trans (Inj.le_put I _),e1.trans N,⟨⟨blk,off,0⟩,_,by simp[Inj.put],rfl,.inl rfl⟩,⟨.inr ⟨O.next,0,.known cap,rfl,by simp[zlt,AHeap.new],.inr (zCs (zLp _) rfl),λc u=>by cases u;exact hl,by simp⟩,N.voks U⟩,rfl,⟨false,_,pvs,by rw[<-cU,T],S⟩,by omega⟩
theorem All2.all{β γ:Type}{R:β->γ->Prop}{as:List β}{l:List γ}(h:All2 R as l){p:γ->Prop}(C:∀a b,R a b->p b):∀b∈l,p b:=by
 intro b u;obtain⟨k,A,rfl⟩:=YE.1 u;obtain⟨a,_,D⟩:=h.get A;exact C _ _ D
theorem FL.all{R:PV->α->Prop}{v:PV}{xs:List α}(h:FL R v xs){p:α->Prop}(l:∀v x,R v x->p x):∀x∈xs,p x:=by
 obtain⟨w,a,rows,rfl,h⟩:=h;exact h.all l
def PHeap.start(h:AHeap):PHeap:=⟨0,h.next,λ_=>none⟩
theorem zMj(hw:HWF h):Rel idz (zlt h) (PHeap.start h) h:=⟨hw,λ_ l=>l,na _,λ_ _=>rfl,λ_ _ l=>(by cases l),λ_ _ _ _ l=>(by cases l)⟩
theorem zA.law{f:FuncId}{args:List PV}(c:zA P f args (PHeap.start h) (λv _=>v=.bool true))(hw:HWF h)(l:VOKs (zlt h) h 0 args):ZZ P f (ers idz args) h (λv _=>v=.bool true):=by
 refine(c idz (zlt h) h (zMj hw) l).mono ?_
 rintro v h' ⟨pv,σ',ι',Z',_,_,_,rfl,rfl⟩
 rfl
end
section
variable{σ:PHeap}{L:List (Nat×List PV)}
mutual
def ead:PV->List Nat
 | .fz _ a _ cs=>bif cs.isEmpty then []else match a with | .sl o _ _ _=>o::eads cs|_=>[]
 | .fp a cs=>bif cs.isEmpty then []else match a with | .ptr o _=>o::eads cs|_=>[]
 | .clo _ a b=>eads a++eads b
 | .agg cs=>eads cs
 | .tup cs=>eads cs
 |_=>[]
def eads:List PV->List Nat
 |[]=>[]
 |c::cs=>ead c++eads cs
end
mutual
def rm(L:List (Nat×List PV)):PV->PV
 | .fz w a len cs=>bif cs.isEmpty then .fz w a len cs else
  match a with
  | .sl o off l cap=>
   match L.lookup o with
   |some ms=>bif w then .fz true (.sl o off l cap) len ms else .fp (.sl o off l cap) []
   |none=>.fz w (.sl o off l cap) len (rms L cs)
  |a=>.fz w a len cs
 | .fp a cs=>bif cs.isEmpty then .fp a cs else
  match a with
  | .ptr o i=>
   match L.lookup o with
   |some _=>.fp (.ptr o i) []
   |none=>.fp (.ptr o i) (rms L cs)
  |a=>.fp a cs
 | .clo f a b=>.clo f (rms L a) (rms L b)
 | .agg cs=>.agg (rms L cs)
 | .tup cs=>.tup (rms L cs)
 |v=>v
def rms(L:List (Nat×List PV)):List PV->List PV
 |[]=>[]
 |c::cs=>rm L c::rms L cs
end
theorem zCN:∀(as l:List PV),eads (as++l)=eads as++eads l
 |[],_=>rfl
 |a::as,l=>by simp only[Yo,eads,zCN as l,Yb]
def PHeap.rmap(σ:PHeap)(L:List (Nat×List PV)):PHeap:=⟨σ.next,σ.top,λs=>(σ.obj s).map (rms L)⟩
end
section
variable{P:Program}{h:AHeap}{σ σ0 σ1:PHeap}{K:PV->PHeap->Prop}
def isSl:AV->Bool
 | .sl _ _ _ _=>true
 |_=>false
mutual
def Wh:PV->Prop
 | .fz w a _ cs=>cs=[]\/(w=true/\isSl a=true/\Whs cs)
 | .fp _ cs=>cs=[]
 | .clo _ a b=>Whs a/\Whs b
 | .agg cs=>Whs cs
 | .tup cs=>Whs cs
 |_=>True
def Whs:List PV->Prop
 |[]=>True
 |c::cs=>Wh c/\Whs cs
end
theorem zGv:∀{cs:List PV},Whs cs↔∀c∈cs,Wh c
 |[]=>by simp[Whs]
 |c::cs=>by simp[Whs,zGv (cs:=cs)]
structure Own(lo hi:Nat)(v:PV):Prop where
 wh:Wh v
 nd:(ead v).Nodup
 lt:∀o∈ead v,lo<=o/\o<hi
structure Owns(lo hi:Nat)(cs:List PV):Prop where
 wh:Whs cs
 nd:(eads cs).Nodup
 lt:∀o∈eads cs,lo<=o/\o<hi
theorem Owns.mono{v:List PV}(h:Owns lo hi v)(u:HI<=lo)(A:hi<=iJ):Owns HI iJ v:=⟨h.wh,h.nd,λo l=>by have:=h.lt o l;omega⟩
theorem Owns.nil(lo hi:Nat):Owns lo hi []:=⟨trivial,List.nodup_nil,λo l=>by cases l⟩
theorem Owns.snoc{cs:List PV}{c:PV}(h:Owns lo t cs)(g:Own t hi c)(A:lo<=t)(C:t<=hi):Owns lo hi (cs++[c]):=by
 refine⟨zGv.2 λx hx=>?_,?_,λo ho=>?_⟩
 .rcases YY.1 hx with hx|hx
  .exact zGv.1 h.wh x hx
  .rw[YN.1 hx];exact g.wh
 .rw[zCN,List.nodup_append];simp only[eads,Y0];refine⟨h.nd,g.nd,λa l b u e=>?_⟩
  have:=h.lt a l
  have:=g.lt b u
  omega
 .rw[zCN]at ho;simp only[eads,Y0,YY]at ho;rcases ho with ho|ho
  .have:=h.lt o ho;omega
  .have:=g.lt o ho;omega
theorem Own.empty(lo hi:Nat)(w:Bool)(a:AV)(l:Nat):Own lo hi (.fz w a l []):=⟨.inl rfl,List.nodup_nil,λo u=>by cases u⟩
theorem Owns.fz{cs:List PV}{o l:Nat}{cap:Cap}(h:Owns lo hi cs)(u:lo<=o)(A:o<hi)(C:o∉eads cs):Own lo hi (.fz true (.sl o 0 l cap) l cs):=by
 refine⟨.inr ⟨rfl,rfl,h.wh⟩,?_,λx hx=>?_⟩
 .unfold ead;cases cs.isEmpty
  .simp only[cond_false,UF];exact List.nodup_cons.2 ⟨C,h.nd⟩
  .exact List.nodup_nil
 .unfold ead at hx;cases he:cs.isEmpty<;>rw[he]at hx
  .simp only[cond_false,UF,YH]at hx;rcases hx with rfl|hx
   .exact⟨u,A⟩
   .exact h.lt x hx
  .cases hx
theorem zIw(xs:V1):eads (pis xs)=[]:=by
 induction xs with
 |nil=>rfl
 |cons x xs ih=>simp only[zOq,eads,ead,ih,Y0]
theorem zQh(xs:V1):Whs (pis xs):=by
 induction xs with
 |nil=>trivial
 |cons x xs ih=>exact⟨trivial,ih⟩
theorem Owns.pis(lo hi:Nat)(xs:V1):Owns lo hi (pis xs):=⟨zQh xs,by rw[zIw];exact List.nodup_nil,λo l=>by rw[zIw]at l;cases l⟩
mutual
theorem zN0:∀{v:PV} {o:Nat},o∈ead v->o∈addrs v
 | .undef,o,ho | .bool _,o,ho | .int _ _,o,ho | .str _,o,ho | .nilp,o,ho | .nilf,o,ho | .ptr _ _,o,ho | .sl _ _ _ _,o,ho=>by simp[ead]at ho
 | .fz w a len cs,o,ho=>by
  unfold ead at ho;cases he:cs.isEmpty<;>rw[he]at ho
  .simp only[cond_false,YY]at ho;have l:o∈eads cs->o∈ZI cs:=Zi;cases a<;>simp only[addrs,YH,Yp,false_or,or_false]at ho ⊢<;>first|exact ho.imp id l|skip
  .cases ho
 | .fp a cs,o,ho=>by
  unfold ead at ho;cases he:cs.isEmpty<;>rw[he]at ho
  .simp only[cond_false,YY]at ho;have l:o∈eads cs->o∈ZI cs:=Zi;cases a<;>simp only[addrs,he,Bool.false_eq_true,if_false,YY,YH,Yp,false_or,or_false]at ho ⊢<;>first|exact ho.imp id l|skip
  .cases ho
 | .clo _ a b,o,ho=>by
  simp only[ead,addrs,YY]at ho ⊢;exact ho.imp Zi Zi
 | .agg cs,o,ho=>Zi (cs:=cs) ho
 | .tup cs,o,ho=>Zi (cs:=cs) ho
theorem Zi:∀{cs:List PV} {o:Nat},o∈eads cs->o∈ZI cs
 |[],o,ho=>by cases ho
 |c::cs,o,ho=>by
  simp only[eads,ZI,YY]at ho ⊢;exact ho.imp zN0 Zi
end
theorem Gh.own{s l:Nat}{cap:Cap}{cs:List PV}(A:Keep σ0 σ1)(hs:σ1.obj s=some cs)(D:σ0.next<=s)(J:Bels 0 cs)(C:capOK cap l=true)(N:Owns σ0.top σ1.top cs)
  (k:∀o t,Own σ0.top t (.fz true (.sl o 0 l cap) l cs)->σ0.top<=t->K (.fz true (.sl o 0 l cap) l cs) (σ0.up t)):Gh σ0 K (.sl s 0 l cap) σ1:=
 Gh.finZ A hs D J C λo E G t I u=>k o t ((N.mono (na _) u).fz E I λM=>G (Zi M)) (Y7 A.top u)
theorem zA.fzIT{f:FuncId}{args:List PV}{xs:V1}(c:∀K':PV->PHeap->Prop,ResI σ K' xs->zA P f args σ K')(k:∀v t,FI v xs->Own σ.top t v->σ.top<=t->K v (σ.up t)):zA P f args σ K:=
 zA.gh (c _ ⟨λl=>by subst l;exact Gh.ret (k _ σ.top ⟨true,.nils,rfl⟩ (Own.empty _ _ _ _ _) (na _)),λcap C=>Gh.own (zC σ _) (by simp[PHeap.new]) (na _) (zL _ _) C.ok (Owns.pis _ _ _) λo t u A=>k _ t ⟨true,_,rfl⟩ u A⟩)
theorem zMB{α:Type}{cs:List α}(h:cs≠[]):cs.isEmpty=false:=by cases cs;exact absurd rfl h;rfl
theorem zRR{w:Bool}{o off l n:Nat}{cap:Cap}{cs:List PV}(u:cs≠[]):ead (.fz w (.sl o off l cap) n cs)=o::eads cs:=by
 rw[ead,zMB u];rfl
variable{α:Type}{len:α->Nat}
end
section
variable{σ0 σ1:PHeap}{K:PV->PHeap->Prop}
theorem Gh.freezeH{v:PV}{s:Nat}{cs:List PV}(hs:σ1.obj s=some cs)(h0:σ0.next<=s)(u:Bels 0 cs)
  (k:∀o,σ0.top<=o->(∀t C,σ1.obj t=some C->o∉ZI C)->o∉addrs v->Gh σ0 K (sb s o cs v) (((σ1.kill s).sub s o cs).up (max σ1.top (o+1)))):Gh σ0 K v σ1:=by
 intro w ι Z h b r J h1 h2 I h4;obtain⟨r',G,A,M⟩:=r.freeze hs u;have ki:=I s cs h0 hs;have D:∀o,Z o->(Z o\/o=ι s)/\h.obj o=h.obj o:=λo A=>⟨.inl A,rfl⟩
 have r3:=r'.sub (s:=s) rfl (.inr rfl) A (G.mono D (na _));have conv:∀{t:Nat} {a:List PV},((σ1.kill s).sub s (ι s) cs).obj t=some a->∃b,σ1.obj t=some b:=λ{t a} l=>by
  simp only[PHeap.sub,PHeap.kill,YJ]at l;obtain⟨b,u,_⟩:=l;split at u
  .cases u
  .exact⟨b,u⟩
 obtain⟨v2,σ2,ι2,N,O,S,T,U,V,X,Y,g8,g9⟩:=k (ι s) (by omega) (λt C l E=>M (Z9 (r.obj t C l).2.1 _ E)) (λE=>M (zGu J _ E)) w ι (λo=>Z o\/o=ι s) h b r3
  (VOK.sb (.inr rfl) A (G.mono D (na _)) (J.mono D (na _))) h1 h2 (λt C l hd=>by obtain⟨b,u⟩:=conv hd;exact I t b l u)
  (λt l hd=>by
   have:=h4 t l hd
   simp only[PHeap.sub,PHeap.kill,PHeap.up];split
   .rfl
   .rw[this];rfl)
 exact⟨v2,σ2,ι2,N,O,S,T,U,λo A=>V o (.inl A),X,Y,g8.trans (er_sb rfl v),g9⟩
theorem All2.imp{α β:Type}{R S:α->β->Prop}{as:List α}{l:List β}(h:All2 R as l)(hi:∀a b,R a b->S a b):All2 S as l:=⟨h.1,λk a b u A=>hi a b (h.2 k a b u A)⟩
end
structure SR where
 s:Nat
 cap:Cap
 x:V1
def SR.pv(q:SR):PV:=.sl q.s 0 q.x.length q.cap
def SR.ok(σ:PHeap)(b:Nat)(q:SR):Prop:=full 1 q.cap q.x.length/\σ.obj q.s=some (pis q.x)/\b<=q.s/\q.s<σ.next
def qZ(rows:List SR):List Nat:=rows.map SR.s
section
variable{h:PHeap}
theorem SR.ok.keep{b:Nat}{h':PHeap}{q:SR}(a:q.ok h b)(k:Keep h h'):q.ok h' b:=⟨a.1,by rw[k.obj _ a.2.2.2];exact a.2.1,a.2.2.1,Yk a.2.2.2 k.next⟩
end
end Go.Ab
