/- WHOLE FUNCTIONS: the code compiled, what is to be shown of it ('vc'), and that this is enough. -/
import Derived.Test.YtjlpbpfaihhamaaGreatBAbTree
import Derived.Deep.LoopGhost
set_option linter.unusedSimpArgs false
set_option linter.unusedVariables false
namespace Go.Ab
open Go.RowKit
inductive IC where
 | skip
 | region (S:List Nat) (its:List II)
 | draw (S:List Nat) (zs:List (List AV)) (its:List DI)
 | tree (S:List Nat) (t:OT)
 | seq (a b:IC)
 | cond (c:IX) (a b:IC)
 | block (id:Nat) (c:IC)
 | loop (S:List Nat) (c:IC)
 | exit (id:Nat)
 | ret
def Env.mk:List Nat→List AV→Env
 | s::S,v::vs=>fun t=>if t=s then v else Env.mk S vs t
 | _,_=>fun _=>.undef
def AHeap.news (h:AHeap):List (List AV)→AHeap
 | []=>h
 | z::zs=>(h.new ⟨true,z⟩).news zs
def vc (P:Program):IC→(Exit→Env→AHeap→Prop)→Env→AHeap→Prop
 | .skip,Q,e,h=>Q .normal e h
 | .region S its,Q,e,h=>RV P its e h fun e' h'=>Q .normal (Env.mk S (S.map e')) h'
 | .draw S zs its,Q,e,h=>DV P h.next its [] e (h.news zs) fun e' h'=>Q .normal (Env.mk S (S.map e')) h'
 | .tree S t,Q,e,h=>TV P t [] e h fun e' h'=>Q .normal (Env.mk S (S.map e')) h'
 | .seq a b,Q,e,h=>vc P a (fun x e' h'=>match x with | .normal=>vc P b Q e' h' | x=>Q x e' h') e h
 | .cond c a b,Q,e,h=>match c.ev e with
  | .bool t=>if t=true then vc P a Q e h else vc P b Q e h
  | _=>False
 | .block id c,Q,e,h=>vc P c (fun x e' h'=>match x with | .exit id'=>if id'=id then Q .normal e' h' else Q (.exit id') e' h' | x=>Q x e' h') e h
 | .loop S c,Q,e,h=>∃I:Nat→List AV→AHeap→Prop,(∃n,I n (S.map e) h)∧
   ∀n vs h,I n vs h→vc P c (fun x e' h'=>match x with | .normal=>∃n',n'<n∧I n' (S.map e') h' | x=>Q x e' h') (Env.mk S vs) h
 | .exit id,Q,e,h=>Q (.exit id) e h
 | .ret,Q,e,h=>Q .ret e h
def insS (x:Nat):List Nat→List Nat
 | []=>[x]
 | y::r=>if x<y then x::y::r else if x=y then y::r else y::insS x r
def zBz (a b:List Nat):List Nat:=a.foldr insS b
def zH2 (l:List Operand):List Nat:=l.filterMap fun | .tmp t=>some t | _=>none
def zMf (ops:Array Oper) (o:Oper):List Nat:=
 zH2 o.op.operands.toList++(match o.guard with | some (k,_)=>((ops[k]?).bind (·.dst)).toList | none=>[])
def lvOps (ops:Array Oper):List Oper→List Nat→List Nat
 | [],out=>out
 | o::r,out=>
  let l:=lvOps ops r out
  let l:=match o.dst with | some d=>l.filter (· != d) | none=>l
  zBz (zMf ops o) l
def exitL (id:Nat):List (Nat×List Nat)→List Nat
 | []=>[]
 | (i,l)::r=>if i=id then l else exitL id r
def lv:Code→List Nat→List (Nat×List Nat)→List Nat→List Nat
 | .region _ ops _,out,_,_=>lvOps ops ops.toList out
 | .seq a b,out,ex,rt=>lv a (lv b out ex rt) ex rt
 | .cond c a b,out,ex,rt=>zBz (zH2 [c]) (zBz (lv a out ex rt) (lv b out ex rt))
 | .block id c,out,ex,rt=>lv c out ((id,out)::ex) rt
 | .loop c,_,ex,rt=>lv c [] ex rt
 | .exit id,_,ex,_=>exitL id ex
 | .ret,_,_,rt=>rt
 | .scope c,out,ex,rt=>lv c out ex rt
 | _,out,_,_=>out
def mkPt (ops:Array Oper):List (List Nat):=
 ops.toList.foldl (fun pt o=>pt++[(ZK o).foldl (fun l d=>zBz (insS d (pt.getD d [])) l) []]) []
def zMz (P:Program) (al:Bool) (o:Oper):Bool:=
 match o.op with
 | .alloc _=>true
 | .buildSlice _ _ _=>(cNew P al o).isSome
 | op=>(copQ P op).isSome
def zGL (pt:List (List Nat)) (qs:List Bool):Nat→List Nat→List Nat→List Nat
 | 0,_,done=>done
 | fuel+1,rem,done=>
  let ready:=rem.filter fun i=>(pt.getD i []).all fun x=>done.contains x
  match ready.find? (fun i=>qs.getD i false)with
  | some i=>zGL pt qs fuel (rem.filter (· != i)) (done++[i])
  | none=>match ready with
   | i::_=>zGL pt qs fuel (rem.filter (· != i)) (done++[i])
   | []=>done
def zF0 (P:Program) (nt:Nat) (ops:Array Oper) (al:Bool):Option (List DI×List (List AV)):=
 let pt:=mkPt ops
 let order:=zGL pt (ops.toList.map (zMz P al)) ops.size (List.range ops.size) []
 (cDIs P nt ops pt al order [] 0).bind fun x=>if dOk ops pt order x.1=true then some x else none
def cDraw (P:Program) (nt:Nat) (ops:Array Oper):Option (List DI×List (List AV)):=
 match zF0 P nt ops false with
 | some x=>some x
 | none=>zF0 P nt ops true
def cTree (P:Program) (nt:Nat) (ops:Array Oper):Option OT:=
 if (ops.toList.filter fun o=>(copQ P o.op).isNone).length≤6∧ptOk ops (mkPt ops)=true then mkT P nt ops (mkPt ops) ops.size (Array.replicate ops.size false) []else none
def deadI:II:=⟨none,.extract (.c (.bool false)) 0,true,none⟩
def zQa (o:Oper):Bool:=
 match o.op with
 | .panic _=>true
 | _=>false
def cC (P:Program) (nt:Nat):Code→List Nat→List (Nat×List Nat)→List Nat→Option (IC×List Nat)
 | .skip,out,_,_ | .label _,out,_,_=>some (.skip,out)
 | .region _ ops false,out,_,_=>if ops.toList.any zQa=true then some (.region [] [deadI],[])else(zFz P nt ops ops.toList).map fun its=>(.region out its,lvOps ops ops.toList out)
 | .region _ ops true,out,_,_=>match cDraw P nt ops with
  | some x=>some (.draw out x.2 x.1,lvOps ops ops.toList out)
  | none=>(cTree P nt ops).map fun t=>(.tree out t,lvOps ops ops.toList out)
 | .seq a b,out,ex,rt=>(cC P nt b out ex rt).bind fun y=>(cC P nt a y.2 ex rt).map fun x=>(.seq x.1 y.1,x.2)
 | .cond c a b,out,ex,rt=>(cx c).bind fun ic=>(cC P nt a out ex rt).bind fun x=>(cC P nt b out ex rt).map fun y=>(.cond ic x.1 y.1,zBz (zH2 [c]) (zBz x.2 y.2))
 | .block id c,out,ex,rt=>(cC P nt c out ((id,out)::ex) rt).map fun x=>(.block id x.1,x.2)
 | .loop c,_,ex,rt=>
  let X:=lv c [] ex rt
  (cC P nt c X ex rt).map fun x=>(.loop X x.1,X)
 | .exit id,_,ex,_=>some (.exit id,exitL id ex)
 | .ret,_,_,rt=>some (.ret,rt)
 | _,_,_,_=>none
variable {P:Program} {B:Nat} {w0 w:World} {j:Inj} {h h':AHeap} {nt nb:Nat} {e e':Env} {a:Act} {ops:Array Oper}
theorem Env.mk_map (e:Env):∀(S:List Nat) (t:Nat),Env.mk S (S.map e) t=e t∨Env.mk S (S.map e) t=.undef
 | [],t=>.inr rfl
 | s::S,t=>by
  simp only [List.map_cons,Env.mk]
  by_cases hs:t=s
  ·subst hs;rw [if_pos rfl];exact .inl rfl
  ·rw [if_neg hs];exact Env.mk_map e S t
theorem ER.trim (r:ER nt j e a) (S:List Nat):ER nt j (Env.mk S (S.map e)) a:=by
 refine⟨fun t=>?_,r.size,r.defers⟩
 rcases Env.mk_map e S t with x|x
 ·rw [x];exact r.vals t
 ·rw [x];trivial
theorem MR.pend (m:MR B w0 j h w) (ob:AObj):MR B w0 j (h.new ob) w:=by
 have hj:j h.next=none:=(m.fresh h.next (Nat.le_refl _)).2;refine⟨m.below,m.bnd,m.dr,fun o ho=>?_,fun o ob' l ho hl hmp=>?_,fun o ob' l ho hl hmp=>?_,fun o o' x x' l l' hne ho ho' hl hl' hr=>?_⟩
 ·simp only [AHeap.new]at ho ⊢
  rw [if_neg (by omega)]
  exact m.fresh o (by omega)
 ·have hne:o≠h.next:=fun y=>by rw [y,hj]at hl;cases hl
  simp only [AHeap.new,if_neg hne]at ho
  exact m.obj o ob' l ho hl hmp
 ·have hne:o≠h.next:=fun y=>by rw [y,hj]at hl;cases hl
  simp only [AHeap.new,if_neg hne]at ho
  exact m.maps o ob' l ho hl hmp
 ·have h1:o≠h.next:=fun y=>by rw [y,hj]at hl;cases hl
  have h2:o'≠h.next:=fun y=>by rw [y,hj]at hl';cases hl'
  simp only [AHeap.new,if_neg h1]at ho
  simp only [AHeap.new,if_neg h2]at ho'
  exact m.apart o o' x x' l l' hne ho ho' hl hl' hr
theorem zGg:∀(zs:List (List AV)) {h:AHeap},MR B w0 j h w→MR B w0 j (h.news zs) w∧(h.news zs).next=h.next+zs.length∧(∀o,o<h.next→(h.news zs).obj o=h.obj o)∧
  (∀k z,zs[k]? = some z→(h.news zs).obj (h.next+k)=some ⟨true,z⟩)∧∀k,k<zs.length→j (h.next+k)=none
 | [],h,m=>⟨m,rfl,fun _ _=>rfl,fun k z hz=>by simp at hz,fun k hk=>by simp at hk⟩
 | z::zs,h,m=>by
  obtain⟨h1,h2,h3,h4,h5⟩:=zGg zs (m.pend ⟨true,z⟩);refine⟨h1,?_,fun o ho=>?_,fun k u hu=>?_,fun k hk=>?_⟩
  ·show((h.new ⟨true,z⟩).news zs).next=_
   rw [h2];simp only [AHeap.new,List.length_cons];omega
  ·simp only [AHeap.news]
   rw [h3 o (by simp only [AHeap.new];omega)]
   simp only [AHeap.new];rw [if_neg (by omega)]
  ·simp only [AHeap.news]
   cases k with
   | zero=>
    simp at hu;subst hu
    rw [h3 _ (by simp [AHeap.new])]
    simp [AHeap.new]
   | succ k=>
    have:=h4 k u (by simpa using hu)
    simp only [AHeap.new]at this
    rw [←this]
    congr 1;omega
  ·exact(m.fresh _ (Nat.le_add_right _ _)).2
def Post (B:Nat) (w0:World) (nt:Nat) (j:Inj) (h:AHeap) (Q:Exit→Env→AHeap→Prop):Exit→Act→World→Prop:=fun x a' w'=>
 ∃j' h' e',FR j h j' h'∧MR B w0 j' h' w'∧ER nt j' e' a'∧Q x e' h'
theorem zEY (hmix:P.follows .mixedOrders=true) {id:Nat} {its:List DI} {zs:List (List AV)} {al:Bool} (hc:zF0 P nt ops al=some (its,zs)) (m:MR B w0 j h w) (r:ER nt j e a) {S:List Nat} {Q:Exit→Env→AHeap→Prop}
  (hk:DV P h.next its [] e (h.news zs) fun e' h'=>Q .normal (Env.mk S (S.map e')) h'):(Code.region id ops true).wp P (Post B w0 nt j h Q) a w:=by
 simp only [zF0,Option.bind_eq_some_iff]at hc
 obtain⟨⟨its',zs'⟩,hits,hc⟩:=hc
 split at hc
 ·rename_i hd
  cases hc;simp only [dOk,Bool.and_eq_true,beq_iff_eq,decide_eq_true_eq]at hd
  obtain⟨⟨⟨⟨⟨⟨hpt,hord⟩,hnd⟩,hlen⟩,hlt⟩,hp1⟩,hp2⟩:=hd;obtain⟨hfrom,hp3⟩:=zDd _ [] 0 hits [] rfl;obtain⟨m1,n1,n2,n3,n4⟩:=zGg zs m.drew;have hord':(its.map (·.idx)).length=ops.size:=by rw [hord];exact hlen
  refine wp_region_any hmix ?_;have hrem0:∀i,i<ops.size→((Array.replicate ops.size false).getD i true=false↔∃it∈its,it.idx=i):=by
   intro i hi;have h1:(Array.replicate ops.size false).getD i true=false:=by simp [Array.getD_eq_getD_getElem?,hi]
   refine⟨fun _=>?_,fun _=>h1⟩
   have hmem:i∈its.map (·.idx):=by
    rw [hord];rw [List.all_eq_true]at hlt
    exact List.contains_iff_mem.1 (hlt i (by simpa using hi))
   obtain⟨it,hit,he⟩:=List.mem_map.1 hmem;exact⟨it,hit,he⟩
  refine zIf (zs:=zs) (js:=j) (hs:=h) (nb:=h.next) (K:=fun e' h'=>Q .normal (Env.mk S (S.map e')) h') rfl hpt ?_ ops.size _ its (by simpa using hord') (by simp) hrem0 (zEn hp1) (zEn hp2) (by rw [hord];exact hnd) hp3 ?_
   (fun it hit=>by simpa using (hfrom it hit).1) ?_ m1 r hk ⟨by rw [n1];omega,fun _ _=>rfl,fun o ho _=>n2 o ho⟩
  ·intro j' h' e' a' w' hf hm hr hq
   exact⟨j',h',_,hf,hm,hr.trim S,hq⟩
  ·intro i hi hil
   rw [(show(Array.replicate ops.size false).getD i true=false from by simp [Array.getD_eq_getD_getElem?,hi])]at hil
   cases hil
  ·intro it hit k hk
   obtain⟨o,ho,hop⟩:=(hfrom it hit).1;rcases hop with ⟨_,hno⟩|⟨k',z',hrev,hz',_⟩
   ·rw [hno]at hk;cases hk
   ·rw [hk]at hrev
    cases hrev;simp only [List.nil_append]at hz'
    have hkl:k<zs.length:=(List.getElem?_eq_some_iff.1 hz').1;exact⟨by rw [n1];omega,n4 k hkl,z',hz',n3 k z' hz'⟩
 ·cases hc
theorem zLQ (hmix:P.follows .mixedOrders=true) {id:Nat} {its:List DI} {zs:List (List AV)} (hc:cDraw P nt ops=some (its,zs)) (m:MR B w0 j h w) (r:ER nt j e a) {S:List Nat} {Q:Exit→Env→AHeap→Prop}
  (hk:DV P h.next its [] e (h.news zs) fun e' h'=>Q .normal (Env.mk S (S.map e')) h'):(Code.region id ops true).wp P (Post B w0 nt j h Q) a w:=by
 unfold cDraw at hc
 split at hc
 ·rename_i x hx
  cases hc;exact zEY hmix hx m r hk
 ·exact zEY hmix hc m r hk
theorem TInv.start:TInv P nt ops (mkPt ops) (Array.replicate ops.size false) (Array.replicate ops.size false) [] []:=by
 have g:∀i,i<ops.size→(Array.replicate ops.size false).getD i true=false:=fun i hi=>by
  simp [Array.getD_eq_getD_getElem?,Array.getElem?_replicate,hi]
 exact⟨by simp,by simp,fun i hi=>by simp,fun q hq=>absurd hq (List.not_mem_nil),fun q hq=>absurd hq (List.not_mem_nil),fun q hq=>absurd hq (List.not_mem_nil),.nil,by simp,fun q hq=>absurd hq (List.not_mem_nil),
  fun i hi h=>(by rw [g i hi]at h;cases h),fun i hi h=>(by rw [g i hi]at h;cases h),.nil⟩
theorem Qu (hmix:P.follows .mixedOrders=true):∀(c:Code) (out:List Nat) (ex:List (Nat×List Nat)) (rt:List Nat) {ic:IC} {X:List Nat},cC P nt c out ex rt=some (ic,X)→
  ∀{B:Nat} {w0:World} {j:Inj} {h:AHeap} {w:World} {e:Env} {a:Act} {Q:Exit→Env→AHeap→Prop},MR B w0 j h w→ER nt j e a→vc P ic Q e h→c.wp P (Post B w0 nt j h Q) a w
 | .skip,out,ex,rt,ic,X,hc,B,w0,j,h,w,e,a,Q,m,r,hk=>by
  cases hc;exact wp_skip ⟨j,h,e,FR.refl _ _,m,r,hk⟩
 | .label l,out,ex,rt,ic,X,hc,B,w0,j,h,w,e,a,Q,m,r,hk=>by
  cases hc;exact wp_label ⟨j,h,e,FR.refl _ _,m,r,hk⟩
 | .region id ops false,out,ex,rt,ic,X,hc,B,w0,j,h,w,e,a,Q,m,r,hk=>by
  simp only [cC]at hc
  split at hc
  ·cases hc
   obtain⟨v,hv,_⟩:=hk;cases hv
  simp only [Option.map_eq_some_iff,Prod.mk.injEq]at hc
  obtain⟨its,hits,rfl,rfl⟩:=hc;refine wp_region ?_;rw [List.range_eq_range']
  have:=zFA (Q:=Post B w0 nt j h Q) ops.toList its 0 hits rfl m r hk ?_
  ·simpa using this
  ·intro j' h' e' a' w' hf hm hr hq
   exact⟨j',h',_,hf,hm,hr.trim out,hq⟩
 | .region id ops true,out,ex,rt,ic,X,hc,B,w0,j,h,w,e,a,Q,m,r,hk=>by
  simp only [cC]at hc
  split at hc
  ·rename_i x hx
   cases hc;exact zLQ hmix hx m r hk
  ·simp only [Option.map_eq_some_iff,Prod.mk.injEq]at hc
   obtain⟨t,ht,rfl,rfl⟩:=hc;unfold cTree at ht
   split at ht
   ·rename_i hpt
    refine wp_region_any hmix ?_;exact zPW (K:=fun e' h'=>Q .normal (Env.mk out (out.map e')) h') hpt.2 (fun j' h' e' a' w' hf hm hr hq=>⟨j',h',_,hf,hm,hr.trim out,hq⟩) _ ops.size _ _ [] [] rfl TInv.start ht m.drew r (FR.refl _ _) hk
   ·cases ht
 | .seq c d,out,ex,rt,ic,X,hc,B,w0,j,h,w,e,a,Q,m,r,hk=>by
  simp only [cC,Option.bind_eq_some_iff,Option.map_eq_some_iff,Prod.mk.injEq]at hc
  obtain⟨⟨id,Y⟩,hd,⟨ia,X'⟩,ha,rfl,rfl⟩:=hc;refine wp_seq (wp_mono (Qu hmix c _ ex rt ha m r hk) ?_)
  rintro x a' w' ⟨j',h',e',hf,hm,hr,hq⟩
  cases x with
  | normal=>
   refine wp_mono (Qu hmix d out ex rt hd hm hr hq) ?_
   rintro y a'' w'' ⟨j'',h'',e'',hf',hm',hr',hq'⟩
   exact⟨j'',h'',e'',hf.trans hf',hm',hr',hq'⟩
  | exit id=>exact⟨j',h',e',hf,hm,hr,hq⟩
  | goto l=>exact⟨j',h',e',hf,hm,hr,hq⟩
  | ret=>exact⟨j',h',e',hf,hm,hr,hq⟩
  | panic ch=>exact⟨j',h',e',hf,hm,hr,hq⟩
  | outgrown=>exact⟨j',h',e',hf,hm,hr,hq⟩
 | .cond c x y,out,ex,rt,ic,X,hc,B,w0,j,h,w,e,a,Q,m,r,hk=>by
  simp only [cC,Option.bind_eq_some_iff,Option.map_eq_some_iff,Prod.mk.injEq]at hc
  obtain⟨ix,hx,⟨ia,Xa⟩,ha,⟨ib,Xb⟩,hb,rfl,rfl⟩:=hc;simp only [vc]at hk
  have hv:=zI r hx
  split at hk
  ·rename_i t ht
   rw [ht]at hv
   refine wp_cond (t:=t) hv ?_;cases t with
   | true=>rw [if_pos rfl]at hk ⊢;exact Qu hmix x out ex rt ha m r hk
   | false=>rw [if_neg (by simp)]at hk ⊢;exact Qu hmix y out ex rt hb m r hk
  ·exact hk.elim
 | .block id c,out,ex,rt,ic,X,hc,B,w0,j,h,w,e,a,Q,m,r,hk=>by
  simp only [cC,Option.map_eq_some_iff,Prod.mk.injEq]at hc
  obtain⟨⟨ia,Xa⟩,ha,rfl,rfl⟩:=hc;refine wp_block (wp_mono (Qu hmix c out _ rt ha m r hk) ?_)
  rintro x a' w' ⟨j',h',e',hf,hm,hr,hq⟩
  cases x with
  | exit id'=>
   simp only [Exit.inBlock];simp only at hq
   split
   ·rename_i he;rw [if_pos he]at hq;exact⟨j',h',e',hf,hm,hr,hq⟩
   ·rename_i he;rw [if_neg he]at hq;exact⟨j',h',e',hf,hm,hr,hq⟩
  | normal=>exact⟨j',h',e',hf,hm,hr,hq⟩
  | goto l=>exact⟨j',h',e',hf,hm,hr,hq⟩
  | ret=>exact⟨j',h',e',hf,hm,hr,hq⟩
  | panic ch=>exact⟨j',h',e',hf,hm,hr,hq⟩
  | outgrown=>exact⟨j',h',e',hf,hm,hr,hq⟩
 | .loop c,out,ex,rt,ic,X,hc,B,w0,j,h,w,e,a,Q,m,r,hk=>by
  simp only [cC,Option.map_eq_some_iff,Prod.mk.injEq]at hc
  obtain⟨⟨ia,Xa⟩,ha,rfl,rfl⟩:=hc;obtain⟨I,⟨n,h0⟩,hround⟩:=hk;refine wp_loop_ghost (fun n a' w'=>∃j' h' e' vs,FR j h j' h'∧MR B w0 j' h' w'∧ER nt j' (Env.mk (lv c [] ex rt) vs) a'∧I n vs h') n ⟨j,h,e,_,FR.refl _ _,m,r.trim _,h0⟩ ?_
  rintro n a' w' ⟨j',h',e',vs,hf,hm,hr,hI⟩
  refine wp_mono (Qu hmix c _ ex rt ha hm hr (hround n vs h' hI)) ?_
  rintro x a'' w'' ⟨j'',h'',e'',hf',hm',hr',hq⟩
  cases x with
  | normal=>
   obtain⟨n',hlt,hI'⟩:=hq;exact⟨n',hlt,j'',h'',e'',_,hf.trans hf',hm',hr'.trim _,hI'⟩
  | exit id=>exact⟨j'',h'',e'',hf.trans hf',hm',hr',hq⟩
  | goto l=>exact⟨j'',h'',e'',hf.trans hf',hm',hr',hq⟩
  | ret=>exact⟨j'',h'',e'',hf.trans hf',hm',hr',hq⟩
  | panic ch=>exact⟨j'',h'',e'',hf.trans hf',hm',hr',hq⟩
  | outgrown=>exact⟨j'',h'',e'',hf.trans hf',hm',hr',hq⟩
 | .exit id,out,ex,rt,ic,X,hc,B,w0,j,h,w,e,a,Q,m,r,hk=>by
  cases hc;exact wp_exit ⟨j,h,e,FR.refl _ _,m,r,hk⟩
 | .ret,out,ex,rt,ic,X,hc,B,w0,j,h,w,e,a,Q,m,r,hk=>by
  cases hc;exact wp_ret ⟨j,h,e,FR.refl _ _,m,r,hk⟩
 | .rangeFunc ..,_,_,_,_,_,hc,_,_,_,_,_,_,_,_,_,_,_=>by cases hc
 | .scope ..,_,_,_,_,_,hc,_,_,_,_,_,_,_,_,_,_,_=>by cases hc
 | .goto ..,_,_,_,_,_,hc,_,_,_,_,_,_,_,_,_,_,_=>by cases hc
 | .refuse ..,_,_,_,_,_,hc,_,_,_,_,_,_,_,_,_,_,_=>by cases hc
inductive IRes where
 | tmp (t:Nat)
 | cell (t:Nat) (agg:Bool) (n:Nat)
def IRes.slot:IRes→Nat
 | .tmp t=>t
 | .cell t _ _=>t
structure IFn where
 params:List Nat
 res:List IRes
 body:IC
def rvals:List IRes→Env→AHeap→Option (List AV)
 | [],_,_=>some []
 | .tmp t::r,e,h=>(rvals r e h).map fun vs=>e t::vs
 | .cell t agg n::r,e,h=>(ldv agg n (e t) h).bind fun v=>(rvals r e h).map fun vs=>v::vs
def packR:List AV→AV
 | [v]=>v
 | vs=>.tup vs
def retQ (res:List IRes) (Q:AV→AHeap→Prop):Exit→Env→AHeap→Prop
 | .normal,e,h=>optK (rvals res e h) fun vs=>Q (packR vs) h
 | .ret,e,h=>optK (rvals res e h) fun vs=>Q (packR vs) h
 | _,_,_=>False
def cRes (P:Program):List ResultVar→Option (List IRes)
 | []=>some []
 | .tmp t::r=>(cRes P r).map (.tmp t::·)
 | .cell t ty::r=>match P.underlying ty,P.info? ty with
  | some d,some i=>(cRes P r).map (.cell t (zAi d) i.size::·)
  | _,_=>none
def cF (P:Program) (fn:Func):Option IFn:=
 fn.body.bind fun c=>(cRes P fn.results.toList).bind fun res=>(cC P fn.ntmps c (res.foldr (fun r l=>insS r.slot l) []) [] (res.foldr (fun r l=>insS r.slot l) [])).bind fun x=>
  if fn.params.size+fn.nfree≤fn.ntmps then some ⟨List.range (fn.params.size+fn.nfree),res,x.1⟩else none
def rvS (a:Act):ResultVar→Sem Value
 | .tmp t=>pure (a.tmps.getD t undef)
 | .cell x t=>do loadVar t (←asAddr (a.tmps.getD x undef))
theorem zAr (m:MR B w0 j h w) (r:ER nt j e a):∀{rs:List ResultVar} {res:List IRes} {vs:List AV},cRes P rs=some res→rvals res e h=some vs→
  ∃cs:List Value,(rs.mapM (rvS a)).run P w=.ok cs w∧VIs j vs cs
 | [],res,vs,hc,hv=>by
  cases hc;cases hv;exact⟨[],by simp,rfl⟩
 | .tmp t::rs,res,vs,hc,hv=>by
  simp only [cRes,Option.map_eq_some_iff]at hc
  obtain⟨res',hr,rfl⟩:=hc;simp only [rvals,Option.map_eq_some_iff]at hv
  obtain⟨vs',hv,rfl⟩:=hv;obtain⟨cs,h1,h2⟩:=zAr m r hr hv;refine⟨a.tmps.getD t undef::cs,?_,⟨_,_,rfl,r.vals t,h2⟩⟩;simp only [List.mapM_cons,rvS,Sem.run_bind,Sem.run_pure,Result.andThen_ok];rw [h1]
  rfl
 | .cell x t::rs,res,vs,hc,hv=>by
  simp only [cRes]at hc
  split at hc
  ·rename_i d i hd hi
   simp only [Option.map_eq_some_iff]at hc
   obtain⟨res',hr,rfl⟩:=hc;simp only [rvals,Option.bind_eq_some_iff,Option.map_eq_some_iff]at hv
   obtain⟨v,hl,vs',hv,rfl⟩:=hv;obtain⟨cs,h1,h2⟩:=zAr m r hr hv;unfold ldv at hl
   split at hl
   ·rename_i o k hp
    have hx:=r.vals x;rw [hp]at hx
    obtain⟨cv,h3,h4⟩:=zFg (P:=P) m hd hi hx hl;obtain⟨l,hjl,hx,_⟩:=hx;refine⟨cv::cs,?_,⟨_,_,rfl,h4,h2⟩⟩;rw [hx]at h3
    simp only [Instr.loadAt,Instr.sureAddr,Sem.run_bind,Sem.run_pure,Result.andThen_ok]at h3
    simp only [List.mapM_cons,rvS,Sem.run_bind,hx,asAddr,Sem.run_pure,Result.andThen_ok,h3];rw [h1]
    rfl
   ·cases hl
  ·cases hc
theorem ZV (hmix:P.follows .mixedOrders=true) {f:FuncId} {fn:Func} {ifn:IFn} (hf:P.funcs[f]? = some fn) (hc:cF P fn=some ifn) {args:List AV} {h:AHeap} {K:AV→AHeap→Prop} (hl:args.length=ifn.params.length)
  (hk:vc P ifn.body (retQ ifn.res K) (Env.mk ifn.params args) h):qj P f args h K:=by
 simp only [cF,Option.bind_eq_some_iff]at hc
 obtain⟨c,hb,res,hres,⟨ic,X⟩,hcc,hc⟩:=hc
 split at hc
 ·rename_i hle
  cases hc;intro B w0 j w cargs m hargs;have hal:=hargs.length;simp only [List.length_range]at hl
  refine calls_of_wp hf hb (wp_mono (Qu hmix c _ _ _ hcc m (e:=Env.mk (List.range (fn.params.size+fn.nfree)) args) (a:=⟨cargs.toArray++Array.replicate (fn.ntmps-cargs.toArray.size) undef,[]⟩) ⟨fun t=>?_,?_,rfl⟩ hk) ?_)
  ·-- the arguments
   have key:∀(n s:Nat) (as:List AV) (t:Nat),as.length=n→(Env.mk (List.range' s n) as t=.undef∧(t<s∨s+n≤t))∨(s≤t∧as[t-s]? = some (Env.mk (List.range' s n) as t)):=by
    intro n
    induction n with
    | zero=>intro s as t hl;refine .inl ⟨?_,by omega⟩;cases as with | nil=>rfl | cons _ _=>simp at hl
    | succ n ih=>
     intro s as t hl;cases as with
     | nil=>simp at hl
     | cons v as=>
      rw [List.range'_succ];simp only [Env.mk]
      by_cases ht:t=s
      ·subst ht;right;simp
      ·rw [if_neg ht]
       rcases ih (s+1) as t (by simpa using hl)with ⟨h1,h2⟩|⟨h1,h2⟩
       ·exact .inl ⟨h1,by omega⟩
       ·refine .inr ⟨by omega,?_⟩
        rw [←h2]
        have:t-s=(t-(s+1))+1:=by omega
        rw [this,List.getElem?_cons_succ]
   rw [List.range_eq_range'];rcases key _ 0 args t hl with ⟨h1,_⟩|⟨_,h2⟩
   ·rw [h1];trivial
   ·rw [Nat.sub_zero]at h2
    obtain⟨cv,h3,h4⟩:=hargs.get h2
    have:(cargs.toArray++Array.replicate (fn.ntmps-cargs.toArray.size) undef).getD t undef=cv:=by
     have hlt:=(List.getElem?_eq_some_iff.1 h3).1;have h5:=(List.getElem?_eq_some_iff.1 h3).2;simp [Array.getD_eq_getD_getElem?,Array.getElem?_append_left,hlt,h5]
    rw [this];exact h4
  ·simp;omega
  ·rintro x a' w' ⟨j',h',e',hf',hm,hr,hq⟩
   have fin:(∃vs,rvals res e' h'=some vs∧K (packR vs) h')→a'.defers=[]∧∃v,(results fn a'.tmps).run P w'=.ok v w'∧
     ∃v' h'' j'' cv,Ending.returned v=.returned cv∧FR j h j'' h''∧MR B w0 j'' h'' w'∧VI j'' v' cv∧K v' h'':=by
    rintro ⟨vs,hv,hq⟩
    obtain⟨cs,h1,h2⟩:=zAr hm hr hres hv;have hl:=h2.length;refine⟨hr.defers,(if h:cs.toArray.size=1 then cs.toArray[0]else .tuple cs.toArray),?_,packR vs,h',j',_,rfl,hf',hm,?_,hq⟩
    ·show(do let vs←fn.results.mapM (rvS a');pure (if h:vs.size=1 then vs[0]else Value.tuple vs):Sem Value).run P w'=_
     rw [Sem.run_bind,Array.mapM_eq_mapM_toList];simp only [Sem.run_map,h1,Result.andThen_ok,Sem.run_pure]
    ·cases vs with
     | nil=>
      have:cs=[]:=List.eq_nil_of_length_eq_zero (by simpa using hl.symm)
      subst this;exact⟨[],rfl,by simp⟩
     | cons v vs=>
      obtain⟨c1,cr,rfl,g1,g2⟩:=h2;cases vs with
      | nil=>
       rw [show cr=[] from g2]
       simpa [packR]using g1
      | cons u us=>
       obtain⟨c2,cr2,rfl,g3,g4⟩:=g2;simp only [packR];rw [dif_neg (by simp)]
       exact⟨_,⟨_,_,rfl,g1,_,_,rfl,g3,g4⟩,rfl⟩
   cases x with
   | normal=>exact fin hq
   | ret=>exact fin hq
   | exit id=>exact hq.elim
   | goto l=>exact hq.elim
   | panic ch=>exact hq.elim
   | outgrown=>exact hq.elim
 ·cases hc
end Go.Ab
