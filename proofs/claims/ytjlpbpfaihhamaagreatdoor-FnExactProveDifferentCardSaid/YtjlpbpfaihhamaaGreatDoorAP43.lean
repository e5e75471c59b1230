/- What the law of groups calls besides: the order, products, inverses, drawn vectors, the certificate's check. -/
import Derived.Test.YtjlpbpfaihhamaaGreatDoorAP42
import Derived.Test.YtjlpbpfaihhamaaGreatDoorAP40
import Derived.Test.YtjlpbpfaihhamaaGreatDoorAP34
import Derived.Test.YtjlpbpfaihhamaaGreatDoorAAbPa
import Derived.Test.YtjlpbpfaihhamaaGreatDoorAP37
import Derived.Test.YtjlpbpfaihhamaaGreatDoorAP30
import Derived.Test.YtjlpbpfaihhamaaGreatDoorAP31
import Derived.Test.YtjlpbpfaihhamaaGreatDoorAAbPz
import Derived.Test.YtjlpbpfaihhamaaGreatDoorAAbPn
import Derived.WalkSmall
import Derived.WalkKit
import Derived.BigCall
import Derived.LoopTactic
import Derived.Outline
import Derived.IntWalk
import Derived.Lib.Hide
import Derived.Lib.ConvBytes
import Derived.Maps.AppendAt
open Int renaming reduceNatCast'→iQ0
set_option maxRecDepth 100000
namespace Go.Grp
end Go.Grp
set_option linter.unusedSimpArgs false
set_option linter.unusedVariables false
set_option linter.unusedSectionVars false
namespace Go.Proofs
open Go.Ab Go.Lie Go.Grp
variable {σ σ0 h h':PHeap} {K:PV→PHeap→Prop} {b k nP nC r s0 i j n:Nat} {v vO vP vC c vX vS vL vM:PV} {x O xs bs:List Int} {P M:List (List Int)} {C:List (List (List Int))} {cs:List PV} {s t:List UInt8}
def foldR (O:List Int):List (List Int)×List (List (List Int))→List (List UInt8)→Option (List (List Int)×List (List (List Int)))
 | pc,[]=>some pc
 | pc,s::r=>match relF O pc.1 pc.2 s with | none=>none | some pc'=>foldR O pc' r
def lpsL (O:Option (List Int)) (r:List (List UInt8)):Option (List Int×List (List Int)×List (List (List Int))):=
 match O with
 | none=>none
 | some O=>match foldR O (trP O.length O.length,trC O.length O.length) r with | none=>none | some pc=>some (O,pc.1,pc.2)
def lpsF (s:List UInt8):Option (List Int×List (List Int)×List (List (List Int))):=lpsL (orF ((spF 59 [] s).getD 0 [])) ((spF 59 [] s).drop 1)
theorem zIX:∀(w acc:List Int) {ys:List Int},vcF acc w=some ys→ys.length=acc.length
 | [],acc,ys,e=>by rw [vcF]at e;rw [←Option.some.inj e]
 | x::r,acc,ys,e=>by
  rw [vcF]at e
  split at e
  ·cases e
  ·rw [zIX r _ e,List.length_set]
abbrev Sq (O:List Int) (P:List (List Int)) (C:List (List (List Int))):Prop:=PQ3 (fun m=>m=O.length) P C O.length O.length (fun i=>O.length-1-i)
theorem sq_P {v:List Int} (q:Sq O P C) (hv:v.length=O.length) (i:Nat):Sq O (P.set i v) C:=
 ⟨by rw [List.length_set];exact q.pl,q.cl,fun r hr=>by rcases List.mem_or_eq_of_mem_set hr with h | rfl;exact q.pq r h;exact hv,q.row,q.cq⟩
theorem sq_C {v:List Int} (q:Sq O P C) (hv:v.length=O.length) (i j:Nat):Sq O P (C.set i ((C.getD i []).set j v)):=by
 refine⟨q.pl,by rw [List.length_set];exact q.cl,q.pq,fun k hk=>?_,fun c hc r hr=>?_⟩
 ·rw [List.getD_eq_getElem?_getD,List.getElem?_set]
  by_cases e:i=k
  ·subst e
   rw [if_pos rfl,if_pos (by rw [q.cl];exact hk)]
   show((C.getD i []).set j v).length=_
   rw [List.length_set];exact q.row i hk
  ·rw [if_neg e,←List.getD_eq_getElem?_getD];exact q.row k hk
 ·rcases List.mem_or_eq_of_mem_set hc with h | rfl
  ·exact q.cq c h r hr
  ·rcases List.mem_or_eq_of_mem_set hr with h | rfl
   ·rcases Nat.lt_or_ge i C.length with hi | hi
    ·rw [List.getD_eq_getElem?_getD,List.getElem?_eq_getElem hi]at h
     exact q.cq _ (List.getElem_mem hi) r h
    ·rw [List.getD_eq_getElem?_getD,List.getElem?_eq_none hi]at h;cases h
   ·exact hv
theorem zNv {pc:List (List Int)×List (List (List Int))} (q:Sq O P C) (e:relF O P C s=some pc):Sq O pc.1 pc.2:=by
 unfold relF relG relH relI at e
 split at e
 ·split at e
  ·split at e
   ·cases e
   ·split at e
    ·cases e
    ·next v hv=>
     have hl:=zIX _ _ hv;rw [List.length_replicate]at hl
     unfold relJ at e
     split at e
     ·cases e
     ·split at e
      ·rw [←Option.some.inj e];exact sq_P q hl _
      ·split at e
       ·cases e
       ·rw [←Option.some.inj e];exact sq_C q hl _ _
  ·cases e
 ·cases e
theorem tr_sq (O:List Int):Sq O (trP O.length O.length) (trC O.length O.length):=by
 refine⟨zE0 _ _,Qv _ _,fun r hr=>by rw [(List.mem_replicate.1 hr).2];simp,fun i hi=>?_,fun q hq r hr=>?_⟩
 ·rw [List.getD_eq_getElem?_getD,trC,List.getElem?_map,List.getElem?_range hi];exact zE1 _ _ _
 ·obtain⟨i,_,rfl⟩:=List.mem_map.1 hq
  obtain⟨k,_,rfl⟩:=List.mem_map.1 hr;exact ZV _ _
theorem zCA (hs:s.length≤1048576) (hk0:(∀O P C,lpsF s=some (O,P,C)→qE O P C→prT O P C≠s)→K (.tup [.agg [.fz true .nils 0 [],.fz true .nils 0 [],.fz true .nils 0 []],.int .i64 6]) σ)
  (hk1:∀wO wP wC O P C,lpsF s=some (O,P,C)→qE O P C→prT O P C=s→IsPr wO wP wC O P C→K (.tup [.agg [wO,wP,wC],.int .i64 0]) σ):zA Tryz.prog 21 [.str s] σ K:=by
 have nil:(∀O P C,lpsF s=some (O,P,C)→qE O P C→prT O P C≠s)→∀{h:PHeap},Keep σ h→Gh σ K (.tup [.agg [.fz true .nils 0 [],.fz true .nils 0 [],.fz true .nils 0 []],.int .i64 6]) h:=fun e {h} kk=>Gh.fin0 kk ⟨⟨trivial,trivial,trivial,trivial⟩,trivial,trivial⟩ (hk0 e)
 refine zA.gh ?_;refine zD mix Tryz.func21 ?_;simp only [pwA,seval,-iQ0];have eS:lpsF s=lpsL (orF ((spF 59 [] s).getD 0 [])) ((spF 59 [] s).drop 1):=rfl;refine zBv (c:=59) (s:=s) (by omega) fun a=>?_
 have sl:=zCv 59 s [];have hll:=zCH 59 s [];generalize spF 59 [] s=l at *
 have c0:(pst l)[0]? = some (.str l[0]):=Zt (by omega)
 have z0:(0:Int)<(l.length:Int):=by omega
 have z0':0<l.length:=by omega
 have hq0:l[0].length≤1048576:=by have:=hll _ (List.getElem_mem z0');simp only [List.length_nil]at this;omega
 rw [show l.getD 0 []=l[0] by rw [List.getD_eq_getElem?_getD,List.getElem?_eq_getElem z0'];rfl]at eS
 simp only [pwA,seval,-iQ0,z0,z0',c0];refine zIB hq0 (fun eO vX x hX=>?_) fun vX O eO hX hO6 hOp=>?_
 ·have hX1:=hX.one
  rw [eO,lpsL]at eS
  simp only [pwA,seval,-iQ0,hX1];exact nil (fun _ _ _ e=>by rw [eS]at e;cases e) (zB _ _)
 have hX1:=hX.one;rw [eO]at eS
 simp only [pwA,seval,-iQ0,hX1];refine zFs hX (by omega) fun wO wP wC hR=>?_
 have hq:=tr_sq O;have eF:∀pc,foldR O (trP O.length O.length,trC O.length O.length) (l.drop 1)=pc→lpsF s=match pc with | none=>none | some pc=>some (O,pc.1,pc.2):=fun pc e=>by rw [eS,lpsL,e]
 clear eS;have o1:=hR.O.one;have o2:=hR.P.one;have o3:=hR.C.one;simp only [pwA,seval,-iQ0,o1,o2,o3];have nil3:∀{h:PHeap},Keep σ h→σ.next<h.next→h.obj σ.next=some [PV.fz true AV.nils 0 [],PV.fz true AV.nils 0 [],PV.fz true AV.nils 0 []]→
   h.wr σ.next 0 [.fz true .nils 0 [],.fz true .nils 0 [],.fz true .nils 0 []]=some (h.set σ.next [.fz true .nils 0 [],.fz true .nils 0 [],.fz true .nils 0 []])∧(h.set σ.next [.fz true .nils 0 [],.fz true .nils 0 [],.fz true .nils 0 []]).rd σ.next 0 3=some [.fz true .nils 0 [],.fz true .nils 0 [],.fz true .nils 0 []]∧((∀O P C,lpsF s=some (O,P,C)→qE O P C→prT O P C≠s)→Gh σ K (.tup [.agg [.fz true .nils 0 [],.fz true .nils 0 [],.fz true .nils 0 []],.int .i64 6]) (h.set σ.next [.fz true .nils 0 [],.fz true .nils 0 [],.fz true .nils 0 []])):=fun {h} kh hl ho=>
  ⟨by rw [qf ho,if_pos ⟨by simp,rfl⟩];rfl,by rw [Zu,if_pos rfl];rfl,fun e=>nil e (kh.set (Nat.le_refl _) _)⟩
 refine zC (fun m vs h=>∃(i:Nat) (wO wP wC:PV) (P:List (List Int)) (C:List (List (List Int))),1≤i∧i≤l.length∧m=l.length-i∧vs=[.str s,.ptr σ.next 0,.fz true a l.length (pst l),.ptr (σ.next+1) 0,.int .i64 i]∧IsPr wO wP wC O P C∧PQ3 (fun m=>m=O.length) P C O.length O.length (fun j=>O.length-1-j)∧
  Keep σ h∧σ.next+1<h.next∧h.obj σ.next=some [PV.fz true AV.nils 0 [],PV.fz true AV.nils 0 [],PV.fz true AV.nils 0 []]∧h.obj (σ.next+1)=some [wO,wP,wC]∧foldR O (P,C) (l.drop i)=foldR O (trP O.length O.length,trC O.length O.length) (l.drop 1)) (l.length-1) ?_ ?_
 ·exact⟨1,wO,wP,wC,_,_,Nat.le_refl _,sl.1,rfl,rfl,hR,hq,(zB _ _).new _,by show _<σ.next+2;omega,by simp only [pwA,seval,-iQ0],by simp only [pwA,seval,-iQ0],rfl⟩
 clear hR hq o1 o2 o3
 rintro m vs h ⟨i,wO,wP,wC,P,C,hi1,hi,rfl,rfl,hR,hq,kk,hl,ob0,ob1,eL⟩
 have o1:=hR.O.one;have o2:=hR.P.one;have o3:=hR.C.one;have r3:h.rd (σ.next+1) 0 3=some [wO,wP,wC]:=by rw [ZE ob1];rfl
 have fm:Fm 6 O P C:=⟨hO6,fun a ha=>(hOp a ha).b1,hq⟩
 simp only [pwA,seval,-iQ0];refine iteI (fun hlt=>?_) fun hge=>?_
 ·have hlt':(i:Int)<(l.length:Int):=by omega
  have ci:(pst l)[i]? = some (.str l[i]):=Zt hlt;have wi:=wrapS hlt (by omega:l.length≤4611686018427387904)
  have hqi:l[i].length≤1048576:=by have:=hll _ (List.getElem_mem hlt);simp only [List.length_nil]at this;omega
  rw [drop_at hlt,foldR]at eL
  simp only [pwA,seval,-iQ0,r3,hlt,hlt',ci];refine zFt hR hO6 hOp hq hqi (fun eR=>?_) fun uO uP uC P' C' eR hR'=>?_
  ·have w:h.wr (σ.next+1) 0 [wO,wP,wC]=some (h.set (σ.next+1) [wO,wP,wC]):=by rw [qf ob1,if_pos ⟨by simp,by simp [o1,o2,o3]⟩];rfl
   have kk':Keep σ (h.set (σ.next+1) [wO,wP,wC]):=kk.set (by omega) _
   have hl':σ.next+1<(h.set (σ.next+1) [wO,wP,wC]).next:=hl;have ob0':(h.set (σ.next+1) [wO,wP,wC]).obj σ.next=some [PV.fz true AV.nils 0 [],PV.fz true AV.nils 0 [],PV.fz true AV.nils 0 []]:=by rw [qX,if_neg (by omega)];exact ob0
   obtain⟨f1,f2,f3⟩:=nil3 kk' (by omega) ob0'
   rw [eR]at eL
   have eF':=eF none eL.symm;generalize h.set (σ.next+1) [wO,wP,wC]=g at *
   simp only [pwA,seval,-iQ0,o1,o2,o3,w,f1,f2];exact f3 fun _ _ _ e=>by rw [eF']at e;cases e
  have hq':=zNv hq eR;rw [eR]at eL
  have g1:=hR'.O.one;have g2:=hR'.P.one;have g3:=hR'.C.one;have w:h.wr (σ.next+1) 0 [uO,uP,uC]=some (h.set (σ.next+1) [uO,uP,uC]):=by rw [qf ob1,if_pos ⟨by simp,by simp [g1,g2,g3]⟩];rfl
  have kk':Keep σ (h.set (σ.next+1) [uO,uP,uC]):=kk.set (by omega) _
  have hl':σ.next+1<(h.set (σ.next+1) [uO,uP,uC]).next:=hl;have ob0':(h.set (σ.next+1) [uO,uP,uC]).obj σ.next=some [PV.fz true AV.nils 0 [],PV.fz true AV.nils 0 [],PV.fz true AV.nils 0 []]:=by rw [qX,if_neg (by omega)];exact ob0
  have ob1':(h.set (σ.next+1) [uO,uP,uC]).obj (σ.next+1)=some [uO,uP,uC]:=by rw [qX,if_pos rfl]
  generalize h.set (σ.next+1) [uO,uP,uC]=g at *
  simp only [pwA,seval,-iQ0,g1,g2,g3,w,wi];exact⟨_,by omega,i+1,uO,uP,uC,P',C',by omega,by omega,rfl,rfl,hR',hq',kk',hl',ob0',ob1',eL⟩
 have eF':lpsF s=some (O,P,C):=eF (some (P,C)) (by rw [←eL,List.drop_of_length_le (by omega),foldR])
 have un:∀{O' P' C'},lpsF s=some (O',P',C')→O'=O∧P'=P∧C'=C:=fun {O' P' C'} e=>by rw [eF']at e;cases e;exact⟨rfl,rfl,rfl⟩
 simp only [pwA,seval,-iQ0,r3];refine Qj hR (fm.sz (by decide)) fun t ht=>?_
 obtain⟨f1,f2,f3⟩:=nil3 kk (by omega) ob0
 cases t
 ·simp only [pwA,seval,-iQ0,f1,f2]
  exact f3 fun O' P' C' e hp=>by obtain⟨rfl,rfl,rfl⟩:=un e;exact absurd (ht.2 hp) (by decide)
 simp only [pwA,seval,-iQ0,r3];refine zLC hR (ht.1 rfl) fun q eq _=>?_
 cases hqs:q == s
 ·have hne:¬q=s:=fun e=>by rw [e]at hqs;simp at hqs
  simp only [pwA,seval,-iQ0,hqs,f1,f2];exact f3 fun O' P' C' e hp=>by obtain⟨rfl,rfl,rfl⟩:=un e;rw [←eq];exact hne
 have w:h.wr σ.next 0 [wO,wP,wC]=some (h.set σ.next [wO,wP,wC]):=by rw [qf ob0,if_pos ⟨by simp,by simp [o1,o2,o3]⟩];rfl
 have r:(h.set σ.next [wO,wP,wC]).rd σ.next 0 3=some [wO,wP,wC]:=by rw [Zu,if_pos rfl];rfl
 simp only [pwA,seval,-iQ0,hqs,r3,w,r,o1,o2,o3];exact Gh.fin0 (kk.set (Nat.le_refl _) _) ⟨⟨hR.O.bel _,hR.P.bel _,hR.C.bel _,trivial⟩,trivial,trivial⟩ (hk1 wO wP wC O P C eF' (ht.1 rfl) (by rw [←eq];exact beq_iff_eq.1 hqs) hR)
end Go.Proofs
namespace Go.Grp
end Go.Grp
namespace Go.Ab
open Go.RowKit
variable {P:Program} {σ:PHeap} {K:PV→PHeap→Prop}
theorem zA.quietV {f:FuncId} {args:List PV} {v:PV} (hv:∀Z h n,VOK Z h n v)
  (H:∀(ι:Nat→Nat) (Z:Nat→Prop) (h:AHeap),Rel ι Z σ h→VOKs Z h σ.next args→∀(B:Nat) (w0:World) (j:Inj) (w:World) (cargs:List Value),MR B w0 j h w→VIs j (ers ι args) cargs→
   Calls P f cargs.toArray w fun e w'=>(∃cv,e=.returned cv∧VI j (er ι v) cv)∧Below w.heap.size w w') (hk:K v σ):zA P f args σ K:=
 fun ι Z h r va B w0 j w cargs m vi=>(H ι Z h r va B w0 j w cargs m vi).mono fun e w' ⟨⟨cv,he,hc⟩,hb⟩=>
  ⟨er ι v,h,j,cv,he,FR.refl _ _,m.quiet hb,hc,v,σ,ι,Z,r,⟨Nat.le_refl _,Nat.le_refl _,fun _ _=>rfl,fun o ho=>⟨ho,rfl⟩,fun _ _ x=>x,fun s cs hs ho=>by rw [r.wf s hs]at ho;cases ho⟩,hv _ _ _,rfl,hk⟩
theorem zGB {Z:Nat→Prop} {h:AHeap} {n:Nat}:∀l:List (List UInt8),VOKs Z h n (l.map PV.str)
 | []=>trivial
 | _::l=>⟨trivial,zGB l⟩
theorem zDk (ι:Nat→Nat):∀l:List (List UInt8),ers ι (l.map PV.str)=l.map AV.str
 | []=>rfl
 | q::l=>by simp only [List.map_cons,ers,er,zDk ι l]
theorem zGC (j:Inj):∀l:List (List UInt8),VIs j (l.map AV.str) (l.map fun q=>Value.string ⟨q.toArray⟩)
 | []=>rfl
 | q::l=>⟨_,_,rfl,rfl,zGC j l⟩
theorem zA.quietN {f:FuncId} {args:List PV} {l:List (List UInt8)} {ty:TypeId}
  (H:∀(ι:Nat→Nat) (Z:Nat→Prop) (h:AHeap),Rel ι Z σ h→VOKs Z h σ.next args→∀(B:Nat) (w0:World) (j:Inj) (w:World) (cargs:List Value),MR B w0 j h w→VIs j (ers ι args) cargs→
   Calls P f cargs.toArray w fun e w'=>∃w1,Below w.heap.size w w1∧e=.returned (.slice (some ⟨w1.heap.size,0,none⟩) l.length l.length)∧w'=w1.alloc (.cells (l.map fun q=>Value.string ⟨q.toArray⟩).toArray ty))
  (hk:K (.sl σ.next 0 l.length (.known l.length)) (σ.new (l.map PV.str))):zA P f args σ K:=by
 intro ι Z h r va B w0 j w cargs m vi;refine(H ι Z h r va B w0 j w cargs m vi).mono ?_
 rintro e w' ⟨w1,hb,rfl,rfl⟩
 obtain⟨r2,a2⟩:=r.new (cs:=l.map PV.str) (zGB l);obtain⟨m2,f2⟩:=(m.quiet hb).new (cells:=ers ι (l.map PV.str)) (cur:=(l.map fun q=>Value.string ⟨q.toArray⟩).toArray) (ty:=ty) (room:=l.length) (by rw [zDk];simp [List.all_map];intro q _;rfl) (by
  rw [zDk,List.length_map,List.take_of_length_le (by simp)]
  exact zGC j l) (by simp)
 exact⟨.sl h.next 0 l.length (.known l.length),_,_,_,rfl,f2,m2,⟨⟨w1.heap.size,0,l.length⟩,_,by simp [Inj.put],rfl,.inl rfl⟩,.sl σ.next 0 l.length (.known l.length),_,_,Z,r2,a2,Nat.lt_succ_self _,by simp [er,putι],hk⟩
def PHeap.bare (σ:PHeap):PHeap:=⟨σ.next,σ.top,fun _=>Option.none⟩
theorem zA.thaw {f:FuncId} {args:List PV} {args2:(Nat→Nat)→List PV}
  (hA:∀ι,ers ι (args2 ι)=ers ι args) (hV:∀{ι:Nat→Nat} {Z Z2:Nat→Prop} {h:AHeap},Rel ι Z σ h→(∀s ds,σ.obj s=some ds→Z2 (ι s))→VOKs Z2 h σ.next (args2 ι))
  (c:∀aa,zA P f (args2 aa) σ.bare fun v _=>leafy v∧K v σ):zA P f args σ K:=by
 intro ι Z h r va;obtain⟨Z2,hZ2⟩:∃Z2:Nat→Prop,Z2=fun o=>Z o∨∃t ds,σ.obj t=some ds∧o=ι t:=⟨_,rfl⟩
 have hz2:∀o,Z2 o↔(Z o∨∃t ds,σ.obj t=some ds∧o=ι t):=fun o=>by rw [hZ2]
 clear hZ2;have r2:Rel ι Z2 σ.bare h:=by
  refine⟨r.hwf,fun o ho=>?_,r.top,fun t ht=>rfl,fun t ds ht=>(by cases ht),fun t t' ds ds' ht=>(by cases ht)⟩
  rcases(hz2 o).1 ho with ho|⟨t,ds,ht,rfl⟩
  ·exact r.zlt o ho
  ·exact r.hwf.lt (r.obj t ds ht).1
 have:=c ι ι Z2 h r2 (hV r fun s ds hs=>(hz2 _).2 (.inr ⟨s,ds,hs,rfl⟩))
 rw [hA]at this
 refine this.mono ?_
 rintro v h' ⟨pv,σ',ι',Z',p1,p2,p3,rfl,hl,hk⟩
 have ob:∀t ds,σ.obj t=some ds→h'.obj (ι t)=h.obj (ι t):=fun t ds ht=>(p2.z _ ((hz2 _).2 (.inr ⟨t,ds,ht,rfl⟩))).2
 have hzz:∀o,Z o→Z o∧h'.obj o=h.obj o:=fun o ho=>⟨ho,(p2.z o ((hz2 o).2 (.inl ho))).2⟩
 exact⟨pv,σ,ι,Z,⟨p1.hwf,fun o ho=>Nat.lt_of_lt_of_le (r.zlt o ho) p2.hnext,Nat.le_trans r.top p2.hnext,r.wf,fun t ds ht=>⟨by rw [ob t ds ht];exact(r.obj t ds ht).1,(r.obj t ds ht).2.1.mono hzz (Nat.le_refl _),(r.obj t ds ht).2.2⟩,r.inj⟩,⟨Nat.le_refl _,p2.hnext,fun _ _=>rfl,hzz,fun _ _ h=>h,fun t ds ht hd=>absurd (r.none_lt hd) (by omega)⟩,zFT hl _,zGl hl _ _,hk⟩
theorem TR.slotZ {ts:List TR} {b:Nat} (hok:TR.oks σ b ts) {ι:Nat→Nat} {Z2:Nat→Prop} (hz:∀s ds,σ.obj s=some ds→Z2 (ι s)):∀s∈TR.slotss ts,Z2 (ι s):=fun s hs=>by
 obtain⟨_,cs,q⟩:=TR.slots_obj hok s hs;exact hz s cs q
theorem zA.thawP {f:FuncId} {ts:List TR} {s b:Nat} (hs:σ.obj s=some (TR.pvs ts)) (hok:TR.oks σ b ts)
  (c:∀aa:Nat→Nat,zA P f [.fp (.ptr (aa s) 0) (TR.fzs aa ts)] σ.bare fun v _=>leafy v∧K v σ):zA P f [.ptr s 0] σ K:=by
 refine zA.thaw (args2:=fun aa=>[.fp (.ptr (aa s) 0) (TR.fzs aa ts)]) (fun ι=>rfl) (fun {ι Z Z2 h} r hz=>⟨⟨⟨rfl,.inr ⟨ι s,0,rfl,hz s _ hs,?_⟩⟩,?_⟩,trivial⟩) c
 ·have q:=(r.obj s _ hs).1
  rw [←TR.ers_fz idz hok]at q
  exact Qx q rfl
 ·exact(TR.voks r hok (TR.slotZ hok hz)).mono (fun o ho=>⟨ho,rfl⟩) (Nat.zero_le _)
theorem zA.thawV {f:FuncId} {ts:List TR} {b:Nat} (hok:TR.oks σ b ts)
  (c:∀aa,zA P f [.agg (TR.fzs aa ts)] σ.bare fun v _=>leafy v∧K v σ):zA P f [.agg (TR.pvs ts)] σ K:=
 zA.thaw (args2:=fun aa=>[.agg (TR.fzs aa ts)]) (fun ι=>by simp only [ers,er,TR.ers_fz ι hok]) (fun r hz=>⟨(TR.voks r hok (TR.slotZ hok hz)).mono (fun o ho=>⟨ho,rfl⟩) (Nat.zero_le _),trivial⟩) c
end Go.Ab
namespace Go.Proofs
open Go.RowKit Go.Ab Go.Lie Go.Grp
variable {σ h:PHeap} {K:PV→PHeap→Prop} {B:Nat} {w0 w:World} {j:Inj} {hh:AHeap} {s:List UInt8}
theorem zK5 (m:MR B w0 j hh w):∃n,w.cell? ⟨2,0,none⟩=some (.int .i64 n):=by
 obtain⟨n,hn⟩:=m.gd.num;have h:=m.gd.lt;exact⟨n,(m.below.cell (p:=⟨gdM,0,none⟩) (Nat.lt_of_le_of_lt (by decide:2≤3) h)).trans hn⟩
theorem zO7 (m:MR B w0 j hh w):∃t v,w.cell? ⟨0,0,none⟩=some (.iface t v):=by
 obtain⟨t,v,hn⟩:=m.gd.syn;have h:=m.gd.lt;exact⟨t,v,(m.below.cell (p:=⟨gdS,0,none⟩) (Nat.lt_of_le_of_lt (by decide:0≤3) h)).trans hn⟩
theorem zPA (m:MR B w0 j hh w):∃t v,w.cell? ⟨1,0,none⟩=some (.iface t v):=by
 obtain⟨t,v,hn⟩:=m.gd.rng;have h:=m.gd.lt;exact⟨t,v,(m.below.cell (p:=⟨gdR,0,none⟩) (Nat.lt_of_le_of_lt (by decide:1≤3) h)).trans hn⟩
def splL (sep s:List UInt8):List (List UInt8):=(Lib.splitB ⟨sep.toArray⟩ 0 (Lib.countB ⟨s.toArray⟩ ⟨sep.toArray⟩) ⟨s.toArray⟩).map fun q=>q.data.toList
theorem zDK (sep:ByteArray):∀(k:Nat) (s:ByteArray),∀q∈Lib.splitB sep 0 k s,q.size≤s.size
 | 0,s,q,hq=>by
  rw [Lib.splitB,List.mem_singleton]at hq
  rw [hq];exact Nat.le_refl _
 | k+1,s,q,hq=>by
  rw [Lib.splitB]at hq
  split at hq
  ·rw [List.mem_singleton]at hq
   rw [hq];exact Nat.le_refl _
  ·rcases List.mem_cons.1 hq with rfl | hq
   ·rw [ByteArray.size_extract];omega
   ·have:=zDK sep k _ q hq
    rw [ByteArray.size_extract]at this
    omega
theorem zFN {sep:List UInt8}:∀q∈splL sep s,q.length≤s.length:=fun q hq=>by
 obtain⟨b,hb,rfl⟩:=List.mem_map.1 hq
 have:=zDK _ _ _ b hb
 exact this
theorem zDl {sep:List UInt8} (h1:1≤sep.length):(splL sep s).length=Lib.countB ⟨s.toArray⟩ ⟨sep.toArray⟩+1∧(splL sep s).length≤s.length+1:=by
 have e:(splL sep s).length=Lib.countB ⟨s.toArray⟩ ⟨sep.toArray⟩+1:=by
  rw [splL,List.length_map];exact Lib.splitB_all ⟨sep.toArray⟩ (by simpa [ByteArray.size]using h1) 0 _ _ rfl
 have:=Lib.countB_le ⟨sep.toArray⟩ (by simpa [ByteArray.size]using h1) _ ⟨s.toArray⟩ (Nat.le_refl _)
 refine⟨e,?_⟩;rw [e];have e2:(⟨s.toArray⟩:ByteArray).size=s.length:=by simp [ByteArray.size]
 omega
theorem zHR {sep:List UInt8} (hs:s.length≤1048576) (h1:1≤sep.length) (hk:K (.sl σ.next 0 (splL sep s).length (.known (splL sep s).length)) (σ.new (pst (splL sep s)))):zA Tryz.prog 69 [.str s,.str sep] σ K:=by
 refine zA.quietN (l:=splL sep s) (ty:=9) (fun ι Z h r va B w0 j w cargs m vi=>?_) hk
 obtain⟨_,_,rfl,rfl,_,_,rfl,rfl,rfl⟩:=vi;obtain⟨n,hn⟩:=zK5 m;refine(Tryz.strings_Split ⟨s.toArray⟩ ⟨sep.toArray⟩ n w (by simp [ByteArray.size];omega) hn (by simpa [ByteArray.size]using h1)).mono ?_
 rintro e w' ⟨rfl,rfl⟩
 refine⟨w,Below.refl _ _,by rw [(zDl h1).1],?_⟩
 congr 3
 rw [splL,List.map_map];apply List.map_congr_left;intro q _
 rfl
theorem zLl {sep:List UInt8} (hs:s.length≤1048576) (hk:K (.tup [.str (Lib.cut s sep).1,.str (Lib.cut s sep).2.1,.bool (Lib.cut s sep).2.2]) σ):zA Tryz.prog 95 [.str s,.str sep] σ K:=by
 refine zA.quietV (v:=.tup [.str (Lib.cut s sep).1,.str (Lib.cut s sep).2.1,.bool (Lib.cut s sep).2.2]) (fun Z h n=>⟨trivial,trivial,trivial,trivial⟩) (fun ι Z h r va B w0 j w cargs m vi=>?_) hk
 obtain⟨_,_,rfl,rfl,_,_,rfl,rfl,rfl⟩:=vi;obtain⟨n,hn⟩:=zK5 m;refine(Tryz.strings_Cut ⟨s.toArray⟩ ⟨sep.toArray⟩ n w (by simp [ByteArray.size];omega) hn).mono ?_
 rintro e w' ⟨rfl,k,rfl⟩
 exact⟨⟨_,rfl,[_,_,_],⟨_,_,rfl,rfl,_,_,rfl,rfl,_,_,rfl,rfl,rfl⟩,rfl⟩,below_drewN (Below.refl _ _) _⟩
theorem zIU (hs:s.length≤1048576) (hk0:(∀v,Lib.parseIntB 64 s≠.ok v)→∀n:Int,K (.tup [.int .i64 n,.err false]) σ) (hk1:∀v,Lib.parseIntB 64 s=.ok v→K (.tup [.int .i64 v,.err true]) σ):zA Tryz.prog 70 [.str s,.int .i64 10,.int .i64 64] σ K:=by
 have e0:(⟨s.toArray⟩:ByteArray).size=s.length:=by simp [ByteArray.size]
 cases hp:Lib.parseIntB 64 s with
 | ok v=>
  refine zA.quietV (v:=.tup [.int .i64 v,.err true]) (fun Z h n=>⟨trivial,trivial,trivial⟩) (fun ι Z h r va B w0 j w cargs m vi=>?_) (hk1 v hp)
  obtain⟨_,_,rfl,rfl,_,_,rfl,rfl,_,_,rfl,rfl,rfl⟩:=vi;refine(Tryz.strconv_ParseInt_10_at64_ok ⟨s.toArray⟩ (by omega) v hp w).mono ?_
  rintro e w' ⟨rfl,hw⟩
  refine⟨⟨_,rfl,[_,_],⟨_,_,rfl,rfl,_,_,rfl,rfl,rfl⟩,rfl⟩,?_⟩;rcases hw with rfl|⟨t,rfl⟩
  ·exact Below.refl _ _
  ·exact Lib.bytesWorld_below _ _ _
 | «syntax»=>
  refine zA.quietV (v:=.tup [.int .i64 0,.err false]) (fun Z h n=>⟨trivial,trivial,trivial⟩) (fun ι Z h r va B w0 j w cargs m vi=>?_) (hk0 (fun v e=>by rw [hp]at e;cases e) 0)
  obtain⟨_,_,rfl,rfl,_,_,rfl,rfl,_,_,rfl,rfl,rfl⟩:=vi;obtain⟨te,pe,he⟩:=zO7 m;refine(Tryz.strconv_ParseInt_10_at64_syntax ⟨s.toArray⟩ (by omega) hp _ w he (.inr ⟨te,pe,rfl⟩)).mono ?_
  rintro e w' ⟨N,rfl,_,_,hb⟩
  exact⟨⟨_,rfl,[_,_],⟨_,_,rfl,rfl,_,_,rfl,⟨_,_,rfl⟩,rfl⟩,rfl⟩,hb⟩
 | range=>
  refine zA.quietV (v:=.tup [.int .i64 (Lib.intSat 64 s),.err false]) (fun Z h n=>⟨trivial,trivial,trivial⟩) (fun ι Z h r va B w0 j w cargs m vi=>?_) (hk0 (fun v e=>by rw [hp]at e;cases e) _)
  obtain⟨_,_,rfl,rfl,_,_,rfl,rfl,_,_,rfl,rfl,rfl⟩:=vi;obtain⟨te,pe,he⟩:=zPA m;refine(Tryz.strconv_ParseInt_10_at64_range ⟨s.toArray⟩ (by omega) hp _ w he (.inr ⟨te,pe,rfl⟩)).mono ?_
  rintro e w' ⟨N,rfl,_,_,hb⟩
  exact⟨⟨_,rfl,[_,_],⟨_,_,rfl,rfl,_,_,rfl,⟨_,_,rfl⟩,rfl⟩,rfl⟩,hb⟩
end Go.Proofs
namespace Go.Proofs
section
open Go.RowKit
set_option maxRecDepth 100000
def ltN (c:Nat):Int:=if c<97 then 65-(c:Int)-1 else(c:Int)-97+1
def rwF (k:Int):List Int→List UInt8→Option (List Int)
 | acc,[]=>some acc
 | acc,c::r=>if c.toNat<65∨ltN c.toNat=0∨¬(-k≤ltN c.toNat∧ltN c.toNat≤k)then none else rwF k (acc++[ltN c.toNat]) r
theorem zOW:(Tryz.prog.info? 2).map (fun i=>(i.zero,i.size,i.bytes))=some (some (.int .i64 0),1,8):=by kernel_rfl
theorem zIi:Tryz.prog.underlying 22=some (.slice 2):=by kernel_rfl
theorem zNB {s:List UInt8} {q:Nat} {c:UInt8} (h:s[q]? = some c):s.drop q=c::s.drop (q+1):=by
 obtain⟨hl,rfl⟩:=List.getElem?_eq_some_iff.1 h
 simp
def zPo (k:Int) (s:List UInt8) (w:World) (e:Ending) (w':World):Prop:=(∃v t xs,e=.returned (.tuple #[v,.bool t])∧w'.ownsRow (w.heap.size+1) 2 1 v xs.length (xs.map (Value.int .i64))∧(t=true→s≠[]∧rwF k [] s=some xs)∧(t=false→xs=[]∧(s=[]∨rwF k [] s=none)))∧Below w.heap.size w w'
set_option maxHeartbeats 1600000 in
theorem zI5 (k:Int) (hk0:0≤k) (hk1:k≤1000) (s:List UInt8) (hs:s.length≤1048576) (w:World) (h1:s≠[49]):
  Calls Tryz.prog 123 #[.int .i64 k,.string ⟨s.toArray⟩] w fun e w'=>zPo k s w e w':=by
 obtain⟨i0,hi,hz0,hz1,hz2⟩:=info_parts zOW;have e1:(⟨s.toArray⟩:ByteArray).size=s.length:=by simp [ByteArray.size]
 have hcv:=Lib.run_convert_string_bytes (P:=Tryz.prog) w 9 127 5 ⟨s.toArray⟩ (u:=.string) (by kernel_rfl) (by kernel_rfl) (by kernel_rfl)
 have hB:∀j,j<s.length→(Lib.bytesWorld w 5 ⟨s.toArray⟩).cell? ⟨w.heap.size,j,none⟩=some (.int .u8 (s.getD j 0).toNat):=fun j hj=>by
  have:=Lib.bytesWorld_cell w 5 ⟨s.toArray⟩ j (by rw [e1];exact hj)
  exact this
 have hb0:=Lib.bytesWorld_below w 5 ⟨s.toArray⟩;have hsz:=Lib.bytesWorld_size w 5 ⟨s.toArray⟩;rw [e1]at hcv
 have hq1:(s == [49])=false:=by simpa using h1
 generalize Lib.bytesWorld w 5 ⟨s.toArray⟩=W1 at *
 generalize grownCap w s.length 0 5=gc at *
 go_enter Tryz.func123,Tryz.ntmps123
 go_wp2
 go_loopw [6,15] (fun v i wr=>∃q xs,q≤s.length∧i=.int .i64 (q:Nat)∧xs.length=q∧rwF k xs (s.drop q)=rwF k [] s∧wr.ownsRow (w.heap.size+1) 2 1 v xs.length (xs.map (Value.int .i64))∧Below (w.heap.size+1) W1 wr) (fun _ i _=>s.length-(intOf i).toNat)
 case atStart=>exact⟨0,[],Nat.zero_le _,rfl,rfl,rfl,World.ownsRow_nil _ _ _ _,Below.refl _ _⟩
 case round=>
  obtain⟨q,xs,hq,rfl,hx,eL,hown,hnx⟩:=hrel;have hsz2:=hnx.size
  by_cases hqs:q<s.length
  ·obtain⟨c,hc⟩:∃c,s[q]? = some c:=⟨s[q],List.getElem?_eq_getElem hqs⟩
   have hcx:wr.cell? ⟨w.heap.size,q,none⟩=some (.int .u8 c.toNat):=by
    rw [hnx.cell (by show w.heap.size<w.heap.size+1;omega),hB q hqs,List.getD_eq_getElem?_getD,hc];rfl
   rw [zNB hc,rwF]at eL
   have c0:=c.toNat_lt;obtain⟨n,hn⟩:∃n,n=c.toNat:=⟨_,rfl⟩
   rw [←hn]at hcx eL c0
   have HN:Hid (n=c.toNat):=Lib.hid hn;clear hn hB hcv hc
   by_cases h97:n<97
   ·have h97':(n:Int)<97:=by omega
    have el:ltN n=65-(n:Int)-1:=by unfold ltN;rw [if_pos h97]
    rw [el]at eL
    go_wp2_with (first
     | (at_builtin;refine wpList_append_own _ rfl _ _ 22 rfl (w.heap.size+1) 2 i0 (.int .i64 0) 1 8 zIi hi hz0 hz1 hz2 rfl (by decide) _ _ _ rfl (hown.alloc _) ⟨wr.heap.size,0,none⟩ 1 1 [.int .i64 (65-(n:Int)-1)] rfl rfl ?c1 ?c2 ?c3 ?c4 ?c5 ?c6)
     | go_in)
    case c1=>
     intro j u hj
     match j,hj with
     | 0,hj=>simp at hj;subst hj;simp [Addr.add]
    case c2=>intro u hu;simp at hu;subst hu;rfl
    case c3=>unfold maxLen;omega
    case c4=>omega
    case c5=>simp;omega
    case c6=>
     intro v' w1 hown' hgrow _;rw [if_neg (by simp_all;omega)]at eL
     have hnx':Below (w.heap.size+1) W1 w1:=(hnx.alloc (by omega) _).grown hgrow (by simp;omega) (fun j hj=>(hown.lt j hj).1)
     clear hgrow hown hnx hcx
     go_wp2
     go_roundw
     case rel=>exact⟨q+1,xs++[65-(n:Int)-1],by omega,by go_num,by simp [hx],eL,by simpa [hx]using hown',hnx'⟩
     case measure=>simp [intOf];omega
    all_goals
     go_ret2
     rw [if_pos (by simp_all;omega)]at eL
     exact⟨⟨_,false,[],rfl,World.ownsRow_nil _ _ _ _,(fun h=>by cases h),fun _=>⟨rfl,.inr eL.symm⟩⟩,hb0.trans (hnx.mono (Nat.le_succ _))⟩
   ·have h97':¬(n:Int)<97:=by omega
    have el:ltN n=(n:Int)-97+1:=by unfold ltN;rw [if_neg h97]
    rw [el]at eL
    go_wp2_with (first
     | (at_builtin;refine wpList_append_own _ rfl _ _ 22 rfl (w.heap.size+1) 2 i0 (.int .i64 0) 1 8 zIi hi hz0 hz1 hz2 rfl (by decide) _ _ _ rfl (hown.alloc _) ⟨wr.heap.size,0,none⟩ 1 1 [.int .i64 ((n:Int)-97+1)] rfl rfl ?d1 ?d2 ?d3 ?d4 ?d5 ?d6)
     | go_in)
    case d2=>rfl
    case d3=>unfold maxLen;omega
    case d4=>omega
    case d5=>omega
    case d6=>
     intro v' w1 hown' hgrow _;rw [if_neg (by simp_all;omega)]at eL
     have hnx':Below (w.heap.size+1) W1 w1:=(hnx.alloc (by omega) _).grown hgrow (by simp;omega) (fun j hj=>(hown.lt j hj).1)
     clear hgrow hown hnx hcx
     go_wp2
     go_roundw
     case rel=>exact⟨q+1,xs++[(n:Int)-97+1],by omega,by go_num,by simp [hx],eL,by simpa [hx]using hown',hnx'⟩
     case measure=>simp [intOf];omega
    all_goals
     go_ret2
     rw [if_pos (by simp_all;omega)]at eL
     exact⟨⟨_,false,[],rfl,World.ownsRow_nil _ _ _ _,(fun h=>by cases h),fun _=>⟨rfl,.inr eL.symm⟩⟩,hb0.trans (hnx.mono (Nat.le_succ _))⟩
  ·have e:q=s.length:=by omega
   subst e;rw [List.drop_length,rwF]at eL
   have hbe:=hb0.trans (hnx.mono (Nat.le_succ _))
   by_cases h0:s=[]
   ·have hq0:(s == [])=true:=by simpa using h0
    go_wp2
    go_ret2
    refine⟨⟨_,false,xs,?_,hown,(fun h=>by cases h),fun _=>⟨List.eq_nil_of_length_eq_zero (by rw [hx,h0];rfl),.inl h0⟩⟩,hbe⟩
    simp [h0]
   ·have hq0:(s == [])=false:=by simpa using h0
    go_wp2
    go_ret2
    refine⟨⟨_,true,xs,?_,hown,fun _=>⟨h0,eL.symm⟩,fun h=>by cases h⟩,hbe⟩
    simp [h0]
end
end Go.Proofs
namespace Go.Grp
end Go.Grp
namespace Go.Ab
open Go.RowKit
variable {P:Program} {B:Nat} {w0 w w':World} {j:Inj} {h h':AHeap} {ι:Nat→Nat} {Z:Nat→Prop} {σ:PHeap} {n:Nat}
theorem MR.newAt (m0:MR B w0 j h w) (hb:Below w.heap.size w w') {cells:List AV} {cur:Array Value} {ty:TypeId} {room g:Nat} (hg:w.heap.size≤g) (hgo:w'.heap[g]? = some (.cells cur ty (0,0))) (hone:cells.all AV.one=true)
  (hc:VIs j cells (cur.toList.take cells.length)) (hroom:room≤cur.size):
  MR B w0 (j.put h.next ⟨g,0,room⟩) (h.new ⟨true,cells⟩) w'∧FR j h (j.put h.next ⟨g,0,room⟩) (h.new ⟨true,cells⟩):=by
 have old:∀{p:Nat} {ob:AObj} {l:Loc},h.obj p=some ob→j p=some l→l.blk<w.heap.size:=by
  intro p ob l a b;obtain⟨cur,ty,fz,hrow,_⟩:=(m0.obj p ob l a b).row;exact(Array.getElem?_eq_some_iff.1 hrow).1
 have hB:=m0.bnd;have m:=m0.quiet hb;have hle:=m.put_le ⟨g,0,room⟩;refine⟨⟨m.below,m.bnd,m.gd,?_,?_,?_⟩,?_⟩
 ·intro o ho
  simp only [AHeap.new]at ho
  simp only [AHeap.new,Inj.put,if_neg (show ¬o=h.next by omega)]
  exact m.fresh o (by omega)
 ·intro o ob l ho hl
  by_cases e:o=h.next
  ·subst e
   simp only [AHeap.new,if_true,Option.some.injEq]at ho
   simp only [Inj.put,if_true,Option.some.injEq]at hl
   subst ho;subst hl;refine⟨hone,cur,ty,(0,0),hgo,fun i v hv=>?_,fun _=>⟨rfl,by simpa using hroom,by show B≤g;omega⟩,fun x=>by cases x⟩
   obtain⟨cv,a,b⟩:=hc.get hv;refine⟨cv,?_,VI.mono hle _ _ b⟩;rw [List.getElem?_take]at a
   split at a
   ·simpa using a
   ·cases a
  ·simp only [AHeap.new,if_neg e]at ho
   simp only [Inj.put,if_neg e]at hl
   have k:=m.obj o ob l ho hl;obtain⟨cur,ty,fz,hrow,hc,hr⟩:=k.row;exact⟨k.one,cur,ty,fz,hrow,fun i v hv=>by obtain⟨cv,a,b⟩:=hc i v hv;exact⟨cv,a,VI.mono hle _ _ b⟩,hr⟩
 ·intro o o' ob ob' l l' hne ho ho' hl hl' hrw
  by_cases e:o=h.next
  ·have e':o'≠h.next:=fun x=>hne (e.trans x.symm)
   subst e;simp only [Inj.put,if_true,Option.some.injEq]at hl
   simp only [Inj.put,if_neg e']at hl'
   simp only [AHeap.new,if_neg e']at ho'
   have:=old ho' hl'
   subst hl;show g≠_;omega
  ·simp only [AHeap.new,if_neg e]at ho
   simp only [Inj.put,if_neg e]at hl
   by_cases e':o'=h.next
   ·subst e'
    simp only [Inj.put,if_true,Option.some.injEq]at hl'
    have:=old ho hl
    subst hl';show _≠g;omega
   ·simp only [AHeap.new,if_neg e']at ho'
    simp only [Inj.put,if_neg e']at hl'
    exact m.apart o o' ob ob' l l' hne ho ho' hl hl' hrw
 ·refine⟨by simp [AHeap.new],fun o ho=>?_,fun o ho _=>?_⟩
  ·simp [Inj.put,Nat.ne_of_lt ho]
  ·simp [AHeap.new,Nat.ne_of_lt ho]
theorem zGw (j:Inj):∀l:List Int,VIs j (l.map (AV.int .i64)) (l.map (Value.int .i64))
 | []=>rfl
 | q::l=>⟨_,_,rfl,rfl,zGw j l⟩
theorem zDw (ι:Nat→Nat):∀l:List Int,ers ι (pis l)=l.map (AV.int .i64)
 | []=>rfl
 | q::l=>by simp only [pis,List.map_cons,ers,er];rw [show ers ι (l.map (PV.int .i64))=l.map (AV.int .i64) from zDw ι l]
theorem zGv {n:Nat}:∀l:List Int,VOKs Z h n (pis l)
 | []=>trivial
 | _::l=>⟨trivial,zGv l⟩
theorem zA.quietI {f:FuncId} {args:List PV} {K:PV→PHeap→Prop}
  (H:∀(ι:Nat→Nat) (Z:Nat→Prop) (h:AHeap),Rel ι Z σ h→VOKs Z h σ.next args→∀(B:Nat) (w0:World) (j:Inj) (w:World) (cargs:List Value),MR B w0 j h w→VIs j (ers ι args) cargs→
   Calls P f cargs.toArray w fun e w'=>(∃v t xs b ty,e=.returned (.tuple #[v,.bool t])∧w.heap.size≤b∧w'.ownsRow b ty 1 v xs.length (xs.map (Value.int .i64))∧(xs=[]→K (.tup [.fz true .nils 0 [],.bool t]) σ)∧∀cap,full 1 cap xs.length→K (.tup [.sl σ.next 0 xs.length cap,.bool t]) (σ.new (pis xs)))∧Below w.heap.size w w'):zA P f args σ K:=by
 intro ι Z h r va B w0 j w cargs m vi;refine(H ι Z h r va B w0 j w cargs m vi).mono ?_
 rintro e w' ⟨⟨v,t,xs,b,ty,rfl,hbs,hown,k0,k1⟩,hb⟩
 rcases hown.2 with ⟨rfl,h0⟩|⟨g,c,cur,rfl,hg,hgo,hle,hmx,hsz,hcs⟩
 ·have hx:xs=[]:=List.eq_nil_of_length_eq_zero h0
  exact⟨er ι (.tup [.fz true .nils 0 [],.bool t]),h,j,_,rfl,FR.refl _ _,m.quiet hb,⟨_,⟨_,_,rfl,rfl,_,_,rfl,rfl,rfl⟩,rfl⟩,.tup [.fz true .nils 0 [],.bool t],σ,ι,Z,r,⟨Nat.le_refl _,Nat.le_refl _,fun _ _=>rfl,fun o ho=>⟨ho,rfl⟩,fun _ _ x=>x,fun s cs hs ho=>by rw [r.wf s hs]at ho;cases ho⟩,⟨⟨.inl ⟨rfl,rfl,rfl⟩,trivial⟩,trivial,trivial⟩,rfl,k0 hx⟩
 ·obtain⟨r2,a2⟩:=r.new (cs:=pis xs) (zGv xs)
  rw [Nat.mul_one]at hsz hcs
  obtain⟨m2,f2⟩:=m.newAt hb (cells:=ers ι (pis xs)) (cur:=cur) (ty:=ty) (room:=c) (g:=g) (by omega) hgo (by rw [zDw];simp [List.all_map];intro q _;rfl) (by
   rw [zDw,List.length_map,hcs];exact zGw j xs) (by omega)
  exact⟨.tup [.sl h.next 0 xs.length (.grown 1),.bool t],_,_,_,rfl,f2,m2,⟨_,⟨_,_,rfl,⟨⟨g,0,c⟩,c,0,by simp [Inj.put],rfl,hle,.inl rfl,fun _ _=>by simp⟩,_,_,rfl,rfl,rfl⟩,rfl⟩,.tup [.sl σ.next 0 xs.length (.grown 1),.bool t],_,_,Z,r2,a2,⟨Nat.lt_succ_self _,trivial,trivial⟩,by simp [er,ers,putι],k1 _ (.inl rfl)⟩
end Go.Ab
namespace Go.Proofs
open Go.RowKit Go.Ab Go.Lie Go.Grp
variable {σ h:PHeap} {K:PV→PHeap→Prop} {b k r s0 i j n:Nat} {L L':Nat→Nat} {v vO vP vC c vX vL:PV} {x O xs:List Int} {P M:List (List Int)} {C:List (List (List Int))} {cs:List PV} {s:List UInt8}
def rdF (k:Int) (s:List UInt8):Option (List Int):=if s=[49]then some []else if s=[]then none else rwF k [] s
theorem zI6 (k:Int) (w:World):Calls Tryz.prog 123 #[.int .i64 k,.string ⟨#[49]⟩] w fun e w'=>e=.returned (.tuple #[.slice none 0 0,.bool true])∧w'=w:=by
 go_enter Tryz.func123,Tryz.ntmps123
 go_wp2
 go_ret2
 exact⟨rfl,rfl⟩
theorem zDN {k:Int} (hk0:0≤k) (hk1:k≤1000) (hs:s.length≤1048576) (k0:rdF k s=none→∀v,FI v []→K (.tup [v,.bool false]) σ) (k1:∀v x,rdF k s=some x→FI v x→K (.tup [v,.bool true]) σ):zA Tryz.prog 123 [.int .i64 k,.str s] σ K:=by
 have fin:∀{t:Bool} {xs:List Int},(∀v,FI v xs→K (.tup [v,.bool t]) σ)→(xs=[]→Gh σ K (.tup [.fz true .nils 0 [],.bool t]) σ)∧∀cap,full 1 cap xs.length→Gh σ K (.tup [.sl σ.next 0 xs.length cap,.bool t]) (σ.new (pis xs)):=fun {t xs} hk=>by
  refine⟨fun h0=>?_,fun cap hc=>PSl.fin_tf (zB _ _) ⟨σ.next,cap,rfl,hc,by rw [zH,if_pos rfl],by rw [zG,Nat.mul_one],Nat.le_refl _,Nat.lt_succ_self _⟩ hk⟩
  exact Gh.ret (hk _ ⟨true,.nils,by rw [h0];rfl⟩)
 refine zA.gh (zA.quietI fun ι Z h r va B w0 j w cargs m vi=>?_)
 obtain⟨_,_,rfl,rfl,_,_,rfl,rfl,rfl⟩:=vi
 by_cases h1:s=[49]
 ·subst h1
  refine(zI6 k w).mono ?_
  rintro e w' ⟨rfl,rfl⟩
  have f:=fin (t:=true) (xs:=[]) fun v hv=>k1 v [] (if_pos rfl) hv
  exact⟨⟨_,true,[],w'.heap.size,2,rfl,Nat.le_refl _,World.ownsRow_nil _ _ _ _,f.1,f.2⟩,Below.refl _ _⟩
 have e1:rdF k s=if s=[]then none else rwF k [] s:=if_neg h1
 refine(zI5 k hk0 hk1 s hs w h1).mono ?_
 rintro e w' ⟨⟨v,t,xs,rfl,ho,q1,q2⟩,hb⟩
 refine⟨⟨v,t,xs,w.heap.size+1,2,rfl,Nat.le_succ _,ho,?_⟩,hb⟩;cases t
 ·obtain⟨hx0,q5⟩:=q2 rfl
  subst hx0;refine fin fun v hv=>k0 ?_ v hv
  rw [e1];rcases q5 with q|q
  ·rw [if_pos q]
  ·rw [q];split<;>rfl
 ·obtain⟨q3,q4⟩:=q1 rfl
  exact fin fun v hv=>k1 v xs (by rw [e1,if_neg q3];exact q4) hv
theorem zKG {k:Int}:∀(s:List UInt8) (acc:List Int) {xs:List Int},rwF k acc s=some xs→(∀x∈acc,-k≤x∧x≤k∧x≠0)→(∀x∈xs,-k≤x∧x≤k∧x≠0)∧xs.length=acc.length+s.length
 | [],acc,xs,e,ha=>by rw [rwF]at e;cases e;exact⟨ha,by simp⟩
 | c::r,acc,xs,e,ha=>by
  rw [rwF]at e
  split at e
  ·cases e
  ·next hn=>
   have:=zKG r _ e fun x hx=>by
    rcases List.mem_append.1 hx with hx|hx
    ·exact ha x hx
    ·rw [List.mem_singleton.1 hx];omega
   simp only [List.length_append,List.length_cons,List.length_nil]at this ⊢
   exact⟨this.1,by omega⟩
theorem zPG {k:Int} (e:rdF k s=some xs):(∀x∈xs,-k≤x∧x≤k∧x≠0)∧xs.length≤s.length:=by
 unfold rdF at e
 split at e
 ·cases e;exact⟨(fun x hx=>by cases hx),Nat.zero_le _⟩
 ·split at e
  ·cases e
  ·have:=zKG s [] e fun x hx=>by cases hx
   exact⟨this.1,by rw [this.2];simp⟩
def exF (n:Nat) (s:List UInt8):Option (List Int):=match rdF n s with | none=>none | some xs=>vcF (List.replicate n 0) xs
theorem zKA {n:Nat} {ok:Bool} (hn:n≤6) (hx:∀a∈x,-(n:Int)≤a∧a≤(n:Int)∧a≠0) (hl:x.length≤1048576)
  (hk0:vcF (List.replicate n 0) x=none→∀h,Keep σ h→K (.tup [.fz true .nils 0 [],.bool false]) h) (hk1:∀ys,vcF (List.replicate n 0) x=some ys→ys.length=n→K (.tup [.sl σ.next 0 n (.known n),.bool ok]) (σ.new (pis ys)))
  (hw:zA Tryz.prog 123 [.int .i64 n,.str s] σ fun v h=>(∃u,FI u x∧v=.tup [u,.bool ok])∧h=σ):zA Tryz.prog 96 [.int .i64 n,.str s] σ K:=by
 refine zD mix Tryz.func96 ?_;simp only [pwA,seval,-iQ0];refine hw.mono ?_
 rintro _ g ⟨⟨_,⟨w,a,rfl⟩,rfl⟩,hg⟩
 obtain rfl:=hg.symm;simp only [pwA,seval,-iQ0,qh,mk8 (n:=n) (by omega),Go.Ab.mkL (n:=n) (by omega)]
 refine zC (fun m vs h=>∃(i:Nat) (ys:List Int),i≤x.length∧m=x.length-i∧vs=[.bool ok,.sl σ.next 0 n (.known n),.fz w a x.length (pis x),.int .i64 x.length,.int .i64 i]∧ys.length=n∧(∀y∈ys,0≤y∧y≤(i:Int))∧vcF ys (x.drop i)=vcF (List.replicate n 0) x∧h=σ.new (pis ys)) x.length ?_ ?_
 ·exact⟨0,List.replicate n 0,Nat.zero_le _,rfl,rfl,by simp,fun y hy=>by rw [(List.mem_replicate.1 hy).2];exact⟨Int.le_refl _,Int.le_refl _⟩,rfl,rfl⟩
 rintro m vs h ⟨i,ys,hi,rfl,rfl,hyl,hy,eL,rfl⟩
 simp only [pwA,seval,-iQ0];refine iteI (fun hlt=>?_) fun hge=>?_
 rotate_left
 ·rw [List.drop_of_length_le (by omega),vcF]at eL
  exact hk1 ys eL.symm hyl
 have hlt':(i:Int)<(x.length:Int):=by omega
 rw [drop_at hlt,vcF]at eL
 have gx:(pis x)[i]? = some (.int .i64 x[i]):=by rw [z8,gi hlt];rfl
 have xb:=hx _ (List.getElem_mem hlt);have wi:=wrapS hlt (by omega:x.length≤4611686018427387904)
 simp only [pwA,seval,-iQ0,hlt,hlt',gx];refine iteI (fun hneg=>?_) fun hpos=>?_
 ·rw [if_pos hneg]at eL
  exact hk0 eL.symm _ (zB _ _)
 obtain⟨j,hj⟩:∃j:Nat,x[i]=(j:Int)+1:=⟨(x[i] - 1).toNat,by omega⟩
 rw [if_neg hpos]at eL
 have hjn:j<n:=by omega
 have hjn':(j:Int)<(n:Int):=by omega
 have hjy:j<ys.length:=by omega
 rw [hj]at gx
 have w1:IntKind.i64.wrap ((j:Int)+1-1)=(j:Int):=by rw [wrap64 (by omega) (by omega)];omega
 have yb:=hy _ (List.getElem_mem hjy);have w2:IntKind.i64.wrap (ys[j] + 1)=ys[j] + 1:=wrap64 (by omega) (by omega)
 have gy:(pis ys)[j]? = some (.int .i64 ys[j]):=by rw [z8,gi hjy];rfl
 have wr:(σ.new (pis ys)).wr σ.next j [.int .i64 (ys[j] + 1)]=some ((σ.new (pis ys)).set σ.next (pis (ys.set j (ys[j] + 1)))):=zJ9 (by rw [zH,if_pos rfl]) hjy
 have e2:(σ.new (pis ys)).set σ.next (pis (ys.set j (ys[j] + 1)))=σ.new (pis (ys.set j (ys[j] + 1))):=by
  unfold PHeap.set PHeap.new
  congr 1
  funext q
  by_cases e:q=σ.next<;>simp [e]
 have rd:(σ.new (pis ys)).rd1 σ.next j=some (.int .i64 ys[j]):=by rw [zi (by rw [zH,if_pos rfl])];exact gy
 rw [e2]at wr
 have hjt:(x[i] - 1).toNat=j:=by omega
 have hyd:ys.getD j 0=ys[j]:=by rw [List.getD_eq_getElem?_getD,List.getElem?_eq_getElem hjy];rfl
 rw [hjt,hyd]at eL
 generalize hG:σ.new (pis ys)=G at *
 simp only [pwA,seval,-iQ0,hlt,hlt',gx,hj,w1,hjn,hjn',rd,w2,wr,wi];refine⟨_,by omega,i+1,ys.set j (ys[j] + 1),by omega,rfl,rfl,by rw [List.length_set];exact hyl,fun y hy'=>?_,eL,rfl⟩
 rcases List.mem_or_eq_of_mem_set hy' with hy' | rfl
 ·have:=hy y hy';omega
 ·omega
theorem zFI {n:Nat} (hn:n≤6) (hs:s.length≤1048576) (k0:exF n s=none→∀v h,Keep σ h→v.one=true→K (.tup [v,.bool false]) h) (k1:∀ys,exF n s=some ys→ys.length=n→K (.tup [.sl σ.next 0 n (.known n),.bool true]) (σ.new (pis ys))):zA Tryz.prog 96 [.int .i64 n,.str s] σ K:=by
 cases hr:rdF n s with
 | none=>
  have e:exF n s=none:=by unfold exF;rw [hr]
  refine zKA (x:=[]) (ok:=false) hn (fun a ha=>by cases ha) (Nat.zero_le _) (fun _ h kk=>k0 e _ h kk rfl) (fun ys hy hl=>k0 e _ _ (zB _ _) rfl) ?_
  exact zDN (by omega) (by omega) hs (fun _ v hv=>⟨⟨v,hv,rfl⟩,rfl⟩) fun v x e' _=>by rw [hr]at e';cases e'
 | some xs=>
  have e:exF n s=vcF (List.replicate n 0) xs:=by unfold exF;rw [hr]
  have hb:=zPG hr;refine zKA (x:=xs) (ok:=true) hn hb.1 (by omega) (fun e' h kk=>k0 (e.trans e') _ h kk rfl) (fun ys hy hl=>k1 ys (e.trans hy) hl) ?_
  exact zDN (by omega) (by omega) hs (fun e' v hv=>by rw [hr]at e';cases e') fun v x e' hv=>by rw [hr]at e';cases e';exact⟨⟨v,hv,rfl⟩,rfl⟩
def geF (n:Nat) (s:List UInt8):Option Nat:=match s with | [c]=>if 97≤c.toNat∧c.toNat-97<n then some (c.toNat-97)else none | _=>none
theorem zLK {n i:Nat} (e:geF n s=some i):i<n:=by
 unfold geF at e
 split at e
 ·split at e
  ·next h=>cases e;exact h.2
  ·cases e
 ·cases e
theorem Q5 {n:Nat} (hn:n≤1000) (hs:s.length≤1048576) (k0:geF n s=none→K (.tup [.int .i64 0,.bool false]) σ) (k1:∀i:Nat,geF n s=some i→K (.tup [.int .i64 i,.bool true]) σ):zA Tryz.prog 97 [.int .i64 n,.str s] σ K:=by
 refine zD mix Tryz.func97 ?_
 by_cases h1:s.length=1
 rotate_left
 ·have d1:¬((s.length:Nat):Int)=1:=by omega
  simp only [pwA,seval,-iQ0,d1];refine k0 ?_;unfold geF
  split
  ·next c=>exact absurd rfl h1
  ·rfl
 obtain⟨c,rfl⟩:∃c,s=[c]:=List.length_eq_one_iff.1 h1
 have d0:((1:Nat):Int)=1:=rfl;have eg:geF n [c]=if 97≤c.toNat∧c.toNat-97<n then some (c.toNat-97)else none:=rfl
 have cb:=c.toNat_lt;have g0:[c][(0:Int).toNat]? = some c:=rfl
 by_cases h2:c.toNat<97
 ·have d2:((c.toNat:Nat):Int)<97:=by omega
  simp only [pwA,seval,-iQ0,d0,g0,d2,Int.toNat_zero,List.getElem?_cons_zero];exact k0 (by rw [eg,if_neg (by omega)])
 have d2:¬((c.toNat:Nat):Int)<97:=by omega
 have w1:IntKind.u8.wrap ((c.toNat:Int)-97)=((c.toNat-97:Nat):Int):=by rw [zAo (by omega) (by omega)];omega
 have w2:IntKind.i64.wrap ((c.toNat-97:Nat):Int)=((c.toNat-97:Nat):Int):=wrap64 (by omega) (by omega)
 by_cases h3:n≤c.toNat-97
 ·have d3:(n:Int)≤((c.toNat-97:Nat):Int):=by omega
  simp only [pwA,seval,-iQ0,d0,g0,d2,w1,w2,d3,h3,Int.toNat_zero,List.getElem?_cons_zero];exact k0 (by rw [eg,if_neg (by omega)])
 have d3:¬(n:Int)≤((c.toNat-97:Nat):Int):=by omega
 simp only [pwA,seval,-iQ0,d0,g0,d2,w1,w2,d3,h3,Int.toNat_zero,List.getElem?_cons_zero];exact k1 _ (by rw [eg,if_pos ⟨by omega,by omega⟩])
end Go.Proofs
namespace Go.Grp
end Go.Grp
namespace Go.Proofs
open Go.Ab Go.Lie Go.Grp
variable {σ σ0 h h':PHeap} {K:PV→PHeap→Prop} {b s t n k r s0 i j:Nat} {L L':Nat→Nat} {v vO vP vC c vX vL:PV} {x O:List Int} {P M:List (List Int)} {C:List (List (List Int))} {cs:List PV}
theorem zNY {s off l:Nat} {cap:Cap} {xs:List Int} (hr:σ.rd s off l=some (pis xs)) (hs:s<σ.next) (hl:l=xs.length) (hb:xs.length≤1000000) (hk:∀cap,full 1 cap xs.length→K (.sl σ.next 0 xs.length cap) (σ.new (pis xs))):zA Tryz.prog 63 [.sl s off l cap] σ K:=by
 subst hl;refine zA.gh ?_;refine zD mix Tryz.func63 ?_;simp only [pwA,seval,-iQ0];refine PSl.app (b:=0) (bytes:=8) (σb:=σ) (n:=0) (cs:=[]) (m:=xs.length) (news:=pis xs) (zB σ _) (Nat.zero_le _) (PSl.new _ 1 rfl (Nat.le_refl _)) rfl (fun h0=>?_) (by rw [zG];omega) (by omega) (by omega) fun v' h' hk' ha=>?_
 ·rw [Z6,if_neg h0,if_pos (Nat.le_refl _),Nat.mul_one]
  rw [QC,if_neg (by omega)]
  exact hr
 ·simp only [pwA,seval,-iQ0]at ha ⊢
  exact ha.out hk' (zh _ _) hk
def CloR (g g':PHeap) (O:List Int) (v:PV):Prop:=Keep g g'∧((O=[]∧v=.fz true .nils 0 [])∨∃cap,full 1 cap O.length∧v=.sl g.next 0 O.length cap∧g'.obj g.next=some (pis O)∧g.next<g'.next)
set_option maxHeartbeats 1600000 in
theorem zCD (hlen:pLen vX=some (.int .i64 O.length)) (hb:O.length≤900)
  (hcl:∀{g:PHeap} {K':PV→PHeap→Prop},Keep σ g→(∀v g',CloR g g' O v→K' v g')→zA Tryz.prog 63 [vX] g K')
  (hk:∀L h vO vP vC,Keep σ h→PX L σ.next h O (trP O.length O.length) (trC O.length O.length) vO vP vC→K (.agg [vO,vP,vC]) h):zA Tryz.prog 94 [vX] σ K:=by
 refine zD mix Tryz.func94 ?_;simp only [pwA,seval,-iQ0,hlen];refine hcl (zB _ _) fun vO H hO=>?_
 have kH:=hO.1;have hHn:=kH.next;have hHn':σ.next+1≤H.next:=hHn;have o1:vO.one=true:=by rcases hO.2 with ⟨_,rfl⟩ | ⟨_,_,rfl,_⟩<;>rfl
 have o2:vO.cells=[vO]:=by rcases hO.2 with ⟨_,rfl⟩ | ⟨_,_,rfl,_⟩<;>rfl
 have ob0:H.obj σ.next=some [.fz true .nils 0 [],.fz true .nils 0 [],.fz true .nils 0 []]:=by rw [kH.obj σ.next (Nat.lt_succ_self _),zH,if_pos rfl]
 simp only [pwA,seval,-iQ0,o1,o2];generalize hn:O.length=n at *
 refine zC (fun m vs h=>∃(i:Nat) (L:Nat→Nat) (vP vC:PV),i≤n∧m=n-i∧vs=[.ptr σ.next 0,.int .i64 n,.ptr H.next 0,.int .i64 n,.int .i64 i]∧TvX σ h O L (trP n i) (trC n i) σ.next H.next vO vP vC) n ?_ ?_
 ·obtain⟨L0,hL0⟩:∃L0:Nat→Nat,L0=fun t=>if t=σ.next+1∧t<H.next then 5 else 7:=⟨_,rfl⟩
  refine⟨0,L0,_,_,Nat.zero_le _,rfl,rfl,(((zB _ _).trans kH).new _),by rw [zH,if_neg (by omega)];exact ob0,by simp only [pwA,seval,-iQ0],⟨?_,.inl ⟨rfl,rfl⟩,.inl ⟨rfl,rfl⟩⟩,by rw [hL0];exact if_neg (by omega),by rw [hL0];exact if_neg (by omega),by omega,⟨Nat.le_refl _,by show σ.next<H.next+1;omega⟩,⟨by omega,by show H.next<H.next+1;omega⟩⟩
  rcases hO.2 with e|⟨cap,hc,e,q1,q2⟩
  ·exact .inl e
  ·have q2':σ.next+1<H.next:=q2
   exact .inr ⟨σ.next+1,cap,e,hc,by rw [zH,if_neg (by omega)];exact q1,by omega,by show σ.next+1<H.next+1;omega,by rw [hL0];exact if_pos ⟨rfl,q2'⟩⟩
 rintro m vs h ⟨i,L,vP,vC,hi,rfl,rfl,a⟩
 have hnn:=a.ns.2;simp only [pwA,seval,-iQ0];refine iteI (fun hlt=>?_) fun hge=>?_
 rotate_left
 ·have e:i=n:=by omega
  subst e;obtain⟨e1,e2,e3,e4⟩:=a.fin;simp only [pwA,seval,-iQ0,a.r3,e1,e2];exact hk L _ _ _ vC e3 e4
 have n1:¬H.next=h.next:=by omega
 have n2:¬H.next=h.next+1:=by omega
 simp only [pwA,seval,-iQ0,a.r1,n1,n2,qh,mk8 (n:=n) (by omega),Go.Ab.mkL (n:=n) (by omega)]
 have a1:=a.fresh (pis (List.replicate n 0)) 8;have hrow:RowX (mkM L h.next 8) (h.new (pis (List.replicate n 0))) σ.next 8 (List.replicate n 0) (.sl h.next 0 n (.known n)):=RowX.freshN (by simp) (by omega) (by simp [full])
 refine PX.pushP a1.pw hrow a1.keep (Nat.le_refl _) (by show σ.next≤h.next+1;omega) (by rw [zE0];omega) fun v1 h1 L1 k1 p1 l1 o1' m1=>?_
 rw [zF4]at p1
 have hs1:=a1.old m1;have w1:h1.wr H.next 1 [v1]=some (h1.set H.next [vO,v1,vC]):=by rw [qf hs1,if_pos ⟨by simp,by simp [p1.hP.one]⟩];rfl
 have a2:=a1.step k1 p1 (Nat.le_of_lt l1) m1;have l1':h.next+1<h1.next:=l1;have wi:IntKind.i64.wrap ((i:Int)+1)=((i+1:Nat):Int):=by rw [wrap64 (by omega) (by omega)];omega
 simp only [pwA,seval,-iQ0,w1,p1.hP.cells,wi];generalize hg2:h1.set H.next [vO,v1,vC]=g2 at *
 have hb2:H.next<g2.next:=by rw [←hg2];show _<h1.next;omega
 clear hs1 w1 m1 p1 k1 hrow a1 a o1';refine zC (fun m vs h=>∃(j:Nat) (L:Nat→Nat) (vR:PV),i+1≤j∧j≤n∧m=n-j∧vs=[.ptr σ.next 0,.int .i64 n,.ptr H.next 0,vR,.int .i64 j,.int .i64 n,.int .i64 i]∧TvX σ h O L (trP n (i+1)) (trC n i) σ.next H.next vO v1 vC∧MXN L h σ.next (10+i) (trJ n i (j-(i+1))) vR) (n-(i+1)) ?_ ?_
 ·exact⟨i+1,_,_,Nat.le_refl _,hlt,rfl,rfl,a2,.inl ⟨by rw [Nat.sub_self];rfl,rfl⟩⟩
 clear a2 hg2 l1 l1'
 rintro m vs h ⟨j,L,vR,hij,hj,rfl,rfl,a,mR⟩
 have hnn:=a.ns.2;have n1:¬H.next=h.next:=by omega
 simp only [pwA,seval,-iQ0];refine iteI (fun hjt=>?_) fun hge=>?_
 rotate_left
 ·have e:j=n:=by omega
  subst e;simp only [pwA,seval,-iQ0,a.r2,mR.one,mR.cells];refine PX.pushC a.pw (by rw [Qv];exact mR) a.keep (Nat.le_refl _) (by omega) (by rw [Qv];omega) fun v2 h2 L2 k2 p2 l2 o2' m2=>?_
  rw [show j-(i+1)=j-1-i by omega,zF6]at p2
  have w2:h2.wr H.next 2 [v2]=some (h2.set H.next [vO,v1,v2]):=by rw [qf (a.old m2),if_pos ⟨by simp,by simp [p2.hC.one]⟩];rfl
  have a2:=a.step k2 p2 (Nat.le_of_lt l2) m2;simp only [pwA,seval,-iQ0,w2,p2.hC.cells,wi];exact⟨_,by omega,i+1,L2,v1,v2,by omega,rfl,rfl,a2⟩
 simp only [pwA,seval,-iQ0];refine zB0 (by omega) hjt fun cap2 hc2=>?_
 have a1:=a.fresh (pis (unitL n j)) 8;have hrow:RowX (mkM L h.next 8) (h.new (pis (unitL n j))) σ.next 8 (unitL n j) (.sl h.next 0 n cap2):=RowX.freshN (ZV n j) (by omega) hc2
 simp only [pwA,seval,-iQ0];refine MXN.push (k:=10+i) (mR.keepF _ 8) (by omega) hrow a1.keep (Nat.le_refl _) (by show σ.next≤h.next+1;omega) (by rw [zE1];omega) fun v2 h2 L2 k2 p2 l2 hL2 ho2 _=>?_
 have e:unitL n j=unitL n (i+1+(j-(i+1))):=by rw [show i+1+(j-(i+1))=j by omega]
 rw [e,zF5]at p2
 have wj:IntKind.i64.wrap ((j:Int)+1)=((j+1:Nat):Int):=by rw [wrap64 (by omega) (by omega)];omega
 simp only [pwA,seval,-iQ0,wj];refine⟨_,by omega,j+1,L2,v2,by omega,by omega,rfl,rfl,a1.keepM k2 (Nat.le_of_lt l2) (i:=i) ho2 hL2 (by rw [Qv];exact Nat.le_refl _),?_⟩
 rw [show j+1-(i+1)=j-(i+1)+1 by omega];exact .inr p2
end Go.Proofs
namespace Go.Grp
end Go.Grp
namespace Go.Proofs
open Go.Ab Go.Lie Go.Grp
variable {σ σ0 h h':PHeap} {K:PV→PHeap→Prop} {b t k r s0 i j:Nat} {L L':Nat→Nat} {v vO vP vC c vX vL:PV} {x O:List Int} {P M:List (List Int)} {C:List (List (List Int))} {cs:List PV} {s:List UInt8}
theorem zOi {g:PHeap} (hv:PAcc b 1 h v O.length (pis O)) (hl:O.length≤1000000) (kg:Keep h g) (k':∀v g',CloR g g' O v→K v g'):zA Tryz.prog 63 [v] g K:=by
 have fin:∀cap,full 1 cap O.length→K (.sl g.next 0 O.length cap) (g.new (pis O)):=fun cap hc=>k' _ _ ⟨zB _ _,.inr ⟨cap,hc,rfl,by rw [zH,if_pos rfl],Nat.lt_succ_self _⟩⟩
 rcases hv with ⟨rfl,h0,_⟩|⟨so,cap,rfl,hc,q1,q2,q3,q4⟩
 ·have e:O=[]:=List.eq_nil_of_length_eq_zero h0
  subst e;exact zA8 (xs:=[]) rfl (by simp) ⟨fun _=>k' _ _ ⟨Keep.refl _,.inl ⟨rfl,rfl⟩⟩,fin⟩
 ·have:=kg.next
  exact zNY (by rw [ZE (by rw [kg.obj _ q4];exact q1),List.drop_zero,if_pos (by rw [zG];omega),List.take_of_length_le (by rw [zG];exact Nat.le_refl _)]) (by omega) rfl hl fin
theorem PAcc.pLen1 (hv:PAcc b 1 h v t cs):pLen v=some (.int .i64 t):=by
 rcases hv with ⟨rfl,rfl,_⟩|⟨so,cap,rfl,_⟩<;>rfl
mutual
theorem zIY {b':Nat} (hb:b'≤b):∀{t:TR},t.ok h b→t.ok h b'
 | .leaf v,a=>a
 | .nil,_=>trivial
 | .lst s cap kids,a=>⟨⟨a.1.1,a.1.2.1,Nat.le_trans hb a.1.2.2.1,a.1.2.2.2⟩,zBd hb a.2⟩
 | .cut s off l cap kids,a=>a.elim
 | .agg kids,a=>zBd (ts:=kids) hb a
 | .tup kids,a=>zBd (ts:=kids) hb a
theorem zBd {b':Nat} (hb:b'≤b):∀{ts:List TR},TR.oks h b ts→TR.oks h b' ts
 | [],_=>trivial
 | t::ts,a=>⟨zIY hb a.1,zBd hb a.2⟩
end
theorem PX.finO2b {e:Bool} (a:PX L b h O P C vO vP vC) (hk:Keep σ h) (hb:σ.next≤b) (k:∀wO wP wC t,IsPr wO wP wC O P C→Owns σ.top t [wO,wP,wC]→σ.top≤t→K (.tup [.agg [wO,wP,wC],.bool e]) (σ.up t)):Gh σ K (.tup [.agg [vO,vP,vC],.bool e]) h:=by
 obtain⟨t1,t2,t3,h1,rfl,rfl,rfl,h3,h4⟩:=a.treeN;have et:(TR.tup [TR.agg [t1,t2,t3],.leaf (.bool e)]).pv=.tup [.agg [t1.pv,t2.pv,t3.pv],.bool e]:=by simp only [TR.pv,TR.pvs]
 rw [←et];refine Gh.treeO hk (zIY hb (t:=TR.tup [TR.agg [t1,t2,t3],.leaf (.bool e)]) ⟨h1,trivial,trivial⟩) ?_ fun aa T ho hT=>?_
 ·simpa only [TR.slots,TR.slotss,List.append_nil]using h4
 ·simp only [TR.fz,TR.fzs]at ho ⊢
  refine k _ _ _ T (h3 aa) ⟨ho.wh.1,?_,fun o q=>ho.lt o ?_⟩ hT
  ·have:=ho.nd
   simp only [ead,eads,List.append_nil]at this ⊢
   exact this
  ·simp only [ead,eads,List.append_nil]at q ⊢
   exact q
def ordI:List Int→List (List UInt8)→Option (List Int)
 | acc,[]=>some acc
 | acc,q::r=>match Lib.parseIntB 64 q with | .ok v=>ordI (acc++[v]) r | _=>none
def orI (p0:List UInt8):Option (List Int):=if p0=[49]then some []else ordI [] (splL [32] p0)
def relK (n:Nat) (P:List (List Int)) (C:List (List (List Int))) (v:List Int) (j:Nat) (i:Option Nat):List (List Int)×List (List (List Int)):=
 match i with
 | none=>(P.set j v,C)
 | some i=>if i<j then(P,C.set i ((C.getD i []).set (j-i-1) v))else(P,C)
def relP (n:Nat) (P:List (List Int)) (C:List (List (List Int))) (s:List UInt8):Option (List (List Int)×List (List (List Int))):=
 match exF n (Lib.cut s [61]).2.1 with
 | none=>none
 | some v=>match geF n (Lib.cut (Lib.cut s [61]).1 [94]).1 with
  | none=>none
  | some j=>some (relK n P C v j (geF n (Lib.cut (Lib.cut s [61]).1 [94]).2.1))
def foldI (n:Nat):List (List Int)×List (List (List Int))→List (List UInt8)→Option (List (List Int)×List (List (List Int)))
 | pc,[]=>some pc
 | pc,s::r=>match relP n pc.1 pc.2 s with | none=>none | some pc'=>foldI n pc' r
def lpJ (O:List Int) (r:List (List UInt8)):Option (List Int×List (List Int)×List (List (List Int))):=
 if 6<O.length then none else match foldI O.length (trP O.length O.length,trC O.length O.length) r with | none=>none | some pc=>some (O,pc.1,pc.2)
def lpH (O:Option (List Int)) (r:List (List UInt8)):Option (List Int×List (List Int)×List (List (List Int))):=match O with | none=>none | some O=>lpJ O r
def lpI (s:List UInt8):Option (List Int×List (List Int)×List (List (List Int))):=lpH (orI ((splL [59,32] s).getD 0 [])) ((splL [59,32] s).drop 1)
theorem Sq.sz (q:Sq O P C) (hO:O.length≤6):SzP O P C:=by
 refine⟨by omega,⟨by rw [q.pl];omega,fun r hr=>by have:=q.pq r hr;omega⟩,⟨by rw [q.cl];omega,fun w hw=>⟨?_,fun r hr=>by have:=q.cq w hw r hr;omega⟩⟩⟩
 obtain⟨i,hi,rfl⟩:=List.mem_iff_getElem.1 hw
 have:=q.row i (by rw [←q.cl];exact hi)
 rw [List.getD_eq_getElem?_getD,List.getElem?_eq_getElem hi]at this
 have e:C[i].length=O.length-1-i:=this;omega
def relQ (n:Nat) (P:List (List Int)) (C:List (List (List Int))) (v:Option (List Int)) (j i:Option Nat):Option (List (List Int)×List (List (List Int))):=
 match v with
 | none=>none
 | some v=>match j with
  | none=>none
  | some j=>some (relK n P C v j i)
theorem zNu (n:Nat) (P:List (List Int)) (C:List (List (List Int))) (s:List UInt8):relP n P C s=relQ n P C (exF n (Lib.cut s [61]).2.1) (geF n (Lib.cut (Lib.cut s [61]).1 [94]).1) (geF n (Lib.cut (Lib.cut s [61]).1 [94]).2.1):=rfl
theorem zLX (s p:List UInt8):(Lib.cut s p).1.length≤s.length∧(Lib.cut s p).2.1.length≤s.length:=by
 unfold Lib.cut
 split
 ·simp only [List.length_take,List.length_drop];omega
 ·exact⟨Nat.le_refl _,Nat.zero_le _⟩
set_option maxHeartbeats 3200000 in
theorem zCM (hs:s.length≤1048576) (hne:(splL [59,32] s).getD 0 []≠[49]) (hk0:(∀O P C,lpI s=some (O,P,C)→qE O P C→prT O P C≠s)→K (.tup [.agg [.fz true .nils 0 [],.fz true .nils 0 [],.fz true .nils 0 []],.bool false]) σ)
  (hk1:∀wO wP wC O P C t,lpI s=some (O,P,C)→qE O P C→prT O P C=s→IsPr wO wP wC O P C→Owns σ.top t [wO,wP,wC]→σ.top≤t→K (.tup [.agg [wO,wP,wC],.bool true]) (σ.up t)):zA Tryz.prog 61 [.str s] σ K:=by
 have fin0:∀{g:PHeap},Keep σ g→g.obj σ.next=some [.fz true .nils 0 [],.fz true .nils 0 [],.fz true .nils 0 []]→(∀O P C,lpI s=some (O,P,C)→qE O P C→prT O P C≠s)→
   g.wr σ.next 0 [.fz true .nils 0 [],.fz true .nils 0 [],.fz true .nils 0 []]=some (g.set σ.next [.fz true .nils 0 [],.fz true .nils 0 [],.fz true .nils 0 []])∧(g.set σ.next [.fz true .nils 0 [],.fz true .nils 0 [],.fz true .nils 0 []]).rd σ.next 0 3=some [.fz true .nils 0 [],.fz true .nils 0 [],.fz true .nils 0 []]∧
   Gh σ K (.tup [.agg [.fz true .nils 0 [],.fz true .nils 0 [],.fz true .nils 0 []],.bool false]) (g.set σ.next [.fz true .nils 0 [],.fz true .nils 0 [],.fz true .nils 0 []]):=fun {g} kg ho e=>
  ⟨by rw [qf ho,if_pos ⟨by simp,rfl⟩];rfl,by rw [Zu,if_pos rfl];rfl,Gh.fin0 (kg.set (Nat.le_refl _) _) ⟨⟨trivial,trivial,trivial,trivial⟩,trivial,trivial⟩ (hk0 e)⟩
 have no:∀{A:Prop},lpI s=none→∀O P C,lpI s=some (O,P,C)→qE O P C→prT O P C≠s:=fun {_} e O P C e'=>by rw [e]at e';cases e'
 refine zA.gh ?_;refine qV mix Tryz.func61 cf61 rfl ?_;dsimp only [if61,qI,eI,mI0,kI0,tI0,lI0,LI0,fI0,xI0,bI0,cI0,nI0,sI0,eI0,C1,C2,I0,G0,gm0,oI0,zI0,yI0,vI0,R0,S0];simp only [pwA,seval,-iQ0];refine zHR (sep:=[59,32]) hs (by decide) ?_
 have eS:lpI s=lpH (orI ((splL [59,32] s).getD 0 [])) ((splL [59,32] s).drop 1):=rfl;have sl:=zDl (s:=s) (sep:=[59,32]) (by decide)
 have hll:=zFN (s:=s) (sep:=[59,32]);have sl1:1≤(splL [59,32] s).length:=by rw [sl.1];omega
 have sl2:=sl.2;clear sl;generalize splL [59,32] s=l at *
 have z0:(0:Int)<(l.length:Int):=by omega
 have z0':0<l.length:=by omega
 rw [show l.getD 0 []=l[0] by rw [List.getD_eq_getElem?_getD,List.getElem?_eq_getElem z0'];rfl]at eS hne
 have hpo:((σ.new [.fz true .nils 0 [],.fz true .nils 0 [],.fz true .nils 0 []]).new (pst l)).obj (σ.next+1)=some (pst l):=by simp only [pwA,seval,-iQ0]
 have hr0:((σ.new [.fz true .nils 0 [],.fz true .nils 0 [],.fz true .nils 0 []]).new (pst l)).obj σ.next=some [.fz true .nils 0 [],.fz true .nils 0 [],.fz true .nils 0 []]:=by simp only [pwA,seval,-iQ0]
 have kk:Keep σ ((σ.new [.fz true .nils 0 [],.fz true .nils 0 [],.fz true .nils 0 []]).new (pst l)):=(zB _ _).new _;have hln:σ.next+1<((σ.new [.fz true .nils 0 [],.fz true .nils 0 [],.fz true .nils 0 []]).new (pst l)).next:=by show σ.next+1<σ.next+2;omega
 have hrd:((σ.new [.fz true .nils 0 [],.fz true .nils 0 [],.fz true .nils 0 []]).new (pst l)).rd1 (σ.next+1) 0=some (.str l[0]):=by rw [zi hpo];exact Zt z0'
 rw [show(σ.new [.fz true .nils 0 [],.fz true .nils 0 [],.fz true .nils 0 []]).next=σ.next+1 from rfl]
 generalize (σ.new [.fz true .nils 0 [],.fz true .nils 0 [],.fz true .nils 0 []]).new (pst l)=h at *
 have h1:¬l[0]=[49]:=hne;have eS2:lpI s=lpH (ordI [] (splL [32] l[0])) (l.drop 1):=by rw [eS,orI,if_neg h1]
 clear eS;have hq0:l[0].length≤1048576:=by have:=hll _ (List.getElem_mem z0');omega
 have bne:(l[0] == [49])=false:=by simpa using h1
 simp only [pwA,seval,-iQ0,z0,z0',hrd,bne];refine zHR (sep:=[32]) hq0 (by decide) ?_
 have tl:=zDl (s:=l[0]) (sep:=[32]) (by decide)
 have tll:=zFN (s:=l[0]) (sep:=[32]);have tl2:=tl.2;clear tl;generalize splL [32] l[0]=ws at *
 have hpo2:(h.new (pst ws)).obj (σ.next+1)=some (pst l):=by rw [zH,if_neg (by omega)];exact hpo
 have hr2:(h.new (pst ws)).obj σ.next=some [.fz true .nils 0 [],.fz true .nils 0 [],.fz true .nils 0 []]:=by rw [zH,if_neg (by omega)];exact hr0
 have hw2:(h.new (pst ws)).obj h.next=some (pst ws):=by rw [zH,if_pos rfl]
 have kk2:Keep σ (h.new (pst ws)):=kk.new _;have hln2:σ.next+1<(h.new (pst ws)).next∧h.next<(h.new (pst ws)).next:=⟨by show _<h.next+1;omega,Nat.lt_succ_self _⟩
 generalize h.new (pst ws)=h0 at *
 simp only [pwA,seval,-iQ0];refine zC (fun m vs g=>∃(i:Nat) (v:PV) (O:List Int),i≤ws.length∧m=ws.length-i∧vs=[.str s,.ptr σ.next 0,.sl (σ.next+1) 0 l.length (.known l.length),v,.sl h.next 0 ws.length (.known ws.length),.int .i64 ws.length,.int .i64 i]∧O.length=i∧Keep h0 g∧PAcc h0.next 1 g v O.length (pis O)∧ordI O (ws.drop i)=ordI [] ws) ws.length ?_ ?_
 ·exact⟨0,_,[],Nat.zero_le _,rfl,rfl,rfl,Keep.refl _,PAcc.nil _ _ _,rfl⟩
 clear kk hpo hr0 hrd
 rintro m vs g ⟨i,v,O,hi,rfl,rfl,hOl,kg,hv,eL⟩
 have kk:Keep σ g:=kk2.trans kg;have hpo:g.obj (σ.next+1)=some (pst l):=by rw [kg.obj _ hln2.1];exact hpo2
 have hr0:g.obj σ.next=some [.fz true .nils 0 [],.fz true .nils 0 [],.fz true .nils 0 []]:=by rw [kg.obj _ (by omega)];exact hr2
 have hone:=hv.one;simp only [pwA,seval,-iQ0,hone];refine iteI (fun hlt=>?_) fun hge=>?_
 ·have hlt':(i:Int)<(ws.length:Int):=by omega
  have rq:g.rd1 h.next i=some (.str ws[i]):=by rw [zi (by rw [kg.obj _ hln2.2];exact hw2)];exact Zt hlt
  have hqi:=tll _ (List.getElem_mem hlt);rw [drop_at hlt,ordI]at eL
  have wi:=wrapS hlt (by omega:ws.length≤4611686018427387904)
  simp only [pwA,seval,-iQ0,hlt,hlt',rq,hone];refine zIU (by omega) (fun hp n=>?_) fun n hp=>?_
  ·obtain⟨f1,f2,f3⟩:=fin0 kk hr0 (no (A:=True) (by
    rw [eS2,←eL];cases hq:Lib.parseIntB 64 ws[i]with
    | ok v=>exact absurd hq (hp v)
    | «syntax»=>rfl
    | range=>rfl))
   simp only [pwA,seval,-iQ0,f1,f2];exact f3
  rw [hp]at eL
  simp only [pwA,seval,-iQ0,hone];refine PAcc.push (bytes:=8) kg hv (by omega) (by omega) fun v' g' k' a'=>?_
  have h1':=a'.one;simp only [pwA,seval,-iQ0,h1',wi];have e:pis (O++[n])=pis O++[.int .i64 n]:=by simp [pis]
  exact⟨_,by omega,i+1,v',O++[n],by omega,rfl,rfl,by rw [List.length_append,hOl];rfl,k',by rw [e,List.length_append];exact .inr a',eL⟩
 rw [List.drop_of_length_le (by omega),ordI]at eL
 rw [←eL]at eS2
 have eL2:lpI s=lpJ O (l.drop 1):=eS2;clear eS2 eL;have hng:=kg.next;have hln3:σ.next+1<g.next:=by omega
 have hv3:PAcc σ.next 1 g v O.length (pis O):=hv.low (by have:=kk2.next;omega)
 clear hln hone hv kg kk2 hpo2 hr2 hw2 hge;generalize hgg:g=h9 at *
 have hl:=PAcc.pLen1 hv3;have hon1:=hv3.one
 by_cases h6:6<O.length
 ·have d6:(6:Int)<(O.length:Int):=by omega
  obtain⟨f1,f2,f3⟩:=fin0 kk hr0 (no (A:=True) (by rw [eL2,lpJ,if_pos h6]))
  simp only [pwA,seval,-iQ0,hon1,hl,d6,f1,f2];exact f3
 have d6:¬(6:Int)<(O.length:Int):=by omega
 rw [lpJ,if_neg h6]at eL2
 have eF:∀pc,foldI O.length (trP O.length O.length,trC O.length O.length) (l.drop 1)=pc→lpI s=match pc with | none=>none | some pc=>some (O,pc.1,pc.2):=fun pc e=>by rw [eL2,e]
 clear eL2;simp only [pwA,seval,-iQ0,hon1,hl,d6];refine zCD hl (by omega) (fun {g K'} kg k'=>zOi hv3 (by omega) kg k') fun L h2 vO vP vC k2 p2=>?_
 have hn2:=k2.next;have hq:=tr_sq O;have a:=TBX.start p2 (r:=σ.next) (by omega) (by rw [k2.obj _ (by omega)];exact hr0) k2.next
 have o1:=p2.hO.one;have o2:=p2.hP.one;have o3:=p2.hC.one;have b1:1≤l.length:=by omega
 have b1':(1:Int)≤(l.length:Int):=by omega
 have e1:((l.length:Int)-1).toNat=l.length-1:=by omega
 obtain⟨of,hof⟩:∃of,of=if l.length=1 then 0 else 1:=⟨_,rfl⟩
 have hof1:1<l.length→of=1:=fun h=>by rw [hof,if_neg (by omega)]
 simp only [pwA,seval,-iQ0,o1,o2,o3,b1,b1',←hof,Option.isNone_none,Option.isSome_none,Bool.false_eq_true,and_false,if_false,e1];clear hof;refine zC (fun m vs g=>∃(i:Nat) (L:Nat→Nat) (P:List (List Int)) (C:List (List (List Int))),i≤l.length-1∧m=l.length-1-i∧vs=[.str s,.ptr σ.next 0,.int .i64 O.length,.ptr h2.next 0,.sl (σ.next+1) of (l.length-1) (.known (l.length-1)),.int .i64 (l.length-1:Nat),.int .i64 i]∧Keep h9 g∧TBX h9.next g O L P C σ.next h2.next vO vP vC∧Sq O P C∧foldI O.length (P,C) (l.drop (i+1))=foldI O.length (trP O.length O.length,trC O.length O.length) (l.drop 1)) (l.length-1) ?_ ?_
 ·exact⟨0,_,_,_,Nat.zero_le _,rfl,rfl,k2.new _,a,hq,rfl⟩
 clear a p2 k2 hq
 rintro m vs g ⟨i,L,P,C,hi,rfl,rfl,kg,a,hq,eL⟩
 have kσ:Keep σ g:=kk.trans kg;have hng:=kg.next;have hpg:g.obj (σ.next+1)=some (pst l):=by rw [kg.obj _ hln3];exact hpo
 simp only [pwA,seval,-iQ0];refine iteI (fun hlt=>?_) fun hge=>?_
 ·have hlt':(i:Int)<((l.length-1:Nat):Int):=by omega
  have hli:i+1<l.length:=by omega
  have rq:g.rd1 (σ.next+1) (of+i)=some (.str l[i+1]):=by rw [zi hpg,hof1 (by omega),show 1+i=i+1 by omega];exact Zt hli
  have hql:=hll _ (List.getElem_mem hli);rw [drop_at hli,foldI]at eL
  have wi:=wrapS hlt (by omega:l.length-1≤4611686018427387904)
  simp only [pwA,seval,-iQ0,hlt,hlt',rq];generalize l[i+1]=q at *
  refine zLl (sep:=[61]) (by omega) ?_
  simp only [pwA,seval,-iQ0];have c1:=zLX q [61];have er:relP O.length P C q=relQ O.length P C (exF O.length (Lib.cut q [61]).2.1) (geF O.length (Lib.cut (Lib.cut q [61]).1 [94]).1) (geF O.length (Lib.cut (Lib.cut q [61]).1 [94]).2.1):=zNu _ _ _ _;refine zLl (sep:=[94]) (by omega) ?_
  simp only [pwA,seval,-iQ0];have c2:=zLX (Lib.cut q [61]).1 [94];generalize (Lib.cut (Lib.cut q [61]).1 [94]).2.1=q3 at *
  generalize (Lib.cut (Lib.cut q [61]).1 [94]).1=q2 at *
  generalize (Lib.cut q [61]).2.1=q1 at *
  refine zFI (n:=O.length) (by omega) (by omega) (fun ee v h3 k3 v1=>?_) fun ys ee hys=>?_
  ·rw [ee]at er
   rw [er]at eL
   have eN:=eF none eL.symm;have a3:=a.keep k3;have kσ3:=kσ.trans k3;simp only [pwA,seval,-iQ0,v1];refine Q5 (n:=O.length) (by omega) (by omega) (fun _=>?_) fun j _=>?_
   ·obtain⟨f1,f2,f3⟩:=fin0 kσ3 a3.res (no (A:=True) eN)
    simp only [pwA,seval,-iQ0,f1,f2];exact f3
   ·obtain⟨f1,f2,f3⟩:=fin0 kσ3 a3.res (no (A:=True) eN)
    simp only [pwA,seval,-iQ0,f1,f2];exact f3
  rw [ee]at er
  have a3:=a.fresh (pis ys) 8;have hrow:RowX (mkM L g.next 8) (g.new (pis ys)) h9.next 8 ys (.sl g.next 0 O.length (.known O.length)):=RowX.freshN hys hng (by simp [full])
  have kσ3:=kσ.new (pis ys);have kg3:=kg.new (pis ys);have hng3:g.next<(g.new (pis ys)).next:=Nat.lt_succ_self _;generalize hg3:g.new (pis ys)=g3 at *
  simp only [pwA,seval,-iQ0];refine Q5 (n:=O.length) (by omega) (by omega) (fun eg=>?_) fun j eg=>?_
  ·rw [eg]at er
   rw [er]at eL
   have eN:=eF none eL.symm;obtain⟨f1,f2,f3⟩:=fin0 kσ3 a3.res (no (A:=True) eN);simp only [pwA,seval,-iQ0,f1,f2];exact f3
  rw [eg]at er
  have hj:=zLK eg;have hj':(j:Int)<(O.length:Int):=by omega
  simp only [pwA,seval,-iQ0];refine Q5 (n:=O.length) (by omega) (by omega) (fun ei=>?_) fun i2 ei=>?_
  ·rw [ei]at er
   rw [er]at eL
   obtain⟨sP,cap,ds,L2,eP,w1,w2,w3,a4⟩:=a3.putP (by rw [hq.pl];exact hj) hrow
   rw [hq.pl]at eP
   subst eP;simp only [pwA,seval,-iQ0,a3.r1,hj,hj',w3,wi];exact⟨_,by omega,i+1,L2,_,_,by omega,rfl,rfl,kg3.set w1 _,a4,sq_P hq hys _,eL⟩
  rw [ei]at er
  have hi2:=zLK ei;have hi2':(i2:Int)<(O.length:Int):=by omega
  by_cases hij:i2<j
  ·have hij':(i2:Int)<(j:Int):=by omega
   rw [er,relQ,relK,if_pos hij]at eL
   have hjj:j-i2-1<O.length-1-i2:=by omega
   have hjj':((j-i2-1:Nat):Int)<((O.length-1-i2:Nat):Int):=by omega
   have wk:IntKind.i64.wrap ((j:Int)-(i2:Int))=(j:Int)-(i2:Int):=wrap64 (by omega) (by omega)
   have wk1:IntKind.i64.wrap ((j:Int)-(i2:Int)-1)=((j-i2-1:Nat):Int):=by rw [wrap64 (by omega) (by omega)];omega
   obtain⟨sC,cap,t,cap',ds,L2,eC,rC,w1,w2,w3,w4,w5,a4⟩:=a3.putC (by rw [hq.cl];exact hi2) (by rw [hq.row i2 hi2];exact hjj) hrow
   rw [hq.cl]at eC
   subst eC;rw [hq.row i2 hi2]at rC
   simp only [pwA,seval,-iQ0,hij',a3.r2,rC,hi2,hi2',hjj,hjj',wk,wk1,w5,wi];exact⟨_,by omega,i+1,L2,_,_,by omega,rfl,rfl,kg3.set w3 _,a4,sq_C hq hys _ _,eL⟩
  ·have hij':¬(i2:Int)<(j:Int):=by omega
   rw [er,relQ,relK,if_neg hij]at eL
   simp only [pwA,seval,-iQ0,hij',wi];exact⟨_,by omega,i+1,_,_,_,by omega,rfl,rfl,kg3,a3,hq,eL⟩
 have eF':lpI s=some (O,P,C):=eF (some (P,C)) (by rw [←eL,List.drop_of_length_le (by omega),foldI])
 have un:∀{O' P' C'},lpI s=some (O',P',C')→O'=O∧P'=P∧C'=C:=fun {O' P' C'} e=>by rw [eF']at e;cases e;exact⟨rfl,rfl,rfl⟩
 obtain⟨t1,t2,t3,hok,rfl,rfl,rfl,hpr,hnd⟩:=a.pw.treeN;simp only [pwA,seval,-iQ0,a.r3];refine zA.thawV (ts:=[t1,t2,t3]) hok fun aa=>QH (hpr aa) (hq.sz (by omega)) fun t ht=>⟨trivial,?_⟩
 cases t
 ·obtain⟨f1,f2,f3⟩:=fin0 kσ a.res (fun O' P' C' e hp=>by obtain⟨rfl,rfl,rfl⟩:=un e;exact absurd (ht.2 hp) (by decide))
  simp only [pwA,seval,-iQ0,f1,f2];exact f3
 simp only [pwA,seval,-iQ0];refine zA.thawP (ts:=[t1,t2,t3]) a.ob hok fun aa=>zCR (hpr aa) (ht.1 rfl) ⟨trivial,?_⟩
 by_cases hps:prT O P C=s
 ·obtain⟨f1,f2,f3⟩:=a.fin
  have hbe:(prT O P C == s)=true:=by rw [hps];simp
  simp only [pwA,seval,-iQ0,hbe,a.r3,f1,f2];exact f3.finO2b (kσ.set (Nat.le_refl _) _) (by omega) fun wO wP wC t h1 h2 h3=>hk1 wO wP wC O P C t eF' (ht.1 rfl) hps h1 h2 h3
 ·obtain⟨f1,f2,f3⟩:=fin0 kσ a.res (fun O' P' C' e hp=>by obtain⟨rfl,rfl,rfl⟩:=un e;exact hps)
  have hbe:(prT O P C == s)=false:=by simpa using hps
  simp only [pwA,seval,-iQ0,hbe,f1,f2];exact f3
end Go.Proofs
namespace Go.Grp
end Go.Grp
set_option linter.unusedSimpArgs false
set_option linter.unusedVariables false
set_option linter.unusedSectionVars false
namespace Go.Proofs
open Go.Ab Go.Lie Go.Grp
instance (O x:List Int):Decidable (isExp O x):=by unfold isExp;infer_instance
instance (O x:List Int) (t:Nat):Decidable (Zb O t x):=by unfold Zb;infer_instance
instance (O:List Int) (P:List (List Int)) (C:List (List (List Int))) (i:Nat):Decidable (rowPr O P C i):=by unfold rowPr;infer_instance
instance (O:List Int) (P:List (List Int)) (C:List (List (List Int))):Decidable (qE O P C):=by unfold qE;infer_instance
def testT:List (List UInt8):=[[50],[51],[50,32,50,59,32,97,94,50,61,98],[53],[55],[50,32,51,59,32,98,94,97,61,98,98],[51,32,51,59,32,97,94,51,61,98],[50,32,50,32,50,59,32,97,94,50,61,98,59,32,98,94,50,61,99],[50,32,50,32,50,59,32,98,94,97,61,98,99],[50,32,50,32,50,59,32,97,94,50,61,99,59,32,98,94,50,61,99,59,32,98,94,97,61,98,99]]
def tstO (t:List UInt8):Bool:=
 match lpsF t with
 | none=>false
 | some (O,P,C)=>decide (lpI t=some (O,P,C)) && decide (qE O P C) && decide (prT O P C=t) && decide ((splL [59,32] t).getD 0 []≠[49]) && decide (t.length≤1000)
theorem zIt:testT.all tstO=true:=by decide +kernel
end Go.Proofs
namespace Go.Grp
end Go.Grp
set_option linter.unusedSimpArgs false
set_option linter.unusedVariables false
namespace Go.Proofs
open Go.Ab Go.Lie Go.Grp
variable {σ h h':PHeap} {K:PV→PHeap→Prop} {O:List Int} {P:List (List Int)} {C:List (List (List Int))} {vO vP vC vx vM vA v:PV} {x:List Int} {A M:List (List Int)} {sp se:Nat} {rows:List SR}
def nEl (O:List Int):Nat:=(ordF O O.length).toNat
theorem zGh (s:Shp O P C):ordF O O.length=(nEl O:Int)∧1≤nEl O:=by
 have h1:=zC0 s.pr (i:=O.length) (Nat.le_refl _);unfold nEl;omega
end Go.Proofs
namespace Go.Grp
end Go.Grp
set_option linter.unusedSimpArgs false
set_option linter.unusedVariables false
namespace Go.Proofs
open Go.Ab Go.Lie Go.Grp
variable {σ h h':PHeap} {K:PV→PHeap→Prop} {O:List Int} {P:List (List Int)} {C:List (List (List Int))} {vO vP vC vx vM vA v:PV} {x:List Int} {A M:List (List Int)} {sp se:Nat}
theorem Owns.append {lo t hi:Nat} {a b:List PV} (h:Owns lo t a) (g:Owns t hi b) (hl:lo≤t) (ht:t≤hi):Owns lo hi (a++b):=by
 refine⟨qc.2 fun c hc=>?_,?_,fun o ho=>?_⟩
 ·rcases List.mem_append.1 hc with hc | hc
  ·exact qc.1 h.wh c hc
  ·exact qc.1 g.wh c hc
 ·rw [qA,List.nodup_append]
  refine⟨h.nd,g.nd,fun x hx y hy e=>?_⟩
  have:=h.lt x hx
  have:=g.lt y hy
  omega
 ·rw [qA,List.mem_append]at ho
  rcases ho with ho|ho
  ·have:=h.lt o ho;omega
  ·have:=g.lt o ho;omega
theorem zLN {w:Bool} {a:AV}:FG (.fz w a 0 []) []:=⟨w,a,[],rfl,All2.nil _⟩
end Go.Proofs
namespace Go.Grp
end Go.Grp
set_option linter.unusedSimpArgs false
set_option linter.unusedVariables false
namespace Go.Proofs
open Go.Ab Go.Lie Go.Grp
variable {σ h hE:PHeap} {K:PV→PHeap→Prop} {O x:List Int} {P:List (List Int)} {C:List (List (List Int))}
theorem Owns.comm {lo hi:Nat} {a b:List PV} (h:Owns lo hi (a++b)):Owns lo hi (b++a):=by
 have hw:=qc.1 h.wh;have nd:=h.nd;rw [qA]at nd
 refine⟨qc.2 fun c hc=>hw c ?_,?_,fun o ho=>h.lt o ?_⟩
 ·rw [List.mem_append]at hc ⊢;exact hc.symm
 ·rw [qA];exact List.perm_append_comm.nodup_iff.1 nd
 ·rw [qA,List.mem_append]at ho ⊢;exact ho.symm
end Go.Proofs
namespace Go.Grp
end Go.Grp
set_option linter.unusedSimpArgs false
set_option linter.unusedVariables false
set_option linter.unusedSectionVars false
namespace Go.Proofs
open Go.Ab Go.Lie Go.Grp
variable {σ h:PHeap} {K:PV→PHeap→Prop} {b t k n:Nat} {v vO vP vC:PV} {x O:List Int} {P:List (List Int)} {C:List (List (List Int))} {cs:List PV} {s:List UInt8}
theorem zO5 {t:List UInt8} (ht:t∈testT):∃O P C,lpsF t=some (O,P,C)∧lpI t=some (O,P,C)∧qE O P C∧prT O P C=t∧(splL [59,32] t).getD 0 []≠[49]∧t.length≤1000:=by
 have h:=List.all_eq_true.1 zIt t ht;unfold tstO at h
 split at h
 ·cases h
 ·next O P C e=>
  simp only [Bool.and_eq_true,decide_eq_true_eq]at h
  exact⟨O,P,C,e,h.1.1.1.1,h.1.1.1.2,h.1.1.2,h.1.2,h.2⟩
def tsV (t:List UInt8):Pre:=(lpsF t).getD ([],[],[])
theorem zCC {t:List UInt8} (ht:t∈testT):lpsF t=some (tsV t)∧lpI t=some (tsV t)∧qE (tsV t).1 (tsV t).2.1 (tsV t).2.2∧prT (tsV t).1 (tsV t).2.1 (tsV t).2.2=t∧(splL [59,32] t).getD 0 []≠[49]∧t.length≤1000:=by
 obtain⟨O,P,C,h1,h2,h3,h4,h5,h6⟩:=zO5 ht;have e:tsV t=(O,P,C):=by unfold tsV;rw [h1];rfl
 rw [e];exact⟨h1,h2,h3,h4,h5,h6⟩
def testG:List Pre:=testT.map tsV
theorem Zz:testG.length=10:=rfl
theorem zB9 {q:List UInt8} (hq:q∈testT) (hk:∀wO wP wC,IsPr wO wP wC (tsV q).1 (tsV q).2.1 (tsV q).2.2→K (.tup [.agg [wO,wP,wC],.int .i64 0]) σ):zA Tryz.prog 21 [.str q] σ K:=by
 obtain⟨h1,_,h3,h4,_,h6⟩:=zCC hq;refine zCA (by omega) (fun e=>absurd h4 (e _ _ _ h1 h3)) fun wO wP wC O P C e _ _ hR=>hk wO wP wC ?_
 have e2:tsV q=(O,P,C):=Option.some.inj (h1.symm.trans e);rw [e2];exact hR
theorem zCL {q:List UInt8} (hq:q∈testT) (hk:∀wO wP wC t,IsPr wO wP wC (tsV q).1 (tsV q).2.1 (tsV q).2.2→Owns σ.top t [wO,wP,wC]→σ.top≤t→K (.tup [.agg [wO,wP,wC],.bool true]) (σ.up t)):zA Tryz.prog 61 [.str q] σ K:=by
 obtain⟨_,h2,h3,h4,h5,h6⟩:=zCC hq;refine zCM (by omega) h5 (fun e=>absurd h4 (e _ _ _ h2 h3)) fun wO wP wC O P C t e _ _ hR ho ht=>hk wO wP wC t ?_ ho ht
 have e2:tsV q=(O,P,C):=Option.some.inj (h2.symm.trans e);rw [e2];exact hR
theorem zH6 (hk:K (.sl σ.next 0 10 (.known 10)) (σ.new (pst testT))):zA Tryz.prog 20 [] σ K:=by
 refine qV mix Tryz.func20 cf20 rfl ?_;dsimp only [if20,eI,mI0,zI0,R0,S0];simp only [pwA,seval,-iQ0];exact hk
theorem zDy:∀(rows:List (PV×PV×PV)) (q:PV×PV×PV),fl3 (rows++[q])=fl3 rows++[q.1,q.2.1,q.2.2]
 | [],q=>rfl
 | r::rows,q=>by simp only [List.cons_append,fl3,zDy rows q]
theorem Own.inner {lo hi n:Nat} {a:AV} {cs:List PV} {w:Bool} (ho:Own lo hi (.fz w a n cs)):Owns lo hi cs:=by
 by_cases he:cs=[]
 ·rw [he];exact Owns.nil _ _
 rcases ho.wh with e|⟨_,hs,hw⟩
 ·exact absurd e he
 obtain⟨o,off,l,cap,rfl⟩:=Qz hs;have nd:=ho.nd;have lt:=ho.lt;rw [Z7 he]at nd lt
 exact⟨hw,(List.nodup_cons.1 nd).2,fun o q=>lt o (List.mem_cons_of_mem _ q)⟩
theorem zF9 (hk:∀rows a t,All2 FI3 rows testG→Owns σ.top t (fl3 rows)→σ.top≤t→K (.fz true a 10 (fl3 rows)) (σ.up t)):zA Tryz.prog 28 [] σ K:=by
 refine zA.gh ?_;refine qV mix Tryz.func28 cf28 rfl ?_;dsimp only [if28,eI,mI0,kI0,lI0,LI0,xI0,bI0,cI0,sI0,eI0,C1,zI0,vI0,R0,S0];simp only [pwA,seval,-iQ0];have hS:(σ.new (pst testT)).obj σ.next=some (pst testT):=by rw [zH,if_pos rfl]
 have hSn:(σ.new (pst testT)).next=σ.next+1:=rfl;refine zC (fun m vs g=>∃(i:Nat) (v:PV) (rows:List (PV×PV×PV)),i≤10∧m=10-i∧vs=[v,.sl σ.next 0 10 (.known 10),.int .i64 (10:Nat),.int .i64 i]∧Keep (σ.new (pst testT)) g∧PAcc (σ.new (pst testT)).next 3 g v i (fl3 rows)∧All2 FI3 rows (testG.take i)∧Owns σ.top g.top (fl3 rows)) 10 ?_ ?_
 ·exact⟨0,_,[],Nat.zero_le _,rfl,rfl,Keep.refl _,PAcc.nil _ _ _,All2.nil _,Owns.nil _ _⟩
 rintro m vs g ⟨i,v,rows,hi,rfl,rfl,kg,ha,hall,how⟩
 have k0:Keep σ g:=(zB _ _).trans kg;have h1:=ha.one;have hgn:=kg.next;simp only [pwA,seval,-iQ0,h1];refine iteI (fun hlt=>?_) fun hge=>?_
 rotate_left
 ·have hie:i=10:=by omega
  subst hie;rw [show testG.take 10=testG from List.take_of_length_le (Nat.le_refl _)]at hall
  exact(ha.low (by omega)).own k0 (zIk hall) how fun a t ho ht=>hk rows a t hall (Own.inner ho) ht
 have hlt':(i:Int)<10:=by omega
 have hti:i<testT.length:=hlt;have rq:g.rd1 σ.next i=some (.str testT[i]):=by rw [zi (by rw [kg.obj _ (by omega)];exact hS)];exact Zt hti
 simp only [pwA,seval,-iQ0,hlt,hlt',rq,h1];refine zCL (List.getElem_mem hti) fun wO wP wC t5 hR ho ht=>?_
 have o1:=hR.O.one;have o2:=hR.P.one;have o3:=hR.C.one;have hku:=Keep.up (Keep.refl g) ht;have hk2:Keep (σ.new (pst testT)) ((g.up t5).new [wO,wP,wC]):=(kg.trans hku).new _;have z3:ofAVs (zeros [.nils,.nils,.nils] 1)=[.fz true .nils 0 [],.fz true .nils 0 [],.fz true .nils 0 []]:=rfl;have e5:(g.up t5).next=g.next:=rfl;simp only [pwA,seval,-iQ0,o1,o2,o3,h1,z3];refine zDr (PAcc.pushS (bytes:=72) hk2 (ha.keep (hku.new _)) rfl (by omega) (by omega) fun v' g' k' a' q1 q2 q3 htop=>?_)
 have hone:=a'.one;have wi:IntKind.i64.wrap ((i:Int)+1)=((i+1:Nat):Int):=by rw [wrap64 (by omega) (by omega)];omega
 have htp:g'.top=t5:=htop;simp only [pwA,seval,-iQ0,hone,wi];refine⟨_,by omega,i+1,v',rows++[(wO,wP,wC)],by omega,rfl,rfl,k',by rw [zDy];exact .inr a',?_,by rw [zDy,htp];exact Owns.append how ho k0.top ht⟩
 rw [List.take_succ_eq_append_getElem (by rw [Zz];exact hlt)]
 refine hall.snoc ?_;show IsPr wO wP wC _ _ _;have e:testG[i]'(by rw [Zz];exact hlt)=tsV testT[i]:=List.getElem_map ..
 rw [e];exact hR
end Go.Proofs
namespace Go.Grp
end Go.Grp
set_option linter.unusedSimpArgs false
set_option linter.unusedVariables false
set_option linter.unusedSectionVars false
namespace Go.Grp
open Go.Ab Go.Lie
theorem zIV {x:List Int}:∀{c t:Nat},wf x t (c+1)=wf x t c++List.replicate (nx x (t+c)) (t+c)
 | 0,t=>by simp [wf]
 | c+1,t=>by
  rw [wf,zIV (c:=c) (t:=t+1),wf,List.append_assoc,show t+1+c=t+(c+1) by omega]
theorem QP {O x:List Int} (hl:x.length=O.length):Mx.nw x=(nword O x).map fun(a:Nat)=>(a:Int)+1:=by
 have key:∀i,Mx.nword x i=(wf x 0 i).map fun(a:Nat)=>(a:Int)+1:=by
  intro i
  induction i with
  | zero=>rfl
  | succ i ih=>rw [Mx.nword,ih,zIV,List.map_append,List.map_replicate,Nat.zero_add]
 show Mx.nword x x.length=_;rw [hl];exact key _
end Go.Grp
namespace Go.Proofs
open Go.Ab Go.Lie Go.Grp
variable {O x y:List Int} {P:List (List Int)} {C:List (List (List Int))} {i j k t:Nat} {w:List Int}
noncomputable def ac (O:List Int) (P:List (List Int)) (C:List (List (List Int))) (x:List Int) (l:Int):List Int:=
 if l<0 then gm O P C x (ginv (gS O) (gm O P C) (zv O) (Grp.unit O ((-l).toNat-1)))else gm O P C x (Grp.unit O (l.toNat-1))
def Lts (n:Nat) (w:List Int):Prop:=∀l∈w,l≠0∧-(n:Int)≤l∧l≤(n:Int)
def Lps (n:Nat) (w:List Int):Prop:=∀l∈w,1≤l∧l≤(n:Int)
def winv (w:List Int):List Int:=(w.map fun l=>-l).reverse
theorem zAF {c:List Int} (hc:TT O t c) (ht:t≤O.length):Lps O.length (Mx.nw c):=fun l hl=>by
 rw [QP hc.len]at hl
 obtain⟨a,ha,rfl⟩:=List.mem_map.1 hl
 have:=nword_in hc ht a ha
 omega
def relW (O:List Int) (P:List (List Int)) (i:Nat):List Int:=List.replicate (nx O i) ((i:Int)+1)++winv (Mx.nw (pvec P i))
def conW (C:List (List (List Int))) (i k:Nat):List Int:=[-((i:Int)+1),((i+k:Nat):Int)+2,(i:Int)+1]++winv (Mx.nw (cvec C i (i+(1+k))))
theorem zL1 (s:Shp O P C) (hi:i<O.length):Lts O.length (relW O P i):=fun l hl=>by
 rcases List.mem_append.1 hl with h|h
 ·rw [List.eq_of_mem_replicate h];omega
 ·unfold winv at h
  rw [List.mem_reverse]at h
  obtain⟨a,ha,rfl⟩:=List.mem_map.1 h
  have:=zAF (s.pw i hi) (by omega) a ha
  omega
theorem zNC (s:Shp O P C) (hi:i+(1+k)<O.length):Lts O.length (conW C i k):=fun l hl=>by
 rcases List.mem_append.1 hl with h|h
 ·simp only [List.mem_cons,List.not_mem_nil,or_false]at h;omega
 ·unfold winv at h
  rw [List.mem_reverse]at h
  obtain⟨a,ha,rfl⟩:=List.mem_map.1 h
  have:=zAF (s.cj i (i+(1+k)) (by omega) hi) (by omega) a ha
  omega
end Go.Proofs
namespace Go.Grp
end Go.Grp
set_option linter.unusedSimpArgs false
set_option linter.unusedVariables false
set_option linter.unusedSectionVars false
namespace Go.Ab
variable {P:Program} {σ h:PHeap} {K:PV→PHeap→Prop}
end Go.Ab
namespace Go.Proofs
open Go.Ab Go.Lie Go.Grp
variable {σ h:PHeap} {K:PV→PHeap→Prop} {O x:List Int} {P:List (List Int)} {C:List (List (List Int))} {vO vP vC vx vw v:PV} {sp t:Nat} {w u:List Nat}
theorem TT.nw_hyp (s:Shp O P C) {i:Nat} (h:TT O i x):(∀j,0≤at_ x j∧at_ x j≤7)∧x.length≤6:=by
 refine⟨fun j=>?_,by rw [h.len];exact s.le⟩
 rcases Nat.lt_or_ge j O.length with g|g
 ·have:=h.bd j g
  have:=s.pr j g
  omega
 ·rw [at_ge (by rw [h.len];exact g)];omega
theorem zBF (s:Shp O P C) {i:Nat} (h:TT O i x):(nword O x).length≤42:=by
 have e:=QP h.len;have h1:=Mx.nword_length (x:=x) (b:=7) (fun j=>by have:=(TT.nw_hyp s h).1 j;show(at_ x j).toNat≤7;omega) x.length
 have h2:(Mx.nw x).length=(nword O x).length:=by rw [e,List.length_map]
 have h3:=(TT.nw_hyp s h).2;have h4:(Mx.nw x).length≤x.length*7:=h1;omega
end Go.Proofs
namespace Go.Grp
end Go.Grp
set_option linter.unusedSimpArgs false
set_option linter.unusedVariables false
set_option linter.unusedSectionVars false
namespace Go.Proofs
open Go.Ab Go.Lie Go.Grp
variable {σ h:PHeap} {K:PV→PHeap→Prop} {O x:List Int} {P:List (List Int)} {C:List (List (List Int))} {vO vP vC vx vw v:PV} {sp t:Nat} {w u:List Nat}
theorem zLj {c:Nat} (hc:c≤8) (hk:K (.tup [.int .u64 0,.int .u64 c]) σ):zA Tryz.prog 173 [.int .u64 1,.int .u64 c] σ K:=by
 have e1:pbin .and .other (.int .u64 1) (.int .u64 4294967295)=some (.int .u64 1):=by rfl
 have e2:pbin .shr .other (.int .u64 1) (.int .u64 32)=some (.int .u64 0):=by rfl
 have e3:pbin .and .other (.int .u64 c) (.int .u64 4294967295)=some (.int .u64 c):=by
  obtain rfl|rfl|rfl|rfl|rfl|rfl|rfl|rfl|rfl:c=0∨c=1∨c=2∨c=3∨c=4∨c=5∨c=6∨c=7∨c=8:=by omega
  all_goals rfl
 have e4:pbin .shr .other (.int .u64 c) (.int .u64 32)=some (.int .u64 0):=by
  obtain rfl|rfl|rfl|rfl|rfl|rfl|rfl|rfl|rfl:c=0∨c=1∨c=2∨c=3∨c=4∨c=5∨c=6∨c=7∨c=8:=by omega
  all_goals rfl
 have e5:pbin .and .other (.int .u64 0) (.int .u64 4294967295)=some (.int .u64 0):=by rfl
 have e6:pbin .shr .other (.int .u64 0) (.int .u64 32)=some (.int .u64 0):=by rfl
 have w0:IntKind.u64.wrap 0=0:=by rfl
 have w1:IntKind.u64.wrap (c:Int)=(c:Int):=by
  obtain rfl|rfl|rfl|rfl|rfl|rfl|rfl|rfl|rfl:c=0∨c=1∨c=2∨c=3∨c=4∨c=5∨c=6∨c=7∨c=8:=by omega
  all_goals rfl
 have m0:∀k:Int,(0:Int)*k=0:=Int.zero_mul
 have m1:∀k:Int,(1:Int)*k=k:=Int.one_mul
 have m2:∀k:Int,k*(0:Int)=0:=Int.mul_zero
 have a0:(0:Int)+0=0:=rfl;refine zD mix Tryz.func173 ?_;simp only [pwA,seval,-iQ0,e1,e2,e3,e4,e5,e6,w0,w1,m0,m1,m2,a0];exact hk
theorem zOu {c:Nat} (hc:c≤8) (hk:K (.tup [.int .u64 0,.int .u64 c]) σ):zA Tryz.prog 150 [.int .u64 1,.int .u64 c] σ K:=by
 refine zD mix Tryz.func150 ?_;simp only [pwA,seval,-iQ0];refine zLj hc ?_;simp only [pwA,seval,-iQ0];exact hk
theorem zNX {l:Int} {c:Nat} (hc:c≤8) (hvx:FI vx [l]) (hk:∀o,K (.fz true (.sl o 0 c (.known c)) c (pis (List.replicate c l))) σ):zA Tryz.prog 128 [vx,.int .i64 c] σ K:=by
 obtain⟨wx,ax,rfl⟩:=hvx;refine zA.gh ?_;have h0:¬(c:Int)<0:=by omega
 have h1:¬(9223372036854775807:Int)<(c:Int):=by omega
 have w1:IntKind.u64.wrap (c:Int)=(c:Int):=by
  obtain rfl|rfl|rfl|rfl|rfl|rfl|rfl|rfl|rfl:c=0∨c=1∨c=2∨c=3∨c=4∨c=5∨c=6∨c=7∨c=8:=by omega
  all_goals rfl
 have w2:IntKind.i64.wrap (c:Int)=(c:Int):=wrap64 (by omega) (by omega)
 have w3:IntKind.u64.wrap 1=1:=by rfl
 refine zD mix Tryz.func128 ?_;simp only [pwA,seval,-iQ0,h0,w1,w3,List.length_cons,List.length_nil];refine zOu hc ?_;simp only [pwA,seval,-iQ0,h1,w2,List.length_replicate,qh,mk8 (n:=c) (by omega),mkL (n:=c) (by omega)]
 have hz:List.replicate c 0=rl l c 0:=by simp [rl]
 rw [hz,zJr];refine⟨_,rfl,?_⟩;simp only [pwA,seval,-iQ0];refine zC (fun m vs h'=>∃k:Nat,k≤c∧(k=0→c=0)∧m=c-k∧vs=[.sl σ.next 0 c (.known c),.int .i64 k]∧h'=σ.new (pis (rl l c k))) (c-min 1 c) ?_ ?_
 ·exact⟨min 1 c,by omega,fun h=>by omega,rfl,rfl,rfl⟩
 rintro m vs h' ⟨k,hkc,hk0,rfl,rfl,rfl⟩
 simp only [pwA,seval,-iQ0];refine iteI (fun hlt=>?_) fun hge=>?_
 rotate_left
 ·have hke:k=c:=by omega
  subst hke;have hre:rl l k k=List.replicate k l:=by simp [rl]
  rw [hre];exact Gh.finF (s:=σ.next) (zB σ _) (by simp only [pwA,seval,-iQ0]) (Nat.le_refl _) (zh _ _) (show capOK (.known k) k=true by simp [capOK]) fun o=>hk o
 have hlt':k<c:=by omega
 have hle:k≤c:=by omega
 have hleI:(k:Int)≤(c:Int):=by omega
 have hne:¬c=k:=by omega
 have hcn:=zLY (σ:=σ) (l:=l) (by omega:0<k) hlt'
 have hm:min k (c-k)≤c:=by omega
 have ew:IntKind.i64.wrap ((k:Int)+((min k (c-k):Nat):Int))=((k+min k (c-k):Nat):Int):=by rw [wrap64 (by omega) (by omega)];omega
 simp only [pwA,seval,-iQ0,hle,hleI,hne,hcn,ew,Nat.sub_zero,ite_self,Option.isSome_none,Option.isNone_none,Bool.false_eq_true,and_false];exact⟨_,by omega,k+min k (c-k),by omega,fun h=>by omega,rfl,rfl,rfl⟩
theorem zPl {o c m:Nat} {cs news:List PV} {x:PV} (hx:plen x=some m) (hm:m≠0) (hf:Za 1 h x m=some news) (hl:cs.length=c) (hb:c+m≤1000):
  ql 1 8 h (.fz true (.sl o 0 c (.known c)) c cs) x=some (.sl h.next 0 (c+m) (.grown 1),h.new (cs++news)):=by
 rw [Qf,hx];simp only [Option.bind_some];rw [if_neg hm,hf];simp only [Option.bind_some];simp only [pgrow];rw [if_pos ⟨by omega,.inl trivial,by omega,by omega,by omega⟩]
end Go.Proofs
namespace Go.Grp
end Go.Grp
set_option linter.unusedSimpArgs false
set_option linter.unusedVariables false
set_option linter.unusedSectionVars false
namespace Go.Proofs
open Go.Ab Go.Lie Go.Grp
variable {σ h:PHeap} {K:PV→PHeap→Prop} {O x:List Int} {P:List (List Int)} {C:List (List (List Int))} {vO vP vC vx vw v:PV} {sp t:Nat} {w u:List Int}
def rvx (x:List Int) (i:Nat):List Int:=(List.range x.length).map fun j=>if j<i∨x.length≤j+i then x.getD (x.length-1-j) 0 else x.getD j 0
theorem Zq (i:Nat):(rvx x i).length=x.length:=by simp [rvx]
theorem zAk {i j:Nat} (hj:j<x.length):(rvx x i)[j]? = some (if j<i∨x.length≤j+i then x.getD (x.length-1-j) 0 else x.getD j 0):=by
 unfold rvx;rw [List.getElem?_map,List.getElem?_range hj];rfl
theorem zLs:rvx x 0=x:=by
 refine List.ext_getElem? fun j=>?_
 rcases Nat.lt_or_ge j x.length with h|h
 ·rw [zAk h,if_neg (by omega),List.getD_eq_getElem?_getD,List.getElem?_eq_getElem h];rfl
 ·rw [List.getElem?_eq_none (by rw [Zq];exact h),List.getElem?_eq_none h]
theorem zNp {i:Nat} (h:x.length≤2*i+1):rvx x i=x.reverse:=by
 refine List.ext_getElem? fun j=>?_
 rcases Nat.lt_or_ge j x.length with h1|h1
 ·rw [zAk h1,List.getElem?_reverse h1,List.getElem?_eq_getElem (by omega)]
  congr 1
  split
  ·rw [List.getD_eq_getElem?_getD,List.getElem?_eq_getElem (by omega)];rfl
  ·have e:x.length-1-j=j:=by omega
   simp only [e];rw [List.getD_eq_getElem?_getD,List.getElem?_eq_getElem h1];rfl
 ·rw [List.getElem?_eq_none (by rw [Zq];exact h1),List.getElem?_eq_none (by rw [List.length_reverse];exact h1)]
theorem zLt {i:Nat} (h:2*i+1<x.length):((rvx x i).set i (x.getD (x.length-1-i) 0)).set (x.length-1-i) (x.getD i 0)=rvx x (i+1):=by
 refine List.ext_getElem? fun j=>?_
 rcases Nat.lt_or_ge j x.length with h1|h1
 ·rw [zAk h1,List.getElem?_set,List.getElem?_set,List.length_set,Zq]
  by_cases e1:x.length-1-i=j
  ·subst e1
   rw [if_pos rfl,if_pos h1,if_pos (by omega),show x.length-1-(x.length-1-i)=i by omega]
  ·rw [if_neg e1]
   by_cases e2:i=j
   ·subst e2
    rw [if_pos rfl,if_pos h1,if_pos (by omega)]
   ·rw [if_neg e2,zAk h1]
    congr 1
    by_cases e3:j<i∨x.length≤j+i
    ·rw [if_pos e3,if_pos (by omega)]
    ·rw [if_neg e3,if_neg (by omega)]
 ·rw [List.getElem?_eq_none (by simp [Zq];exact h1),List.getElem?_eq_none (by rw [Zq];exact h1)]
theorem zJ7 {s n:Nat} {cap:Cap} (hs:σ.obj s=some (pis x)) (hn:n=x.length) (hb:x.length≤1000) (hk:K (.tup []) (σ.set s (pis x.reverse))):zA Tryz.prog 151 [.sl s 0 n cap] σ K:=by
 subst hn;have wl:IntKind.i64.wrap ((x.length:Int)-1)=(x.length:Int)-1:=wrap64 (by omega) (by omega)
 refine zD mix Tryz.func151 ?_;simp only [pwA,seval,-iQ0,wl];refine zC (fun m vs h'=>∃i:Nat,2*i≤x.length+1∧m=x.length-i∧vs=[.sl s 0 x.length cap,.int .i64 i,.int .i64 ((x.length:Int)-1-(i:Int))]∧h'=σ.set s (pis (rvx x i))) x.length ?_ ?_
 ·exact⟨0,by omega,by omega,by rw [show((x.length:Int)-1-((0:Nat):Int))=(x.length:Int)-1 by omega];rfl,by rw [zLs,zDm hs]⟩
 rintro m vs h' ⟨i,hi,rfl,rfl,rfl⟩
 by_cases hlt:2*i+1<x.length
 rotate_left
 ·have hc:¬(i:Int)<(x.length:Int)-1-(i:Int):=by omega
  rw [zNp (by omega)]
  simp only [pwA,seval,-iQ0,hc];exact hk
 have hc:(i:Int)<(x.length:Int)-1-(i:Int):=by omega
 have ej:(x.length:Int)-1-(i:Int)=((x.length-1-i:Nat):Int):=by omega
 have hi1:i<x.length:=by omega
 have hj1:x.length-1-i<x.length:=by omega
 have gi1:(pis (rvx x i))[i]? = some (.int .i64 (x.getD i 0)):=by rw [z8,zAk hi1,if_neg (by omega)];rfl
 have gj1:(pis (rvx x i))[x.length-1-i]? = some (.int .i64 (x.getD (x.length-1-i) 0)):=by rw [z8,zAk hj1,if_neg (by omega)];rfl
 have hl1:i+1≤(rvx x i).length:=by rw [Zq];omega
 have hl2:x.length-1-i+1≤(rvx x i).length:=by rw [Zq];omega
 have wi:IntKind.i64.wrap ((i:Int)+1)=((i+1:Nat):Int):=wrapS hi1 (by omega)
 have wj:IntKind.i64.wrap (((x.length-1-i:Nat):Int)-1)=(x.length:Int)-1-((i+1:Nat):Int):=by rw [wrap64 (by omega) (by omega)];omega
 rw [ej]at hc ⊢
 have hjI:((x.length-1-i:Nat):Int)<(x.length:Int):=by omega
 have hiI:(i:Int)<(x.length:Int):=by omega
 have hA:List.take i (pis (rvx x i))++[PV.int .i64 (x.getD (x.length-1-i) 0)]++List.drop (i+1) (pis (rvx x i))=pis ((rvx x i).set i (x.getD (x.length-1-i) 0)):=qZ (by rw [Zq];exact hi1)
 have hB:List.take (x.length-1-i) (pis ((rvx x i).set i (x.getD (x.length-1-i) 0)))++[PV.int .i64 (x.getD i 0)]++List.drop (x.length-1-i+1) (pis ((rvx x i).set i (x.getD (x.length-1-i) 0)))=pis (rvx x (i+1)):=by
  rw [qZ (by rw [List.length_set,Zq];exact hj1),zLt hlt]
 have hl3:x.length-1-i+1≤((rvx x i).set i (x.getD (x.length-1-i) 0)).length:=by rw [List.length_set,Zq];omega
 simp only [pwA,seval,-iQ0,hc,hi1,hj1,hjI,hiI,gi1,gj1,hl1,hl2,hl3,hA,hB,zG,wi,wj,zg,qb];exact⟨_,by omega,i+1,by omega,rfl,rfl,rfl⟩
theorem zIR (hk:K (.tup []) σ):zA Tryz.prog 151 [.fz true .nils 0 []] σ K:=by
 have wl:IntKind.i64.wrap (((0:Nat):Int)-1)=-1:=rfl;have wl0:IntKind.i64.wrap ((0:Int)-1)=-1:=rfl;have n0:¬(0:Int) < -1:=by decide
 refine zD mix Tryz.func151 ?_;simp only [pwA,seval,-iQ0,wl,wl0];refine zC (fun m vs h'=>vs=[.fz true .nils 0 [],.int .i64 0,.int .i64 (-1)]∧h'=σ) 0 ⟨rfl,rfl⟩ ?_
 rintro m vs h' ⟨rfl,rfl⟩
 simp only [pwA,seval,-iQ0,n0];exact hk
theorem zB4 (hl:w.length≤900) (hb:∀l∈w,-1000≤l∧l≤1000) (hv:FI vw w) (hk:∀v,FI v (winv w)→K v σ):zA Tryz.prog 129 [vw] σ K:=by
 obtain⟨w0,a0,rfl⟩:=hv;refine zA.gh ?_;refine zD mix Tryz.func129 ?_;simp only [pwA,seval,-iQ0];refine zC (fun m vs h'=>∃(i:Nat) (vL:PV),i≤w.length∧m=w.length-i∧vs=[vL,.fz w0 a0 w.length (pis w),.int .i64 w.length,.int .i64 i]∧Keep σ h'∧PAcc σ.next 1 h' vL i (pis ((w.take i).map fun l=>-l))) w.length ?_ ?_
 ·exact⟨0,_,by omega,by omega,rfl,Keep.refl σ,PAcc.nil _ _ _⟩
 rintro m vs h' ⟨i,vL,hi,rfl,rfl,hkp,ha⟩
 simp only [pwA,seval,-iQ0];refine iteI (fun hlt=>?_) fun hge=>?_
 ·have b1:=hb _ (List.getElem_mem hlt)
  have wn:IntKind.i64.wrap (0-w[i])=-w[i]:=by rw [wrap64 (by omega) (by omega)];omega
  simp only [pwA,seval,-iQ0,hlt,gi hlt,z8,wn];refine PAcc.push (bytes:=8) hkp ha (by omega) (by omega) fun v' h2 k2 a2=>?_
  simp only [pwA,seval,-iQ0,wrapS hlt (by omega:w.length≤4611686018427387904)]
  refine⟨_,by omega,i+1,v',by omega,rfl,rfl,k2,?_⟩
  rw [List.take_succ_eq_append_getElem hlt,List.map_append,←Qe];exact a2.acc
 have hie:i=w.length:=by omega
 subst hie;rw [List.take_length]at ha
 rcases ha with ⟨rfl,h1,h2⟩|⟨t,cap,rfl,hcp,q2,q3,q4,q5⟩
 ·have h0:w=[]:=List.eq_nil_of_length_eq_zero h1
  subst h0;simp only [pwA,seval,-iQ0];refine zIR ?_;simp only [pwA,seval,-iQ0];exact Gh.fin0 hkp trivial (hk _ ⟨_,_,rfl⟩)
 ·simp only [pwA,seval,-iQ0]
  refine zJ7 q2 (by rw [List.length_map]) (by rw [List.length_map];omega) ?_
  simp only [pwA,seval,-iQ0];have e:(List.map (fun l=>-l) w).reverse.length=w.length:=by simp
  exact Gh.finF (s:=t) (hkp.set q4 _) (by rw [qX,if_pos rfl]) q4 (zh _ _) hcp.ok fun o=>hk _ ⟨true,.sl o 0 w.length cap,by unfold winv;rw [e]⟩
end Go.Proofs
namespace Go.Grp
end Go.Grp
set_option linter.unusedSimpArgs false
set_option linter.unusedVariables false
namespace Go.Proofs
open Go.Ab Go.Lie Go.Grp
variable {σ h h':PHeap} {K:PV→PHeap→Prop} {O x y a w:List Int} {P:List (List Int)} {C:List (List (List Int))} {vO vP vC vx vL v8 v9:PV} {L:List (List Int)} {s:BS} {bs r8 r9:List PV} {N j k:Nat}
theorem zMp (hR:IsPr vO vP vC O P C) (hb:O.length≤1000) (hk:∀v,FI v (zv O)→K v σ):zA Tryz.prog 112 [.agg [vO,vP,vC]] σ K:=by
 have h1:=hR.P.one;have h2:=hR.C.one;obtain⟨⟨w0,a0,rfl⟩,hRP,hRC⟩:=hR;refine zA.gh ?_;refine zD mix Tryz.func112 ?_;simp only [pwA,seval,-iQ0,h1,h2,mk8 (n:=O.length) (by omega),mkL (n:=O.length) (by omega),List.length_replicate,qh]
 refine Gh.finF (s:=σ.next+1) ((zB σ _).new _) (cs:=pis (List.replicate O.length 0)) (by simp only [pwA,seval,-iQ0,qh]) (by omega) (zh _ _) (by simp [capOK]) fun o=>hk _ ⟨true,.sl o 0 O.length (.known O.length),?_⟩
 simp [zv]
end Go.Proofs
namespace Go.Grp
end Go.Grp
set_option linter.unusedSimpArgs false
set_option linter.unusedVariables false
set_option linter.unusedSectionVars false
namespace Go.Proofs
open Go.Ab Go.Lie Go.Grp
variable {σ h hE:PHeap} {K:PV→PHeap→Prop} {O x y:List Int} {P:List (List Int)} {C:List (List (List Int))} {vO vP vC vx vL vU:PV} {L u:List (List Int)} {sp:Nat}
theorem zPn {n:Int} (hn:0≤n∧n≤1000000) (hk:K (.int .i64 n) σ):zA Tryz.prog 152 [.int .i64 n] σ K:=by
 have w:IntKind.i64.wrap (0-n)=-n:=by rw [wrap64 (by omega) (by omega)];omega
 have e:max n (-n)=n:=by omega
 refine zD mix Tryz.func152 ?_;simp only [pwA,seval,-iQ0,w,e];exact hk
end Go.Proofs
namespace Go.Grp
end Go.Grp
set_option linter.unusedSimpArgs false
set_option linter.unusedVariables false
set_option linter.unusedSectionVars false
namespace Go.Proofs
open Go.Ab Go.Lie Go.Grp
variable {σ h:PHeap} {K:PV→PHeap→Prop} {O x a b:List Int} {P:List (List Int)} {C:List (List (List Int))} {vO vP vC vx vw v va vb vL:PV} {sp t:Nat} {w u:List Int} {l:Int}
section
variable (s:Shp O P C) (F:Full O P C O.length)
include s F
end
theorem zOl {n:Int} (hn:0≤n∧n≤1000000) (hk:K (.int .i64 n) σ):zA Tryz.prog 152 [.int .i64 (-n)] σ K:=by
 have w:IntKind.i64.wrap (0 - -n)=n:=by rw [wrap64 (by omega) (by omega)];omega
 have e:max (-n) n=n:=by omega
 refine zD mix Tryz.func152 ?_;simp only [pwA,seval,-iQ0,w,e];exact hk
end Go.Proofs
namespace Go.Grp
end Go.Grp
set_option linter.unusedSimpArgs false
set_option linter.unusedVariables false
set_option linter.unusedSectionVars false
namespace Go.Proofs
open Go.Ab Go.Lie Go.Grp
variable {σ h:PHeap} {K:PV→PHeap→Prop} {O x a b:List Int} {P:List (List Int)} {C:List (List (List Int))} {vO vP vC vx vw v va vb vL:PV} {sp t:Nat} {w u:List Int} {l:Int}
theorem PSl.fin2c {i:Nat} {e vW:PV} {rows:List PV} {M:List (List Int)} {σb:PHeap} (hb:σ.next≤σb.next) (hk0:Keep σ h) (a:PAcc σb.next 1 h vW i rows) (hall:All2 FI rows M) (he:∀b,Bel b e) (hs:∀b o m,sb b o m e=e) (hk:∀v,FII v M→K (.tup [v,e]) σ):Gh σ K (.tup [vW,e]) h:=by
 have hlen:=hall.1;rcases a with ⟨rfl,h1,h2⟩|⟨s,cap,rfl,hc,q2,q3,q4,q5⟩
 ·subst h2
  have:M=[]:=List.eq_nil_of_length_eq_zero hlen.symm
  subst this;exact Gh.fin0 hk0 ⟨trivial,he _,trivial⟩ (hk _ ⟨true,.nils,[],rfl,All2.nil _⟩)
 ·refine Gh.freeze (s:=s) (cs:=rows) q2 (by omega) (hall.bI 0) fun o g1 g2 g3=>?_
  simp only [sb,sbs,hc.ok,and_self,if_true,hs];refine Gh.fin0 ((hk0.kill (by omega)).up (by simp only [PHeap.kill];omega)) ⟨trivial,he _,trivial⟩ (hk _ ⟨true,.sl o 0 i cap,rows,?_,hall⟩)
  rw [←hlen,q3,Nat.mul_one]
theorem PWF.newF {cs:List PV} (w:PWF σ) (hb:Bels 0 cs):PWF (σ.new cs):=by
 have hn:(σ.new cs).next=σ.next+1:=rfl;refine⟨fun s hs=>?_,fun s ds hd=>?_⟩
 ·rw [zH,if_neg (by omega)]
  exact w.wf s (by omega)
 ·rw [zH]at hd
  split at hd
  ·cases hd
   exact Bels.up (Nat.zero_le _) hb
  ·exact Bels.up (Nat.le_succ _) (w.bel s ds hd)
def RelOK (O:List Int) (P:List (List Int)) (C:List (List (List Int))) (r:List Int):Prop:=(∃i,i<O.length∧r=relW O P i)∨∃i k,i+(1+k)<O.length∧r=conW C i k
theorem QN:(winv w).length=w.length:=by simp [winv]
theorem RelOK.facts (s:Shp O P C) {r:List Int} (h:RelOK O P C r):Lts O.length r∧r.length≤60:=by
 have nl:∀{i:Nat} {c:List Int},TT O i c→(Mx.nw c).length≤42:=fun hc=>by
  have:=zBF s hc
  rw [QP hc.len,List.length_map];exact this
 rcases h with ⟨i,hi,rfl⟩|⟨i,k,hi,rfl⟩
 ·refine⟨zL1 s hi,?_⟩
  have h1:=nl (s.pw i hi);have h2:=s.pr i hi;unfold relW;rw [List.length_append,List.length_replicate,QN]
  have:nx O i≤7:=by show(at_ O i).toNat≤7;omega
  omega
 ·refine⟨zNC s hi,?_⟩
  have h1:=nl (s.cj i (i+(1+k)) (by omega) hi)
  unfold conW;rw [List.length_append,QN];simp only [List.length_cons,List.length_nil];omega
def RelSt (O:List Int) (P:List (List Int)) (C:List (List (List Int))) (R:List (List Int)) (a i k:Nat):Prop:=(∀r∈R,RelOK O P C r)∧(∀j,j<a→relW O P j∈R)∧∀j q,(j<i∨(j=i∧q<k))→j+(1+q)<O.length→conW C j q∈R
theorem RelSt.all {R:List (List Int)} (h:RelSt O P C R O.length O.length 0):∀r,RelOK O P C r→r∈R:=by
 rintro r (⟨i,hi,rfl⟩ | ⟨i,k,hi,rfl⟩)
 ·exact h.2.1 i hi
 ·exact h.2.2 i k (.inl (by omega)) hi
theorem RelSt.next {R:List (List Int)} {a i:Nat} (h:RelSt O P C R a i (O.length-1-i)):RelSt O P C R a (i+1) 0:=
 ⟨h.1,h.2.1,fun j q hj hq=>h.2.2 j q (by omega) hq⟩
set_option maxHeartbeats 1600000 in
theorem zA9 (hp:qE O P C) (sz:SzP O P C) (hR:IsPr vO vP vC O P C) (hk:∀v R,FII v R→((∀r∈R,RelOK O P C r)∧∀r,RelOK O P C r→r∈R)→R.length≤100→K (.tup [v,.int .i64 0]) σ):
  zA Tryz.prog 100 [.agg [vO,vP,vC]] σ K:=by
 have s:=hp.shp;have h6:=s.le;have g1:=hR.O.one;have g2:=hR.P.one;have g3:=hR.C.one;have hR0:=hR;refine zA.pwf fun wf=>zA.gh ?_
 refine zD mix Tryz.func100 ?_;simp only [pwA,seval,-iQ0,g1,g2,g3];refine QH hR sz fun t ht=>?_
 obtain rfl:t=true:=ht.2 hp;obtain⟨⟨w0,a0,rfl⟩,⟨w1,a1,rP,rfl,hP⟩,⟨w3,a3,rC,rfl,hC⟩⟩:=hR;have ob:(σ.new [.fz w0 a0 O.length (pis O),.fz w1 a1 P.length rP,.fz w3 a3 C.length rC]).obj σ.next=some [.fz w0 a0 O.length (pis O),.fz w1 a1 P.length rP,.fz w3 a3 C.length rC]:=by rw [zH,if_pos rfl]
 have hwf:PWF (σ.new [PV.fz w0 a0 O.length (pis O),.fz w1 a1 P.length rP,.fz w3 a3 C.length rC]):=PWF.newF wf ⟨trivial,trivial,trivial,trivial⟩;have k1:=zB σ [PV.fz w0 a0 O.length (pis O),.fz w1 a1 P.length rP,.fz w3 a3 C.length rC];simp only [pwA,seval,-iQ0];have hn1:(σ.new [PV.fz w0 a0 O.length (pis O),.fz w1 a1 P.length rP,.fz w3 a3 C.length rC]).next=σ.next+1:=rfl;generalize σ.new [PV.fz w0 a0 O.length (pis O),.fz w1 a1 P.length rP,.fz w3 a3 C.length rC]=H at *
 refine Zi (fun m us h'=>∃(i:Nat) (vL:PV) (R:List (List Int)) (rows:List PV),i≤O.length∧m=O.length-i∧us=[.ptr σ.next 0,vL,.fz w0 a0 O.length (pis O),.int .i64 O.length,.int .i64 i]∧Keep H h'∧PAcc H.next 1 h' vL R.length rows∧All2 FI rows R∧R.length=i∧RelSt O P C R i 0 0) O.length ?_ ?_
 ·exact .here ⟨0,_,[],[],by omega,by omega,rfl,Keep.refl H,PAcc.nil _ _ _,All2.nil _,rfl,fun r hr=>(by cases hr),fun j hj=>by omega,fun j q hj=>by omega⟩
 rintro m us h' ⟨i,vL,R,rows,hi,rfl,rfl,hkp,ha,hall,hRl,hok⟩
 have hnx:=hkp.next;have hob:h'.obj σ.next=some [.fz w0 a0 O.length (pis O),.fz w1 a1 P.length rP,.fz w3 a3 C.length rC]:=by rw [hkp.obj _ (by omega)];exact ob
 have e1:h'.rd1 σ.next 1=some (.fz w1 a1 P.length rP):=by rw [zi hob];rfl
 have e2:h'.rd1 σ.next 2=some (.fz w3 a3 C.length rC):=by rw [zi hob];rfl
 have e0:h'.rd1 σ.next 0=some (.fz w0 a0 O.length (pis O)):=by rw [zi hob];rfl
 simp only [pwA,seval,-iQ0];refine iteI (fun hlt=>?_) fun hge=>?_
 ·have bO:=s.pr i hlt
  rw [at_eq hlt]at bO
  have hnO:((nx O i:Nat):Int)=O[i]:=by unfold nx;rw [at_eq hlt];omega
  have hiP:i<P.length:=by rw [s.pl];exact hlt
  obtain⟨w5,a5,hpr⟩:=hP.rowI hiP;have hpv:=s.pw i hlt;have gP:P.getD i []=P[i]:=qj hiP;rw [show pvec P i=P[i] from gP]at hpv
  have ew:IntKind.i64.wrap ((i:Int)+1)=(i:Int)+1:=wrap64 (by omega) (by omega)
  have hsn:¬σ.next=h'.next:=by omega
  have hnx':=TT.nw_hyp s hpv;have hnl:=zBF s hpv;simp only [pwA,seval,-iQ0,hlt,gi hlt,z8,e1,hiP,hpr,ew,hsn,zg,qb];rw [←hnO];have hcap1:capOK (.known 1) 1=true:=rfl;refine zA.frz (s:=h'.next) (cs:=pis [(i:Int)+1]) (by simp only [pwA,seval,-iQ0];rfl) (zh _ _) fun o1=>?_
  simp only [sbs,sb,hcap1,and_self,if_true,nm_eq];refine zNX (l:=(i:Int)+1) (by show(at_ O i).toNat≤8;rw [at_eq hlt];omega) ⟨true,_,rfl⟩ fun o=>?_
  simp only [pwA,seval,-iQ0,e1,hsn,hiP,hpr,zg,qb];refine QL hnx'.1 hnx'.2 ⟨w5,a5,rfl⟩ fun v2 hv2=>?_
  simp only [pwA,seval,-iQ0,e1,hsn,hiP,hpr,zg,qb];refine zB4 (by rw [QP hpv.len,List.length_map];omega) (fun q hq=>by have:=zAF hpv (by omega) q hq;omega) hv2 fun v3 hv3=>?_
  have hv30:=hv3;obtain⟨w6,a6,rfl⟩:=hv3;have hrl:(winv (Mx.nw P[i])).length≤42:=by rw [QN,QP hpv.len,List.length_map];exact hnl
  have hrel:relW O P i=List.replicate (nx O i) ((i:Int)+1)++winv (Mx.nw P[i]):=by unfold relW;rw [show pvec P i=P[i] from gP]
  have hxo:nx O i≤7:=by show(at_ O i).toNat≤7;rw [at_eq hlt];omega
  have hokr:RelSt O P C (R++[relW O P i]) (i+1) 0 0:=by
   refine⟨fun r hr=>?_,fun j hj=>?_,fun j q hj=>by omega⟩
   ·rcases List.mem_append.1 hr with h | h
    ·exact hok.1 r h
    ·rw [List.mem_singleton.1 h];exact .inl ⟨i,hlt,rfl⟩
   ·rcases Nat.lt_or_ge j i with h | h
    ·exact List.mem_append.2 (.inl (hok.2.1 j h))
    ·obtain rfl:j=i:=by omega
     exact List.mem_append.2 (.inr (List.mem_singleton.2 rfl))
  have kG:Keep h' ((h'.new [PV.int .i64 ((i:Int)+1)]).kill h'.next):=(zB h' _).kill (Nat.le_refl _);have gn:h'.next<((h'.new [PV.int .i64 ((i:Int)+1)]).kill h'.next).next:=Nat.lt_succ_self _;generalize (h'.new [PV.int .i64 ((i:Int)+1)]).kill h'.next=G at *
  have kHG:=hkp.trans kG;have aG:=ha.keep kG
  by_cases hz:(winv (Mx.nw P[i])).length=0
  ·have hnil:winv (Mx.nw P[i])=[]:=List.eq_nil_of_length_eq_zero hz
   have hap:ql 1 8 G (.fz true (.sl o 0 (nx O i) (.known (nx O i))) (nx O i) (pis (List.replicate (nx O i) ((i:Int)+1)))) (.fz w6 a6 (winv (Mx.nw P[i])).length (pis (winv (Mx.nw P[i]))))=some (.fz true (.sl o 0 (nx O i) (.known (nx O i))) (nx O i) (pis (List.replicate (nx O i) ((i:Int)+1))),G):=by
    rw [Qf,zIe,Option.bind_some,if_pos hz];rfl
   simp only [pwA,seval,-iQ0,hap,zg,qb];refine PAcc.push (σb:=H) (bytes:=24) kHG aG (by omega) (by omega) fun v' h2 k2 a2=>?_
   simp only [pwA,seval,-iQ0,wrapS hlt (by omega:O.length≤4611686018427387904),zg,qb]
   refine⟨_,by omega,.here ⟨i+1,v',R++[relW O P i],_,by omega,rfl,rfl,k2,by rw [List.length_append];exact a2.acc,hall.snoc ⟨true,.sl o 0 (nx O i) (.known (nx O i)),?_⟩,by simp [hRl],hokr⟩⟩
   rw [hrel,hnil,List.append_nil,List.length_replicate]
  ·have hap:=zPl (h:=G) (o:=o) (c:=nx O i) (m:=(winv (Mx.nw P[i])).length) (cs:=pis (List.replicate (nx O i) ((i:Int)+1))) (news:=pis (winv (Mx.nw P[i]))) (x:=.fz w6 a6 (winv (Mx.nw P[i])).length (pis (winv (Mx.nw P[i])))) rfl hz (by rw [zCS,if_neg hz,if_pos ⟨Nat.le_refl _,by rw [zG];omega,by omega⟩,List.take_of_length_le (by rw [zG];omega)]) (by rw [zG,List.length_replicate]) (by omega)
   rw [Qe,←hrel]at hap
   have hrell:(relW O P i).length=nx O i+(winv (Mx.nw P[i])).length:=by rw [hrel,List.length_append,List.length_replicate]
   have oG:(G.new (pis (relW O P i))).obj G.next=some (pis (relW O P i)):=by rw [zH,if_pos rfl]
   have kG2:=kHG.new (pis (relW O P i));have aG2:=aG.keep (zB G (pis (relW O P i)));have gn2:(G.new (pis (relW O P i))).next=G.next+1:=rfl;simp only [pwA,seval,-iQ0,hap,zg,qb];generalize G.new (pis (relW O P i))=G2 at *
   rw [←gn2];refine PAcc.pushS (σb:=H) (bytes:=24) (news:=[.sl G.next 0 (nx O i+(winv (Mx.nw P[i])).length) (.grown 1)]) kG2 aG2 rfl (by omega) (by omega) fun v' h2 k2 a2 o2 n2 l2=>?_
   simp only [pwA,seval,-iQ0,wrapS hlt (by omega:O.length≤4611686018427387904),zg,qb]
   have og:h2.obj G.next=some (pis (relW O P i)):=by rw [o2 _ (by omega) (aG.ne (Nat.le_refl _))];exact oG
   have hHn:=kHG.next;refine⟨O.length-(i+1),by omega,.fzh G.next _ og (zh _ _) fun o3=>?_⟩
   obtain⟨f1,f2,f3⟩:=PSl.fzr hwf k2 a2 (s:=G.next) (cs:=pis (relW O P i)) (by omega) (n2 _ (by omega)) o3
   have capg:capOK (.grown 1) (nx O i+(winv (Mx.nw P[i])).length)=true:=rfl;rw [zCw (hall.bI 0) capg]at f2
   refine .here ⟨i+1,v',R++[relW O P i],_,by omega,rfl,?_,f1,by rw [List.length_append];exact f2.acc,hall.snoc ⟨true,.sl o3 0 (nx O i+(winv (Mx.nw P[i])).length) (.grown 1),by rw [hrell]⟩,by simp [hRl],hokr⟩
   show sbs G.next o3 (pis (relW O P i)) [PV.ptr σ.next 0,v',.fz w0 a0 O.length (pis O),.int .i64 O.length,.int .i64 ((i+1:Nat):Int)]=_;simp only [sbs,sb,f3]
 obtain rfl:i=O.length:=by omega
 simp only [pwA,seval,-iQ0,e0];refine zC (fun m us h'=>∃(i:Nat) (vL:PV) (R:List (List Int)) (rows:List PV),i≤O.length∧m=O.length-i∧us=[.ptr σ.next 0,vL,.int .i64 O.length,.int .i64 i]∧Keep H h'∧PAcc H.next 1 h' vL R.length rows∧All2 FI rows R∧R.length≤6+6*i∧RelSt O P C R O.length i 0) O.length ?_ ?_
 ·exact⟨0,vL,R,rows,by omega,by omega,rfl,hkp,ha,hall,by omega,hok⟩
 clear ha hall hok hkp hob e0 e1 e2 hnx hRl hge hi
 rintro m us h' ⟨i,vL,R,rows,hi,rfl,rfl,hkp,ha,hall,hRl,hok⟩
 have hnx:=hkp.next;have hob:h'.obj σ.next=some [.fz w0 a0 O.length (pis O),.fz w1 a1 P.length rP,.fz w3 a3 C.length rC]:=by rw [hkp.obj _ (by omega)];exact ob
 have e2:h'.rd1 σ.next 2=some (.fz w3 a3 C.length rC):=by rw [zi hob];rfl
 simp only [pwA,seval,-iQ0];refine iteI (fun hlt=>?_) fun hge=>?_
 rotate_left
 ·exact PSl.fin2c (σb:=H) (by omega) (k1.trans hkp) ha hall (fun _=>trivial) (fun _ _ _=>rfl) fun v hv=>hk v R hv ⟨hok.1,RelSt.all ((show i=O.length by omega) ▸ hok)⟩ (by omega)
 have hiC:i<C.length:=by rw [s.cl];exact hlt
 obtain⟨w5,a5,rs,hrb,hrs⟩:=cvRow s hC hlt;simp only [pwA,seval,-iQ0,e2,hiC,hrb,hlt];refine Zi (fun m us h'=>∃(k:Nat) (vL:PV) (R:List (List Int)) (rows:List PV),k≤O.length-1-i∧m=O.length-1-i-k∧us=[.ptr σ.next 0,vL,.int .i64 i,.int .i64 O.length,.int .i64 i,.fz w5 a5 (O.length-1-i) rs,.int .i64 (O.length-1-i:Nat),.int .i64 k]∧Keep H h'∧PAcc H.next 1 h' vL R.length rows∧All2 FI rows R∧R.length≤6+6*i+k∧RelSt O P C R O.length i k) (O.length-1-i) ?_ ?_
 ·exact .here ⟨0,vL,R,rows,by omega,by omega,rfl,hkp,ha,hall,by omega,hok⟩
 clear ha hall hok hkp hob e2 hnx hRl
 rintro m us h' ⟨k,vL,R,rows,hk',rfl,rfl,hkp,ha,hall,hRl,hok⟩
 simp only [pwA,seval,-iQ0];refine iteI (fun hlk=>?_) fun hgk=>?_
 rotate_left
 ·simp only [pwA,seval,-iQ0,wrapS hlt (by omega:O.length≤4611686018427387904)]
  obtain rfl:k=O.length-1-i:=by omega
  exact⟨_,by omega,i+1,vL,R,rows,by omega,rfl,rfl,hkp,ha,hall,by omega,hok.next⟩
 have hnx:=hkp.next;obtain⟨w7,a7,hrk⟩:=hrs k hlk;have hcv:=s.cj i (i+(1+k)) (by omega) (by omega)
 have hcon:conW C i k=[-((i:Int)+1),((i+k:Nat):Int)+2,(i:Int)+1]++winv (Mx.nw (cvec C i (i+(1+k)))):=rfl;generalize hc:cvec C i (i+(1+k))=c at *
 have hnx':=TT.nw_hyp s hcv;have hnl:=zBF s hcv;have hcl:=hcv.len;have hlps:=zAF hcv (by omega)
 have hnwl:(Mx.nw c).length≤42:=by rw [QP hcl,List.length_map];exact hnl
 have hokr:RelSt O P C (R++[conW C i k]) O.length i (k+1):=by
  refine⟨fun r hr=>?_,fun j hj=>List.mem_append.2 (.inl (hok.2.1 j hj)),fun j q hj hq=>?_⟩
  ·rcases List.mem_append.1 hr with h | h
   ·exact hok.1 r h
   ·rw [List.mem_singleton.1 h];exact .inr ⟨i,k,by omega,rfl⟩
  ·by_cases e:j=i∧q=k
   ·obtain⟨rfl,rfl⟩:=e
    exact List.mem_append.2 (.inr (List.mem_singleton.2 rfl))
   ·exact List.mem_append.2 (.inl (hok.2.2 j q (by omega) hq))
 have ew1:IntKind.i64.wrap ((i:Int)+1)=(i:Int)+1:=wrap64 (by omega) (by omega)
 have ew2:IntKind.i64.wrap ((i:Int)+(k:Int))=((i+k:Nat):Int):=by rw [wrap64 (by omega) (by omega)];omega
 have ew3:IntKind.i64.wrap (((i+k:Nat):Int)+2)=((i+k:Nat):Int)+2:=wrap64 (by omega) (by omega)
 have ew5:IntKind.i64.wrap (0-((i:Int)+1))=-((i:Int)+1):=by rw [wrap64 (by omega) (by omega)];omega
 simp only [pwA,seval,-iQ0,hlk,hrk,ew1,ew2,ew3,ew5];clear ew1 ew2 ew3 ew5;refine QL hnx'.1 hnx'.2 ⟨w7,a7,by rw [hcl]⟩ fun v2 hv2=>?_
 simp only [pwA,seval,-iQ0];refine zB4 (by omega) (fun q hq=>by have:=hlps q hq;omega) hv2 fun v3 hv3=>?_
 obtain⟨w6,a6,rfl⟩:=hv3;have hwl:=QN (w:=Mx.nw c);generalize hrest:winv (Mx.nw c)=rest at *
 simp only [pwA,seval,-iQ0];refine PSl.cat (bytes:=8) (σb:=h') (n:=3) (cs:=pis [-((i:Int)+1),((i+k:Nat):Int)+2,(i:Int)+1]) (zB _ _) (PSl.new _ 1 rfl (Nat.le_refl _)) (by rw [zG]) (by omega) (by omega) fun v4 h4 k4 a4=>?_
 obtain⟨s2,cap2,rfl,hc2,q2,q3,q4,q5⟩:=a4;rw [Qe,←hcon]at q2
 have hcll:(conW C i k).length=3+rest.length:=by rw [hcon];simp;omega
 have k5:=hkp.trans k4;have a5':=ha.keep k4;simp only [pwA,seval,-iQ0];refine PAcc.pushS (σb:=H) (bytes:=24) (news:=[.sl s2 0 (3+rest.length) cap2]) k5 a5' rfl (by omega) (by omega) fun v' h2 k6 a6' o2 n2 l2=>?_
 simp only [pwA,seval,-iQ0,wrapS hlk (by omega:O.length-1-i≤4611686018427387904)]
 have og:h2.obj s2=some (pis (conW C i k)):=by rw [o2 _ q5 (ha.ne q4)];exact q2
 refine⟨O.length-1-i-(k+1),by omega,.fzh s2 _ og (zh _ _) fun o3=>?_⟩
 obtain⟨f1,f2,f3⟩:=PSl.fzr hwf k6 a6' (s:=s2) (cs:=pis (conW C i k)) (by omega) (n2 _ q5) o3
 rw [zCw (hall.bI 0) hc2.ok]at f2
 refine .here ⟨k+1,v',R++[conW C i k],_,by omega,rfl,?_,f1,by rw [List.length_append];exact f2.acc,hall.snoc ⟨true,.sl o3 0 (3+rest.length) cap2,by rw [hcll]⟩,by simp;omega,hokr⟩
 show sbs s2 o3 (pis (conW C i k)) [PV.ptr σ.next 0,v',.int .i64 i,.int .i64 O.length,.int .i64 i,.fz w5 a5 (O.length-1-i) rs,.int .i64 (O.length-1-i:Nat),.int .i64 ((k+1:Nat):Int)]=_;simp only [sbs,sb,f3]
end Go.Proofs
namespace Go.Grp
end Go.Grp
set_option linter.unusedSimpArgs false
set_option linter.unusedVariables false
set_option linter.unusedSectionVars false
namespace Go.Proofs
open Go.Ab Go.Lie Go.Grp
variable {σ h hE:PHeap} {K:PV→PHeap→Prop} {O x y w:List Int} {P:List (List Int)} {C:List (List (List Int))} {vO vP vC vx vL vU vZ vw:PV} {L u:List (List Int)} {sp n:Nat}
noncomputable def evL (O:List Int) (P:List (List Int)) (C:List (List (List Int))) (L:List (List Int)) (k:Int):List Int:=if 0<k then L.getD (k-1).toNat []else ginv (gS O) (gm O P C) (zv O) (L.getD (-k-1).toNat [])
noncomputable def evS (O:List Int) (P:List (List Int)) (C:List (List (List Int))) (L:List (List Int)) (w:List Int):List Int:=w.foldl (fun a k=>gm O P C a (evL O P C L k)) (zv O)
theorem zG4 {k:Int}:evS O P C L (w++[k])=gm O P C (evS O P C L w) (evL O P C L k):=by unfold evS;rw [List.foldl_append];rfl
theorem zPc (F:Full O P C O.length) (hL:∀l∈L,gS O l) {k:Int} (hk:k≠0∧-(L.length:Int)≤k∧k≤(L.length:Int)):gS O (evL O P C L k):=by
 have get:∀j:Nat,j<L.length→gS O (L.getD j []):=fun j hj=>by
  rw [List.getD_eq_getElem?_getD,List.getElem?_eq_getElem hj];exact hL _ (List.getElem_mem hj)
 unfold evL
 split
 ·exact get _ (by omega)
 ·exact(F.g.inv_in (get _ (by omega))).1
theorem zCf (s:Shp O P C) (F:Full O P C O.length) (hL:∀l∈L,gS O l):∀{w:List Int},(∀k∈w,k≠0∧-(L.length:Int)≤k∧k≤(L.length:Int))→gS O (evS O P C L w):=by
 intro w;have key:∀(w:List Int) (a:List Int),gS O a→(∀k∈w,k≠0∧-(L.length:Int)≤k∧k≤(L.length:Int))→gS O (w.foldl (fun a k=>gm O P C a (evL O P C L k)) a):=by
  intro w
  induction w with
  | nil=>exact fun a ha _=>ha
  | cons k w ih=>exact fun a ha hw=>ih _ (F.g.cl ha (zPc F hL (hw k (List.mem_cons_self ..)))) fun k' hk'=>hw k' (List.mem_cons_of_mem _ hk')
 exact key w _ (s.zv _)
end Go.Proofs
namespace Go.Grp
end Go.Grp
set_option linter.unusedSimpArgs false
set_option linter.unusedVariables false
set_option linter.unusedSectionVars false
namespace Go.Proofs
open Go.Ab Go.Lie Go.Grp
variable {σ h hE:PHeap} {K:PV→PHeap→Prop} {O x y w:List Int} {P:List (List Int)} {C:List (List (List Int))} {vO vP vC vx vL vU vZ vw vD:PV} {L u:List (List Int)} {sp n:Nat}
theorem zMs {a:List Int} {va:PV} (s:Shp O P C) (F:Full O P C O.length) (hs:PtrG σ sp vO vP vC) (hR:IsPr vO vP vC O P C) (ha:gS O a) (hva:FI va a) (hk:∀v,FI v (ginv (gS O) (gm O P C) (zv O) a)→K v σ):zA Tryz.prog 147 [.ptr sp 0,va] σ K:=by
 refine zFY (d:=O.length) s F hs hR (by rw [Nat.sub_self];exact ha) hva fun v z hz hm hv=>?_
 rw [Nat.sub_self]at hz
 obtain rfl:z=ginv (gS O) (gm O P C) (zv O) a:=F.g.inv_eq ha hz hm;exact hk v hv
theorem zJi {wD:Bool} {aD:AV} {rD:List PV} (g:LG O P C) (hs:PtrG σ sp vO vP vC) (hR:IsPr vO vP vC O P C) (hw:FI vw w) (hl:∀k∈w,k≠0∧-(L.length:Int)≤k∧k≤(L.length:Int)) (hwl:w.length≤1000) (hD:All2 FI rD L) (hDl:L.length≤100) (hg:∀y∈L,gS O y)
  (hk:∀v,FI v (evS O P C L w)→K v σ):zA Tryz.prog 130 [.ptr sp 0,vw,.fz wD aD L.length rD] σ K:=by
 have s:=g.s;have F:=g.F;have hl6:=s.le;have hspl:=hs.lt;have hR0:=hR;obtain⟨⟨wO,aO,rfl⟩,_,_⟩:=hR;obtain⟨ww,aw,rfl⟩:=hw;refine zA.gh ?_;refine zD mix Tryz.func130 ?_;have r0:∀{H:PHeap},Keep σ H→H.rd1 sp 0=some (.fz wO aO O.length (pis O)):=fun k=>by rw [zi (hs.keep k).obj];rfl
 simp only [pwA,seval,-iQ0,r0 (Keep.refl σ),qh,mk8 (n:=O.length) (by omega),Go.Ab.mkL (n:=O.length) (by omega)]
 refine zC (fun m vs h=>∃(i:Nat),i≤w.length∧m=w.length-i∧vs=[.ptr sp 0,.fz wD aD L.length rD,.sl σ.next 0 O.length (.known O.length),.fz ww aw w.length (pis w),.int .i64 w.length,.int .i64 i]∧Keep σ h∧h.obj σ.next=some (pis (evS O P C L (w.take i)))∧σ.next<h.next) w.length ?_ ?_
 ·exact⟨0,Nat.zero_le _,rfl,rfl,zB σ _,by rw [zH,if_pos rfl];rfl,Nat.lt_succ_self _⟩
 rintro m vs h ⟨i,hi,rfl,rfl,hkp,hob,hlt0⟩
 simp only [pwA,seval,-iQ0];refine iteI (fun hlt=>?_) fun hge=>?_
 rotate_left
 ·have e:w.take i=w:=List.take_of_length_le (by omega)
  rw [e]at hob
  have hel:(evS O P C L w).length=O.length:=(zCf s F hg hl).len;rw [←hel];exact Gh.finF hkp hob (Nat.le_refl _) (zh _ _) (show full 1 (.known _) _ from .inr rfl).ok fun o=>hk _ ⟨true,_,rfl⟩
 have hlt':(i:Int)<(w.length:Int):=by omega
 have gx:(pis w)[i]? = some (.int .i64 w[i]):=by rw [z8,gi hlt];rfl
 have lw:=hl _ (List.getElem_mem hlt);have hy:gS O (evS O P C L (w.take i)):=zCf s F hg fun k hk'=>hl k (List.mem_of_mem_take hk')
 have hsh:=hs.keep hkp;have hne:sp≠σ.next:=Nat.ne_of_lt hspl;have stp:∀{k:Int},w[i]=k→∀{z:List Int},evL O P C L k=z→gm O P C (evS O P C L (w.take i)) z=evS O P C L (w.take (i+1)):=fun {k} hk' {z} hz=>by
  rw [List.take_succ_eq_append_getElem hlt,zG4,hk',hz]
 by_cases hpos:0<w[i]
 ·obtain⟨j,hj⟩:∃j:Nat,w[i]=(j:Int)+1:=⟨(w[i] - 1).toNat,by omega⟩
  have hjD:j<L.length:=by omega
  have hjD':(j:Int)<(L.length:Int):=by omega
  obtain⟨w5,a5,hr5⟩:=hD.rowI hjD;have wj:IntKind.i64.wrap ((j:Int)+1-1)=(j:Int):=by rw [wrap64 (by omega) (by omega)];omega
  have dn:¬(j:Int)+1<0:=by omega
  rw [hj]at gx
  simp only [pwA,seval,-iQ0,hlt,hlt',gx];refine zPn (by omega) ?_
  simp only [pwA,seval,-iQ0,wj,hjD,hjD',hr5,dn];have hgj:=hg _ (List.getElem_mem hjD);refine Zf (x:=evS O P C L (w.take i)) (f:=L[j]) s F hsh hR0 hob hlt0 (by omega) (.inr rfl) (by rw [Nat.sub_self];exact hy) (by rw [Nat.sub_self];exact hgj) ⟨w5,a5,rfl⟩ ?_
  have ez:evL O P C L ((j:Int)+1)=L[j]:=by
   unfold evL;rw [if_pos (by omega),show((j:Int)+1-1).toNat=j by omega,List.getD_eq_getElem?_getD,List.getElem?_eq_getElem hjD];rfl
  have es:=stp hj ez;simp only [pwA,seval,-iQ0,wrapS hlt (by omega:w.length≤4611686018427387904)]
  exact⟨_,by omega,i+1,by omega,rfl,rfl,hkp.set (Nat.le_refl _) _,by rw [←es],hlt0⟩
 ·obtain⟨j,hj⟩:∃j:Nat,w[i]=-((j:Int)+1):=⟨(-w[i] - 1).toNat,by omega⟩
  have hjD:j<L.length:=by omega
  have hjD':(j:Int)<(L.length:Int):=by omega
  obtain⟨w5,a5,hr5⟩:=hD.rowI hjD;have wj:IntKind.i64.wrap ((j:Int)+1-1)=(j:Int):=by rw [wrap64 (by omega) (by omega)];omega
  have dn:-((j:Int)+1)<0:=by omega
  rw [hj]at gx
  simp only [pwA,seval,-iQ0,hlt,hlt',gx];refine zOl (by omega) ?_
  simp only [pwA,seval,-iQ0,wj,hjD,hjD',hr5,dn];have hgj:=hg _ (List.getElem_mem hjD);refine zMs s F hsh hR0 hgj ⟨w5,a5,rfl⟩ fun v2 hv2=>?_
  have hi2:=(F.g.inv_in hgj).1;have one2:=hv2.one;simp only [pwA,seval,-iQ0,one2];refine Zf (x:=evS O P C L (w.take i)) (f:=ginv (gS O) (gm O P C) (zv O) L[j]) s F hsh hR0 hob hlt0 (by omega) (.inr rfl) (by rw [Nat.sub_self];exact hy) (by rw [Nat.sub_self];exact hi2) hv2 ?_
  have ez:evL O P C L (-((j:Int)+1))=ginv (gS O) (gm O P C) (zv O) L[j]:=by
   unfold evL;rw [if_neg (by omega),show(-(-((j:Int)+1))-1).toNat=j by omega,List.getD_eq_getElem?_getD,List.getElem?_eq_getElem hjD];rfl
  have es:=stp hj ez;simp only [pwA,seval,-iQ0,wrapS hlt (by omega:w.length≤4611686018427387904)]
  exact⟨_,by omega,i+1,by omega,rfl,rfl,hkp.set (Nat.le_refl _) _,by rw [←es],hlt0⟩
theorem zLB {D:List (List Int)} (s:Shp O P C) (hc:Cons O P C) (hR:IsPr vO vP vC O P C) (hw:FI vw w) (hl:∀k∈w,k≠0∧-(D.length:Int)≤k∧k≤(D.length:Int)) (hwl:w.length≤1000) (hD:FII vD D) (hDl:D.length≤100) (hg:∀y∈D,gS O y) (hk:∀v,FI v (evS O P C D w)→K v σ):
  zA Tryz.prog 89 [.agg [vO,vP,vC],vw,vD] σ K:=by
 have g0:=hR.O.one;have g1:=hR.P.one;have g2:=hR.C.one;have F:=Cons.full s hc;have hl6:=s.le;obtain⟨ww,aw,rfl⟩:=hw;obtain⟨wD,aD,rD,rfl,hrD⟩:=hD;refine zA.gh ?_;refine zD mix Tryz.func89 ?_;simp only [pwA,seval,-iQ0,g0,g1,g2];generalize hH:σ.new [vO,vP,vC]=H;have kH:Keep σ H:=by rw [←hH];exact zB _ _
 have r3:H.rd σ.next 0 3=some [vO,vP,vC]:=by rw [←hH];simp only [pwA,seval,-iQ0]
 clear hH;simp only [pwA,seval,-iQ0,r3];refine zMp hR (by omega) fun v0 hv0=>?_
 have h0:=hv0.one;simp only [pwA,seval,-iQ0,h0];refine zC (fun q vs h=>∃(i:Nat) (v:PV),i≤w.length∧q=w.length-i∧vs=[.fz ww aw w.length (pis w),.fz wD aD D.length rD,.ptr σ.next 0,v,.int .i64 i]∧FI v (evS O P C D (w.take i))∧h=H) w.length ?_ ?_
 ·exact⟨0,v0,Nat.zero_le _,rfl,rfl,hv0,rfl⟩
 rintro q vs h ⟨i,v,hi,rfl,rfl,hv,rfl⟩
 have h1:=hv.one;have hy:gS O (evS O P C D (w.take i)):=zCf s F hg fun k hk'=>hl k (List.mem_of_mem_take hk')
 simp only [pwA,seval,-iQ0,h1];refine iteI (fun hlt=>?_) fun hge=>?_
 rotate_left
 ·rw [List.take_of_length_le (by omega)]at hv
  exact Gh.fin0 kH (hv.bel _) (hk v hv)
 have hlt':(i:Int)<(w.length:Int):=by omega
 have gx:(pis w)[i]? = some (.int .i64 w[i]):=by rw [z8,gi hlt];rfl
 have wi:=wrapS hlt (by omega:w.length≤4611686018427387904)
 have lw:=hl _ (List.getElem_mem hlt);have stp:∀{k:Int},w[i]=k→∀{z:List Int},evL O P C D k=z→gm O P C (evS O P C D (w.take i)) z=evS O P C D (w.take (i+1)):=fun {k} hk' {z} hz=>by
  rw [List.take_succ_eq_append_getElem hlt,zG4,hk',hz]
 simp only [pwA,seval,-iQ0,h1,hlt,hlt',gx];refine iteI (fun hpos=>?_) fun hneg=>?_
 ·obtain⟨j,hj⟩:∃j:Nat,w[i]=(j:Int)+1:=⟨(w[i] - 1).toNat,by omega⟩
  have hjD:j<D.length:=by omega
  have hjD':(j:Int)<(D.length:Int):=by omega
  obtain⟨w5,a5,hr5⟩:=hrD.rowI hjD;have wj:IntKind.i64.wrap ((j:Int)+1-1)=(j:Int):=by rw [wrap64 (by omega) (by omega)];omega
  have ez:evL O P C D ((j:Int)+1)=D[j]:=by
   unfold evL;rw [if_pos (by omega),show((j:Int)+1-1).toNat=j by omega,List.getD_eq_getElem?_getD,List.getElem?_eq_getElem hjD];rfl
  have es:=stp hj ez;rw [hj]at gx
  simp only [pwA,seval,-iQ0,h1,hlt,hlt',gx,hj,wj,hjD,hjD',hr5,r3];refine zFU s hR hy (hg _ (List.getElem_mem hjD)) hv ⟨w5,a5,rfl⟩ fun v2 hv2=>?_
  have h2:=hv2.one;rw [es]at hv2
  simp only [pwA,seval,-iQ0,h2,wi];exact⟨_,by omega,i+1,v2,by omega,rfl,rfl,hv2⟩
 ·obtain⟨j,hj⟩:∃j:Nat,w[i]=-((j:Int)+1):=⟨(-w[i] - 1).toNat,by omega⟩
  have hjD:j<D.length:=by omega
  have hjD':(j:Int)<(D.length:Int):=by omega
  obtain⟨w5,a5,hr5⟩:=hrD.rowI hjD;have wn:IntKind.i64.wrap (0 - -((j:Int)+1))=(j:Int)+1:=by rw [wrap64 (by omega) (by omega)];omega
  have wj:IntKind.i64.wrap ((j:Int)+1-1)=(j:Int):=by rw [wrap64 (by omega) (by omega)];omega
  have ez:evL O P C D (-((j:Int)+1))=ginv (gS O) (gm O P C) (zv O) D[j]:=by
   unfold evL;rw [if_neg (by omega),show(-(-((j:Int)+1))-1).toNat=j by omega,List.getD_eq_getElem?_getD,List.getElem?_eq_getElem hjD];rfl
  have es:=stp hj ez;rw [hj]at gx
  simp only [pwA,seval,-iQ0,h1,hlt,hlt',gx,hj,wn,wj,hjD,hjD',hr5,r3];refine zLA s hc hR (hg _ (List.getElem_mem hjD)) ⟨w5,a5,rfl⟩ fun v2 hv2=>?_
  have hi2:gS O (ginv (gS O) (gm O P C) (zv O) D[j]):=(F.g.inv_in (hg _ (List.getElem_mem hjD))).1;simp only [pwA,seval,-iQ0,hv2.one,h1,r3];refine zFU s hR hy hi2 hv hv2 fun v3 hv3=>?_
  have h3:=hv3.one;rw [es]at hv3
  simp only [pwA,seval,-iQ0,h3,wi];exact⟨_,by omega,i+1,v3,by omega,rfl,rfl,hv3⟩
end Go.Proofs
namespace Go.Grp
end Go.Grp
set_option linter.unusedSimpArgs false
set_option linter.unusedVariables false
set_option linter.unusedSectionVars false
namespace Go.Proofs
open Go.Ab Go.Lie Go.Grp
variable {σ h hE:PHeap} {K:PV→PHeap→Prop} {O x y w:List Int} {P:List (List Int)} {C:List (List (List Int))} {vO vP vC vx vL vU vZ vw vD v:PV} {L u Z:List (List Int)} {sp n:Nat}
theorem zEZ (hv:FI v x) (hn:x.length≤6) (hx:∀a∈x,0≤a∧a≤7) (hk:∀u,FI u (Mx.nw x)→K u σ):zA Tryz.prog 85 [v] σ K:=by
 obtain⟨w,a,rfl⟩:=hv;have hnl:∀i,i≤x.length→(Mx.nword x i).length≤7*i:=fun i=>by
  induction i with
  | zero=>intro _;exact Nat.le_refl _
  | succ i ih=>
   intro hi
   have:=ih (by omega)
   have b:=hx _ (List.getElem_mem (show i<x.length by omega))
   rw [Mx.nword,List.length_append,List.length_replicate];have e:nx x i=(x[i]'(by omega)).toNat:=by unfold nx;rw [at_eq (by omega)]
   rw [e];omega
 refine zA.gh ?_;refine zD mix Tryz.func85 ?_;simp only [pwA,seval,-iQ0];refine zC (fun m vs h=>∃(i:Nat) (v:PV),i≤x.length∧m=x.length-i∧vs=[.fz w a x.length (pis x),v,.int .i64 i]∧Keep σ h∧PSl σ.next 1 h v (Mx.nword x i).length (pis (Mx.nword x i))) x.length ?_ ?_
 ·exact⟨0,_,Nat.zero_le _,rfl,rfl,zB _ _,PSl.new _ 1 rfl (Nat.le_refl _)⟩
 rintro m vs h ⟨i,v,hi,rfl,rfl,kk,pa⟩
 have h1:=pa.one;have hul:=hnl i hi;simp only [pwA,seval,-iQ0,h1];refine iteI (fun hlt=>?_) fun hge=>?_
 rotate_left
 ·obtain rfl:i=x.length:=by omega
  exact pa.fin kk (zh _ _) fun o cap=>hk _ ⟨true,_,rfl⟩
 have hlt':(i:Int)<(x.length:Int):=by omega
 have gx:(pis x)[i]? = some (.int .i64 x[i]):=by rw [z8,gi hlt];rfl
 have xb:=hx _ (List.getElem_mem hlt);refine zC (fun m vs h=>∃(j:Nat) (v:PV),(j:Int)≤x[i]∧m=7-j∧vs=[.fz w a x.length (pis x),v,.int .i64 i,.int .i64 j]∧Keep σ h∧PSl σ.next 1 h v (Mx.nword x i++List.replicate j ((i:Int)+1)).length (pis (Mx.nword x i++List.replicate j ((i:Int)+1)))) 7 ?_ ?_
 ·exact⟨0,v,by omega,rfl,rfl,kk,by rw [List.replicate_zero,List.append_nil];exact pa⟩
 clear pa kk h1
 rintro m vs h ⟨j,v,hj,rfl,rfl,kk,pa⟩
 have h1:=pa.one;have hll:(Mx.nword x i++List.replicate j ((i:Int)+1)).length=(Mx.nword x i).length+j:=by rw [List.length_append,List.length_replicate]
 simp only [pwA,seval,-iQ0,h1,hlt,hlt',gx];refine iteI (fun hjt=>?_) fun hge=>?_
 rotate_left
 ·have e:Mx.nword x i++List.replicate j ((i:Int)+1)=Mx.nword x (i+1):=by
   rw [Mx.nword]
   have:nx x i=j:=by unfold nx;rw [at_eq hlt];omega
   rw [this]
  rw [e]at pa
  simp only [pwA,seval,-iQ0,h1,wrapS hlt (by omega:x.length≤4611686018427387904)]
  exact⟨_,by omega,i+1,v,by omega,rfl,rfl,kk,pa⟩
 have wi:IntKind.i64.wrap ((i:Int)+1)=(i:Int)+1:=wrap64 (by omega) (by omega)
 have wj:IntKind.i64.wrap ((j:Int)+1)=((j+1:Nat):Int):=by rw [wrap64 (by omega) (by omega)];omega
 simp only [pwA,seval,-iQ0,h1,wi];refine PSl.push (σb:=σ) (bytes:=8) kk pa (by omega) (by omega) fun v2 h2 k2 a2=>?_
 have h3:=a2.one;simp only [pwA,seval,-iQ0,h3,wj];have e:Mx.nword x i++List.replicate (j+1) ((i:Int)+1)=(Mx.nword x i++List.replicate j ((i:Int)+1))++[(i:Int)+1]:=by rw [List.replicate_succ',List.append_assoc]
 have e2:∀z:List Int,pis (z++[(i:Int)+1])=pis z++[.int .i64 ((i:Int)+1)]:=fun z=>by simp [pis]
 have fin:∀{z:List Int},PSl σ.next 1 h2 v2 (z.length+1) (pis z++[.int .i64 ((i:Int)+1)])→PSl σ.next 1 h2 v2 (z++[(i:Int)+1]).length (pis (z++[(i:Int)+1])):=fun h=>by rw [e2,List.length_append];exact h
 exact⟨_,by omega,j+1,v2,by omega,rfl,rfl,k2,by rw [e];exact fin a2⟩
theorem zCZ (hv:FI v w) (hn:w.length≤1000) (hb:∀l∈w,-1000≤l∧l≤1000) (hk:∀u,FI u (winv w)→K u σ):zA Tryz.prog 111 [v] σ K:=by
 obtain⟨ww,a,rfl⟩:=hv;have hwl:(winv w).length=w.length:=QN;have gw:∀j,(hj:j<w.length)→(winv w).take (j+1)=(winv w).take j++[-w[w.length-1-j]]:=fun j hj=>by
  rw [List.take_succ_eq_append_getElem (by omega)]
  congr 2
  unfold winv;rw [List.getElem_reverse,List.getElem_map]
  congr 2
  simp
 refine zA.gh ?_;refine zD mix Tryz.func111 ?_;have w0:IntKind.i64.wrap ((w.length:Int)-1)=(w.length:Int)-1:=wrap64 (by omega) (by omega)
 simp only [pwA,seval,-iQ0,w0];refine zC (fun m vs h=>∃(j:Nat) (v:PV),j≤w.length∧m=w.length-j∧vs=[.fz ww a w.length (pis w),v,.int .i64 ((w.length:Int)-1-j)]∧Keep σ h∧PSl σ.next 1 h v j (pis ((winv w).take j))) w.length ?_ ?_
 ·exact⟨0,_,Nat.zero_le _,rfl,by rw [show((w.length:Int)-1-((0:Nat):Int))=(w.length:Int)-1 by omega];rfl,zB _ _,PSl.new _ 1 rfl (Nat.le_refl _)⟩
 rintro m vs h ⟨j,v,hj,rfl,rfl,kk,pa⟩
 have h1:=pa.one;rcases Nat.lt_or_ge j w.length with hlt|hge
 ·have g0:(0:Int)≤(w.length:Int)-1-j:=by omega
  have ei:(w.length:Int)-1-j=((w.length-1-j:Nat):Int):=by omega
  have hi:w.length-1-j<w.length:=by omega
  have hi':((w.length-1-j:Nat):Int)<(w.length:Int):=by omega
  have gx:(pis w)[w.length-1-j]? = some (.int .i64 w[w.length-1-j]):=by rw [z8,gi hi];rfl
  have bx:=hb _ (List.getElem_mem hi);have wn:IntKind.i64.wrap (0-w[w.length-1-j])=-w[w.length-1-j]:=by rw [wrap64 (by omega) (by omega)];omega
  have w1:IntKind.i64.wrap (((w.length-1-j:Nat):Int)-1)=(w.length:Int)-1-((j+1:Nat):Int):=by rw [wrap64 (by omega) (by omega)];omega
  have n0:(0:Int)≤((w.length-1-j:Nat):Int):=by omega
  rw [ei];simp only [pwA,seval,-iQ0,h1,hi,hi',n0,gx,wn];refine PSl.push (σb:=σ) (bytes:=8) kk pa (by omega) (by omega) fun v2 h2 k2 a2=>?_
  have h3:=a2.one;simp only [pwA,seval,-iQ0,h3,w1];have e2:∀z:List Int,∀q:Int,pis (z++[q])=pis z++[.int .i64 q]:=fun z q=>by simp [pis]
  exact⟨_,by omega,j+1,v2,by omega,rfl,rfl,k2,by rw [gw j hlt,e2];exact a2⟩
 ·obtain rfl:j=w.length:=by omega
  have n0:¬(0:Int)≤(w.length:Int)-1-(w.length:Int):=by omega
  simp only [pwA,seval,-iQ0,h1,n0];rw [List.take_of_length_le (by omega)]at pa
  exact pa.fin kk (zh _ _) fun o cap=>hk _ ⟨true,_,by rw [hwl]⟩
end Go.Proofs
namespace Go.Grp
end Go.Grp
set_option linter.unusedSimpArgs false
set_option linter.unusedVariables false
set_option linter.unusedSectionVars false
namespace Go.Proofs
open Go.Ab Go.Lie Go.Grp
variable {σ h hE:PHeap} {K:PV→PHeap→Prop} {O x y w:List Int} {P:List (List Int)} {C:List (List (List Int))} {vO vP vC vx vL vU vZ vw vD v:PV} {L u Z:List (List Int)} {sp n:Nat}
theorem PAcc.finB {σb:PHeap} {e n:Nat} {cs:List PV} (hb:σ.next≤σb.next) (hk:Keep σ h) (a:PAcc σb.next e h v n cs) (hl:Bels 0 cs) (k:∀a,K (.fz true a n cs) σ):Gh σ K v h:=by
 rcases a with ⟨rfl,rfl,rfl⟩|⟨s,cap,rfl,hc,q2,q3,q4,q5⟩
 ·exact Gh.fin0 hk trivial (k _)
 ·exact Gh.finF hk q2 (by omega) hl hc.ok fun o=>k _
theorem zGf (s:Shp O P C) {c:List Int} {i:Nat} (hc:TT O i c) (hi:i≤O.length):c.length≤6∧(∀a∈c,0≤a∧a≤7)∧(Mx.nw c).length≤42∧∀l∈Mx.nw c,-1000≤l∧l≤1000:=by
 have h6:=s.le;have hl:=hc.len;have h1:=zAF hc hi;refine⟨by omega,fun a ha=>?_,by have:=zBF s hc;rw [QP hl,List.length_map];exact this,fun l hl'=>by have:=h1 l hl';omega⟩
 obtain⟨j,hj,rfl⟩:=List.mem_iff_getElem.1 ha;have b:=hc.bd j (by omega)
 rw [at_eq hj]at b
 have o:=s.pr j (by omega)
 omega
set_option maxHeartbeats 1600000 in
theorem zFD (hp:qE O P C) (hR:IsPr vO vP vC O P C) (hk:∀v R,FII v R→((∀r∈R,RelOK O P C r)∧∀r,RelOK O P C r→r∈R)→R.length≤100→K v σ):zA Tryz.prog 88 [.agg [vO,vP,vC]] σ K:=by
 have s:=hp.shp;have h6:=s.le;have g1:=hR.O.one;have g2:=hR.P.one;have g3:=hR.C.one;obtain⟨⟨w0,a0,rfl⟩,⟨w1,a1,rP,rfl,hP⟩,⟨w3,a3,rC,rfl,hC⟩⟩:=hR;refine zA.pwf fun wf=>zA.gh ?_
 have ob:(σ.new [.fz w0 a0 O.length (pis O),.fz w1 a1 P.length rP,.fz w3 a3 C.length rC]).obj σ.next=some [.fz w0 a0 O.length (pis O),.fz w1 a1 P.length rP,.fz w3 a3 C.length rC]:=by rw [zH,if_pos rfl]
 have hwf:PWF (σ.new [PV.fz w0 a0 O.length (pis O),.fz w1 a1 P.length rP,.fz w3 a3 C.length rC]):=PWF.newF wf ⟨trivial,trivial,trivial,trivial⟩;have k1:=zB σ [PV.fz w0 a0 O.length (pis O),.fz w1 a1 P.length rP,.fz w3 a3 C.length rC];have hn1:(σ.new [PV.fz w0 a0 O.length (pis O),.fz w1 a1 P.length rP,.fz w3 a3 C.length rC]).next=σ.next+1:=rfl;refine zD mix Tryz.func88 ?_;simp only [pwA,seval,-iQ0,g1,g2,g3];generalize σ.new [PV.fz w0 a0 O.length (pis O),.fz w1 a1 P.length rP,.fz w3 a3 C.length rC]=H at *
 have e00:H.rd1 σ.next 0=some (.fz w0 a0 O.length (pis O)):=by rw [zi ob];rfl
 have hsn0:¬σ.next=H.next:=by omega
 simp only [pwA,seval,-iQ0,e00,hsn0];rw [←hn1];refine Zi (fun m us h'=>∃(i:Nat) (vL:PV) (R:List (List Int)) (rows:List PV),i≤O.length∧m=O.length-i∧us=[.ptr σ.next 0,vL,.int .i64 O.length,.int .i64 i]∧Keep H h'∧PAcc H.next 1 h' vL R.length rows∧All2 FI rows R∧R.length=i∧RelSt O P C R i 0 0) O.length ?_ ?_
 ·exact .here ⟨0,_,[],[],by omega,by omega,rfl,zB H _,PSl.acc (PSl.new _ 1 rfl (Nat.le_refl _)),All2.nil _,rfl,fun r hr=>(by cases hr),fun j hj=>by omega,fun j q hj=>by omega⟩
 rintro m us h' ⟨i,vL,R,rows,hi,rfl,rfl,hkp,ha,hall,hRl,hok⟩
 have hnx:=hkp.next;have hob:h'.obj σ.next=some [.fz w0 a0 O.length (pis O),.fz w1 a1 P.length rP,.fz w3 a3 C.length rC]:=by rw [hkp.obj _ (by omega)];exact ob
 have one:=ha.one;simp only [pwA,seval,-iQ0,one];refine iteI (fun hlt=>?_) fun hge=>?_
 ·have bO:=s.pr i hlt
  rw [at_eq hlt]at bO
  have hnO:((nx O i:Nat):Int)=O[i]:=by unfold nx;rw [at_eq hlt];omega
  have hiP:i<P.length:=by rw [s.pl];exact hlt
  obtain⟨w5,a5,hpr⟩:=hP.rowI hiP;have hpv:=s.pw i hlt;have gP:P.getD i []=P[i]:=qj hiP;rw [show pvec P i=P[i] from gP]at hpv
  have hrel:relW O P i=List.replicate (nx O i) ((i:Int)+1)++winv (Mx.nw P[i]):=by unfold relW;rw [show pvec P i=P[i] from gP]
  obtain⟨f1,f2,f3,f4⟩:=zGf s hpv (by omega)
  have ew:IntKind.i64.wrap ((i:Int)+1)=(i:Int)+1:=wrap64 (by omega) (by omega)
  have hokr:RelSt O P C (R++[relW O P i]) (i+1) 0 0:=by
   refine⟨fun r hr=>?_,fun j hj=>?_,fun j q hj=>by omega⟩
   ·rcases List.mem_append.1 hr with h | h
    ·exact hok.1 r h
    ·rw [List.mem_singleton.1 h];exact .inl ⟨i,hlt,rfl⟩
   ·rcases Nat.lt_or_ge j i with h | h
    ·exact List.mem_append.2 (.inl (hok.2.1 j h))
    ·obtain rfl:j=i:=by omega
     exact List.mem_append.2 (.inr (List.mem_singleton.2 rfl))
  have gO:(pis O)[i]? = some (.int .i64 O[i]):=by rw [z8,gi hlt];rfl
  have hlt':(i:Int)<(O.length:Int):=by omega
  refine zC (fun m us h2=>∃(j:Nat) (v:PV),(j:Int)≤O[i]∧m=8-j∧us=[.ptr σ.next 0,vL,.int .i64 O.length,.int .i64 i,v,.int .i64 j]∧Keep h' h2∧PSl h'.next 1 h2 v j (pis (List.replicate j ((i:Int)+1)))) 8 ?_ ?_
  ·exact⟨0,_,by omega,rfl,rfl,zB h' _,PSl.new _ 1 rfl (Nat.le_refl _)⟩
  rintro m us h2 ⟨j,v,hj,rfl,rfl,hk2,pa⟩
  have hob2:h2.obj σ.next=some [.fz w0 a0 O.length (pis O),.fz w1 a1 P.length rP,.fz w3 a3 C.length rC]:=by rw [hk2.obj _ (by omega)];exact hob
  have e0:h2.rd1 σ.next 0=some (.fz w0 a0 O.length (pis O)):=by rw [zi hob2];rfl
  have e1:h2.rd1 σ.next 1=some (.fz w1 a1 P.length rP):=by rw [zi hob2];rfl
  have onev:=pa.one;simp only [pwA,seval,-iQ0,one,onev,e0,e1,hlt,hlt',gO];refine iteI (fun hjt=>?_) fun hge=>?_
  ·have wj:IntKind.i64.wrap ((j:Int)+1)=((j+1:Nat):Int):=by rw [wrap64 (by omega) (by omega)];omega
   simp only [pwA,seval,-iQ0,one,onev,ew];refine PSl.push (σb:=h') (bytes:=8) hk2 pa (by omega) (by omega) fun v2 h3 k3 a3=>?_
   have h3o:=a3.one;simp only [pwA,seval,-iQ0,one,h3o,wj];exact⟨_,by omega,j+1,v2,by omega,rfl,rfl,k3,by rw [List.replicate_succ',show pis (List.replicate j ((i:Int)+1)++[(i:Int)+1])=pis (List.replicate j ((i:Int)+1))++[.int .i64 ((i:Int)+1)] by simp [pis]];exact a3⟩
  have hjO:j=nx O i:=by omega
  subst hjO;simp only [pwA,seval,-iQ0,one,onev,e1,hiP,hpr];refine zEZ ⟨w5,a5,rfl⟩ f1 f2 fun v2 hv2=>?_
  simp only [pwA,seval,-iQ0,one,onev,hv2.one];refine zCZ hv2 (by omega) f4 fun v3 hv3=>?_
  have hwl:=QN (w:=Mx.nw P[i]);obtain⟨w6,a6,rfl⟩:=hv3;have hxo:nx O i≤7:=by omega
  simp only [pwA,seval,-iQ0,one,onev];refine PSl.cat (bytes:=8) (σb:=h') hk2 pa (by rw [zG]) (by omega) (by omega) fun v4 h4 k4 a4=>?_
  obtain⟨s2,cap2,rfl,hc2,q2,q3,q4,q5⟩:=a4;rw [Qe,←hrel]at q2
  have hcll:(relW O P i).length=nx O i+(winv (Mx.nw P[i])).length:=by rw [hrel,List.length_append,List.length_replicate]
  have k5:=hkp.trans k4;have a5':=ha.keep k4;simp only [pwA,seval,-iQ0,one];refine PAcc.pushS (σb:=H) (bytes:=24) (news:=[.sl s2 0 (nx O i+(winv (Mx.nw P[i])).length) cap2]) k5 a5' rfl (by omega) (by omega) fun v' h2 k6 a6' o2 n2 l2=>?_
  have onev':=a6'.one;simp only [pwA,seval,-iQ0,onev',wrapS hlt (by omega:O.length≤4611686018427387904)]
  have og:h2.obj s2=some (pis (relW O P i)):=by rw [o2 _ q5 (ha.ne q4)];exact q2
  refine⟨O.length-(i+1),by omega,.fzh s2 _ og (zh _ _) fun o3=>?_⟩
  obtain⟨f1,f2,f3⟩:=PSl.fzr hwf k6 a6' (s:=s2) (cs:=pis (relW O P i)) (by omega) (n2 _ q5) o3
  rw [zCw (hall.bI 0) hc2.ok]at f2
  refine .here ⟨i+1,v',R++[relW O P i],_,by omega,rfl,?_,f1,by rw [List.length_append];exact f2.acc,hall.snoc ⟨true,.sl o3 0 (nx O i+(winv (Mx.nw P[i])).length) cap2,by rw [hcll]⟩,by simp [hRl],hokr⟩
  show sbs s2 o3 (pis (relW O P i)) [PV.ptr σ.next 0,v',.int .i64 O.length,.int .i64 ((i+1:Nat):Int)]=_;simp only [sbs,sb,f3]
 obtain rfl:i=O.length:=by omega
 simp only [pwA,seval,-iQ0,one];refine zC (fun m us h'=>∃(i:Nat) (vL:PV) (R:List (List Int)) (rows:List PV),i≤O.length∧m=O.length-i∧us=[.ptr σ.next 0,vL,.int .i64 O.length,.int .i64 i]∧Keep H h'∧PAcc H.next 1 h' vL R.length rows∧All2 FI rows R∧R.length≤6+6*i∧RelSt O P C R O.length i 0) O.length ?_ ?_
 ·exact⟨0,vL,R,rows,by omega,by omega,rfl,hkp,ha,hall,by omega,hok⟩
 clear ha hall hok hkp hob hnx hRl hge hi one
 rintro m us h' ⟨i,vL,R,rows,hi,rfl,rfl,hkp,ha,hall,hRl,hok⟩
 have hnx:=hkp.next;have one:=ha.one;simp only [pwA,seval,-iQ0,one];refine iteI (fun hlt=>?_) fun hge=>?_
 rotate_left
 ·exact PAcc.finB (σb:=H) (by omega) (k1.trans hkp) ha (hall.bI 0) fun a=>hk _ R ⟨true,a,rows,rfl,hall⟩ ⟨hok.1,RelSt.all ((show i=O.length by omega) ▸ hok)⟩ (by omega)
 have hiC:i<C.length:=by rw [s.cl];exact hlt
 obtain⟨w5,a5,rs,hrb,hrs⟩:=cvRow s hC hlt;have wi1:IntKind.i64.wrap ((i:Int)+1)=((i+1:Nat):Int):=by rw [wrap64 (by omega) (by omega)];omega
 simp only [pwA,seval,-iQ0,one,wi1];refine Zi (fun m us h'=>∃(k:Nat) (vL:PV) (R:List (List Int)) (rows:List PV),k≤O.length-1-i∧m=O.length-1-i-k∧us=[.ptr σ.next 0,vL,.int .i64 O.length,.int .i64 i,.int .i64 ((i+(1+k):Nat):Int)]∧Keep H h'∧PAcc H.next 1 h' vL R.length rows∧All2 FI rows R∧R.length≤6+6*i+k∧RelSt O P C R O.length i k) (O.length-1-i) ?_ ?_
 ·exact .here ⟨0,vL,R,rows,by omega,by omega,rfl,hkp,ha,hall,by omega,hok⟩
 clear ha hall hok hkp hnx hRl one
 rintro m us h' ⟨k,vL,R,rows,hk',rfl,rfl,hkp,ha,hall,hRl,hok⟩
 have one:=ha.one;have hnx:=hkp.next;have hob:h'.obj σ.next=some [.fz w0 a0 O.length (pis O),.fz w1 a1 P.length rP,.fz w3 a3 C.length rC]:=by rw [hkp.obj _ (by omega)];exact ob
 simp only [pwA,seval,-iQ0,one];refine iteI (fun hlk=>?_) fun hgk=>?_
 rotate_left
 ·obtain rfl:k=O.length-1-i:=by omega
  simp only [pwA,seval,-iQ0,one,wi1];exact⟨_,by omega,i+1,vL,R,rows,by omega,rfl,rfl,hkp,ha,hall,by omega,hok.next⟩
 have hlk0:k<O.length-1-i:=by omega
 obtain⟨w7,a7,hrk⟩:=hrs k hlk0;have hcv:=s.cj i (i+(1+k)) (by omega) (by omega)
 have hcon:conW C i k=[-((i:Int)+1),((i+k:Nat):Int)+2,(i:Int)+1]++winv (Mx.nw (cvec C i (i+(1+k)))):=rfl;generalize hc:cvec C i (i+(1+k))=c at *
 obtain⟨f1,f2,f3,f4⟩:=zGf s hcv (by omega)
 have hcl:=hcv.len;have hokr:RelSt O P C (R++[conW C i k]) O.length i (k+1):=by
  refine⟨fun r hr=>?_,fun j hj=>List.mem_append.2 (.inl (hok.2.1 j hj)),fun j q hj hq=>?_⟩
  ·rcases List.mem_append.1 hr with h | h
   ·exact hok.1 r h
   ·rw [List.mem_singleton.1 h];exact .inr ⟨i,k,by omega,rfl⟩
  ·by_cases e:j=i∧q=k
   ·obtain⟨rfl,rfl⟩:=e
    exact List.mem_append.2 (.inr (List.mem_singleton.2 rfl))
   ·exact List.mem_append.2 (.inl (hok.2.2 j q (by omega) hq))
 have ew0:IntKind.i64.wrap (0-(i:Int))=-(i:Int):=by rw [wrap64 (by omega) (by omega)];omega
 have ew1:IntKind.i64.wrap (-(i:Int)-1)=-((i:Int)+1):=by rw [wrap64 (by omega) (by omega)];omega
 have ew2:IntKind.i64.wrap (((i+(1+k):Nat):Int)+1)=((i+k:Nat):Int)+2:=by rw [wrap64 (by omega) (by omega)];omega
 have ew3:IntKind.i64.wrap ((i:Int)+1)=(i:Int)+1:=wrap64 (by omega) (by omega)
 have ew4:IntKind.i64.wrap (((i+(1+k):Nat):Int)-(i:Int))=((1+k:Nat):Int):=by rw [wrap64 (by omega) (by omega)];omega
 have ew5:IntKind.i64.wrap (((1+k:Nat):Int)-1)=(k:Int):=by rw [wrap64 (by omega) (by omega)];omega
 have ew6:IntKind.i64.wrap (((i+(1+k):Nat):Int)+1)=((i+(1+(k+1)):Nat):Int):=by rw [wrap64 (by omega) (by omega)];omega
 have hn3:¬σ.next=h'.next:=by omega
 have e2:h'.rd1 σ.next 2=some (.fz w3 a3 C.length rC):=by rw [zi hob];rfl
 have hlk1:(k:Int)<((O.length-1-i:Nat):Int):=by omega
 simp only [pwA,seval,-iQ0,one,ew0,ew1,ew2,ew3,ew4,ew5,e2,hn3,hiC,hrb,hrk,hlk0,hlk1];refine zEZ ⟨w7,a7,by rw [hcl]⟩ f1 f2 fun v2 hv2=>?_
 simp only [pwA,seval,-iQ0,one,hv2.one];refine zCZ hv2 (by omega) f4 fun v3 hv3=>?_
 obtain⟨w6,a6,rfl⟩:=hv3;have hwl:=QN (w:=Mx.nw c);generalize hrest:winv (Mx.nw c)=rest at *
 simp only [pwA,seval,-iQ0,one];refine PSl.cat (bytes:=8) (σb:=h') (n:=3) (cs:=pis [-((i:Int)+1),((i+k:Nat):Int)+2,(i:Int)+1]) (zB _ _) (PSl.new _ 1 rfl (Nat.le_refl _)) (by rw [zG]) (by omega) (by omega) fun v4 h4 k4 a4=>?_
 obtain⟨s2,cap2,rfl,hc2,q2,q3,q4,q5⟩:=a4;rw [Qe,←hcon]at q2
 have hcll:(conW C i k).length=3+rest.length:=by rw [hcon];simp;omega
 have k5:=hkp.trans k4;have a5':=ha.keep k4;simp only [pwA,seval,-iQ0,one];refine PAcc.pushS (σb:=H) (bytes:=24) (news:=[.sl s2 0 (3+rest.length) cap2]) k5 a5' rfl (by omega) (by omega) fun v' h2 k6 a6' o2 n2 l2=>?_
 have onev':=a6'.one;simp only [pwA,seval,-iQ0,onev',ew6];have og:h2.obj s2=some (pis (conW C i k)):=by rw [o2 _ q5 (ha.ne q4)];exact q2
 refine⟨O.length-1-i-(k+1),by omega,.fzh s2 _ og (zh _ _) fun o3=>?_⟩
 obtain⟨f1,f2,f3⟩:=PSl.fzr hwf k6 a6' (s:=s2) (cs:=pis (conW C i k)) (by omega) (n2 _ q5) o3
 rw [zCw (hall.bI 0) hc2.ok]at f2
 refine .here ⟨k+1,v',R++[conW C i k],_,by omega,rfl,?_,f1,by rw [List.length_append];exact f2.acc,hall.snoc ⟨true,.sl o3 0 (3+rest.length) cap2,by rw [hcll]⟩,by simp;omega,hokr⟩
 show sbs s2 o3 (pis (conW C i k)) [PV.ptr σ.next 0,v',.int .i64 O.length,.int .i64 i,.int .i64 ((i+(1+(k+1)):Nat):Int)]=_;simp only [sbs,sb,f3]
end Go.Proofs
namespace Go.Grp
end Go.Grp
set_option linter.unusedSimpArgs false
set_option linter.unusedVariables false
set_option linter.unusedSectionVars false
namespace Go.Proofs
open Go.Ab Go.Lie Go.Grp
variable {σ h hE:PHeap} {K:PV→PHeap→Prop} {O O' x y w:List Int} {P P':List (List Int)} {C C':List (List (List Int))} {vO vP vC vO' vP' vC' vx vL vU vZ vw vD vR v:PV} {L u Z D R:List (List Int)} {sp n:Nat}
def zGF (O:List Int) (P:List (List Int)) (C:List (List (List Int))) (O':List Int) (P':List (List Int)) (C':List (List (List Int))) (D:List (List Int)):Prop:=∀r,RelOK O P C r→isZ (evS O' P' C' D r)
theorem zHX (g:LG O P C) (hs:PtrG σ sp vO vP vC) (hR:IsPr vO vP vC O P C) (hRel:FII vR R) (hr:∀r∈R,Lts D.length r∧r.length≤60) (hRl:R.length≤100) (hD:FII vD D) (hDl:D.length≤100) (hg:∀y∈D,gS O y)
  (hk:∀t:Bool,(t=true↔∀r∈R,isZ (evS O P C D r))→K (.bool t) σ):zA Tryz.prog 102 [vR,.ptr sp 0,vD] σ K:=by
 have fl:∀{A:Prop},¬A→((false=true)↔A):=fun h=>⟨fun x=>(by cases x),fun x=>absurd x h⟩
 obtain⟨wR,aR,rR,rfl,hrR⟩:=hRel;obtain⟨wD,aD,rD,rfl,hrD⟩:=hD;refine zD mix Tryz.func102 ?_;simp only [pwA,seval,-iQ0];refine zC (fun m vs h=>∃(i:Nat),i≤R.length∧m=R.length-i∧vs=[.ptr sp 0,.fz wD aD D.length rD,.fz wR aR R.length rR,.int .i64 R.length,.int .i64 i]∧h=σ∧∀r∈R.take i,isZ (evS O P C D r)) R.length ?_ ?_
 ·exact⟨0,Nat.zero_le _,rfl,rfl,rfl,fun r hr=>by simp at hr⟩
 rintro m vs h ⟨i,hi,rfl,rfl,rfl,hin⟩
 simp only [pwA,seval,-iQ0];refine iteI (fun hlt=>?_) fun hge=>?_
 rotate_left
 ·rw [List.take_of_length_le (by omega)]at hin
  exact hk _ ⟨fun _=>hin,fun _=>rfl⟩
 have hlt':(i:Int)<(R.length:Int):=by omega
 obtain⟨w5,a5,h5⟩:=hrR.rowI hlt;have mem:R[i]∈R:=List.getElem_mem hlt;obtain⟨b1,b2⟩:=hr _ mem;simp only [pwA,seval,-iQ0,hlt,hlt',h5];refine zJi g hs hR ⟨w5,a5,rfl⟩ b1 (by omega) hrD hDl hg fun v5 f5=>?_
 have el:=(zCf g.s g.F hg b1).len;have hl6:=g.s.le;obtain⟨w6,a6,rfl⟩:=f5;simp only [pwA,seval,-iQ0];refine zCc rfl (by omega) ?_
 by_cases hz:isZ (evS O P C D R[i])
 ·simp only [pwA,seval,-iQ0,hz,decide_true,wrapS hlt (by omega:R.length≤4611686018427387904)]
  refine⟨_,by omega,i+1,by omega,rfl,rfl,?_⟩
  intro r hr';rw [List.take_succ_eq_append_getElem hlt]at hr'
  rcases List.mem_append.1 hr' with h|h
  ·exact hin r h
  ·rw [List.mem_singleton.1 h];exact hz
 ·simp only [pwA,seval,-iQ0,hz,decide_false]
  exact hk _ (fl fun h=>hz (h _ mem))
theorem zFC (hp:qE O P C) (hR:IsPr vO vP vC O P C) (g:LG O' P' C') (hR':IsPr vO' vP' vC' O' P' C') (hD:FII vD D) (hDl:D.length=O.length) (hg:∀y∈D,gS O' y)
  (hk:∀t:Bool,(t=true↔zGF O P C O' P' C' D)→K (.bool t) σ):zA Tryz.prog 55 [.agg [vO,vP,vC],.agg [vO',vP',vC'],vD] σ K:=by
 have fl:∀{A:Prop},¬A→((false=true)↔A):=fun h=>⟨fun x=>(by cases x),fun x=>absurd x h⟩
 have g0:=hR.O.one;have g1:=hR.P.one;have g2:=hR.C.one;have q0:=hR'.O.one;have q1:=hR'.P.one;have q2:=hR'.C.one;have hD1:=hD.one;have s:=hp.shp;have h6:=s.le;refine zA.gh ?_;refine zD mix Tryz.func55 ?_;simp only [pwA,seval,-iQ0,g0,g1,g2,q0,q1,q2,hD1];generalize hH:(σ.new [vO,vP,vC]).new [vO',vP',vC']=H;have kH:Keep σ H:=by rw [←hH];exact(zB _ _).new _
 have r1:H.rd σ.next 0 3=some [vO,vP,vC]:=by rw [←hH];simp only [pwA,seval,-iQ0]
 have r2:H.rd (σ.next+1) 0 3=some [vO',vP',vC']:=by rw [←hH];simp only [pwA,seval,-iQ0]
 clear hH;simp only [pwA,seval,-iQ0,r1,g0,g1,g2,hD1];refine zFD hp hR fun vR R hvR ⟨hok,hall⟩ hRl=>?_
 obtain⟨wR,aR,rR,rfl,hrR⟩:=hvR;simp only [pwA,seval,-iQ0,hD1];refine zC (fun m vs h=>∃(i:Nat),i≤R.length∧m=R.length-i∧vs=[vD,.ptr (σ.next+1) 0,.fz wR aR R.length rR,.int .i64 i]∧h=H∧∀r∈R.take i,isZ (evS O' P' C' D r)) R.length ?_ ?_
 ·exact⟨0,Nat.zero_le _,rfl,rfl,rfl,fun r hr=>by simp at hr⟩
 rintro m vs h ⟨i,hi,rfl,rfl,rfl,hin⟩
 simp only [pwA,seval,-iQ0,hD1];refine iteI (fun hlt=>?_) fun hge=>?_
 rotate_left
 ·rw [List.take_of_length_le (by omega)]at hin
  exact Gh.fin0 kH trivial (hk _ ⟨fun _=>fun r hr=>hin r (hall r hr),fun _=>rfl⟩)
 have hlt':(i:Int)<(R.length:Int):=by omega
 obtain⟨w5,a5,h5⟩:=hrR.rowI hlt;have mem:R[i]∈R:=List.getElem_mem hlt;obtain⟨b1,b2⟩:=(hok _ mem).facts s;rw [←hDl]at b1
 simp only [pwA,seval,-iQ0,hD1,hlt,hlt',h5,r2,q0,q1,q2,zg,qb];refine zLB g.s g.co hR' ⟨w5,a5,rfl⟩ b1 (by omega) hD (by omega) hg fun v5 f5=>?_
 have el:=(zCf g.s g.F hg b1).len;have hl6:=g.s.le;obtain⟨w6,a6,rfl⟩:=f5;simp only [pwA,seval,-iQ0,hD1,zg,qb];refine zEb rfl (by omega) ?_
 by_cases hz:isZ (evS O' P' C' D R[i])
 ·simp only [pwA,seval,-iQ0,hD1,hz,decide_true,wrapS hlt (by omega:R.length≤4611686018427387904),zg,qb]
  refine⟨_,by omega,i+1,by omega,rfl,rfl,?_⟩
  intro r hr';rw [List.take_succ_eq_append_getElem hlt]at hr'
  rcases List.mem_append.1 hr' with h|h
  ·exact hin r h
  ·rw [List.mem_singleton.1 h];exact hz
 ·simp only [pwA,seval,-iQ0,hD1,hz,decide_false,zg,qb]
  exact Gh.fin0 kH trivial (hk _ (fl fun h=>hz (h _ (hok _ mem))))
end Go.Proofs
namespace Go.Grp
end Go.Grp
set_option linter.unusedSimpArgs false
set_option linter.unusedVariables false
set_option linter.unusedSectionVars false
namespace Go.Proofs
open Go.Ab Go.Lie Go.Grp
variable {σ h:PHeap} {K:PV→PHeap→Prop} {O x y a b bs:List Int} {P:List (List Int)} {C:List (List (List Int))} {vO vP vC vx vy vw v va vb vL vS vZ vG:PV} {sp t s0:Nat}
theorem zEU:∀{i:Nat},i≤O.length→ordF O i=prodL (O.take i)
 | 0,_=>by simp [ordF,prodL]
 | i+1,hi=>by rw [ordF,zEU (by omega),QB (by omega),at_eq (by omega)]
end Go.Proofs
