/- QUIET CALLS: what is told of a function over frozen values, used in a walk of the program's own text; and the way back. No program in sight. -/
import Derived.Test.YtjlpbpfaihhamaaGreatDoorBAbPg
import Derived.Test.YtjlpbpfaihhamaaGreatDoorBAbTop
set_option linter.unusedVariables false
namespace Go.Ab
open Go.RowKit
variable {P:Program} {B:Nat} {w0 w w':World} {j:Inj} {h h':AHeap} {ι:Nat→Nat} {Z:Nat→Prop} {σ:PHeap} {n:Nat}
def AHeap.ro (h:AHeap):AHeap:=⟨h.next,fun o=>(h.obj o).map fun ob=>⟨false,ob.cells⟩⟩
theorem AHeap.ro_rd (o i n:Nat):h.ro.rd o i n=h.rd o i n:=by
 unfold AHeap.rd;have e:h.ro.obj o=(h.obj o).map fun ob=>⟨false,ob.cells⟩:=rfl
 rw [e];cases h.obj o<;>rfl
theorem MR.ro (m:MR B w0 j h w):MR w.heap.size w j h.ro w:=by
 refine⟨Below.refl _ _,Nat.le_refl _,m.gd.later m.below m.bnd,fun o ho=>?_,fun o ob l ho hl=>?_,fun o o' ob ob' l l' hne ho ho' hl hl' hrw=>?_⟩
 ·have:=m.fresh o ho
  exact⟨by simp [AHeap.ro,this.1],this.2⟩
 ·simp only [AHeap.ro,Option.map_eq_some_iff]at ho
  obtain⟨ob0,h0,rfl⟩:=ho;have q:=m.obj o ob0 l h0 hl;obtain⟨cur,ty,fz,r1,r2,r3,r4⟩:=q.row;have hb:l.blk<w.heap.size:=(Array.getElem?_eq_some_iff.1 r1).1;exact⟨q.one,cur,ty,fz,r1,r2,(fun x=>by cases x),(fun _=>hb)⟩
 ·simp only [AHeap.ro,Option.map_eq_some_iff]at ho
  obtain⟨ob0,h0,rfl⟩:=ho;cases hrw
theorem MR.quiet (m:MR B w0 j h w) (hb:Below w.heap.size w w'):MR B w0 j h w':=by
 refine⟨m.below.trans (hb.mono m.bnd),Nat.le_trans m.bnd hb.size,m.gd,m.fresh,fun o ob l ho hl=>?_,m.apart⟩
 have q:=m.obj o ob l ho hl;obtain⟨cur,ty,fz,r1,r2,r3,r4⟩:=q.row;have hlt:l.blk<w.heap.size:=(Array.getElem?_eq_some_iff.1 r1).1;exact⟨q.one,cur,ty,fz,by rw [hb.block _ hlt];exact r1,r2,r3,r4⟩
mutual
def loose:PV→PV
 | .fz _ a n cs=>.fz false a n (looses cs)
 | .fp a cs=>.fp a (looses cs)
 | .clo f a b=>.clo f (looses a) (looses b)
 | .agg cs=>.agg (looses cs)
 | .tup cs=>.tup (looses cs)
 | .undef=>.undef
 | .bool b=>.bool b
 | .int k z=>.int k z
 | .str s=>.str s
 | .nilp=>.nilp
 | .ptr s i=>.ptr s i
 | .sl s o n c=>.sl s o n c
 | .nilf=>.nilf
 | .err b=>.err b
def looses:List PV→List PV
 | []=>[]
 | c::cs=>loose c::looses cs
end
mutual
theorem zMM (ι:Nat→Nat):∀v:PV,er ι (loose v)=er ι v
 | .fz _ a n cs=>rfl
 | .fp a cs=>rfl
 | .clo f a b=>by simp only [loose,er,ZQ ι a,ZQ ι b]
 | .agg cs=>by simp only [loose,er,ZQ ι cs]
 | .tup cs=>by simp only [loose,er,ZQ ι cs]
 | .undef | .bool _ | .int _ _ | .str _ | .nilp | .ptr _ _ | .sl _ _ _ _ | .nilf | .err _=>rfl
theorem ZQ (ι:Nat→Nat):∀cs:List PV,ers ι (looses cs)=ers ι cs
 | []=>rfl
 | c::cs=>by simp only [looses,ers,zMM ι c,ZQ ι cs]
end
theorem FzAt.ro {b:Bool} {a:AV} {len:Nat} {ws:List AV} (f:FzAt Z h b a len ws):FzAt Z h.ro false a len ws:=by
 rcases f with f|⟨o,off,cap,rfl,h1,h2,h3,h4⟩
 ·exact .inl f
 ·exact .inr ⟨o,off,cap,rfl,h1,h2.imp id fun h2=>by rw [AHeap.ro_rd];exact h2,h3,fun x=>by cases x⟩
theorem FpAt.ro {a:AV} {ws:List AV} (f:FpAt Z h a ws):FpAt Z h.ro a ws:=by
 obtain⟨h0,e|⟨o,i,e,h1,h2⟩⟩:=f
 ·exact⟨h0,.inl e⟩
 ·exact⟨h0,.inr ⟨o,i,e,h1,by rw [AHeap.ro_rd];exact h2⟩⟩
mutual
theorem VOK.loose:∀{n:Nat} {v:PV},VOK Z h n v→VOK Z h.ro n (loose v)
 | _,.fz w a len cs,hv=>⟨by rw [ZQ];exact FzAt.ro hv.1,VOKs.looses hv.2⟩
 | _,.fp a cs,hv=>⟨by rw [ZQ];exact FpAt.ro hv.1,VOKs.looses hv.2⟩
 | _,.clo _ a b,hv=>⟨VOKs.looses hv.1,VOKs.looses hv.2⟩
 | _,.agg cs,hv=>VOKs.looses (cs:=cs) hv
 | _,.tup cs,hv=>VOKs.looses (cs:=cs) hv
 | _,.undef,_ | _,.bool _,_ | _,.int _ _,_ | _,.str _,_ | _,.nilp,_ | _,.nilf,_ | _,.err _,_=>trivial
 | _,.ptr s _,hv=>hv
 | _,.sl s _ _ _,hv=>hv
theorem VOKs.looses:∀{n:Nat} {cs:List PV},VOKs Z h n cs→VOKs Z h.ro n (looses cs)
 | _,[],_=>trivial
 | _,c::cs,hv=>⟨VOK.loose hv.1,VOKs.looses hv.2⟩
end
def PHeap.none:PHeap:=⟨0,0,fun _=>Option.none⟩
theorem zA.quietC {f:FuncId} {args:List PV} {q:List UInt8} (c:zA P f (looses args) PHeap.none fun v _=>v=.str q) (r:Rel ι Z σ h) (va:VOKs Z h 0 args) (m:MR B w0 j h w) {cargs:List Value} (vi:VIs j (ers ι args) cargs):
  Calls P f cargs.toArray w fun e w'=>e=.returned (.string ⟨q.toArray⟩)∧Below w.heap.size w w':=by
 have rel:Rel ι Z PHeap.none h.ro:=⟨fun o ho=>by simp [AHeap.ro,r.hwf o ho],r.zlt,Nat.zero_le _,fun _ _=>rfl,(fun s cs e=>by cases e),(fun s s' cs cs' e=>by cases e)⟩
 refine(c ι Z h.ro rel (VOKs.looses va) w.heap.size w j w cargs m.ro (by rw [ZQ];exact vi)).mono ?_
 rintro e w' ⟨v,h',j',cv,rfl,fr,mr,vi',pv,σ',ι',Z',_,_,_,rfl,rfl⟩
 exact⟨by rw [show cv=_ from vi'],mr.below⟩
theorem zA.quietS {f:FuncId} {args:List PV} {q:List UInt8} {K:PV→PHeap→Prop}
  (H:∀(ι:Nat→Nat) (Z:Nat→Prop) (h:AHeap),Rel ι Z σ h→VOKs Z h σ.next args→∀(B:Nat) (w0:World) (j:Inj) (w:World) (cargs:List Value),MR B w0 j h w→VIs j (ers ι args) cargs→
   Calls P f cargs.toArray w fun e w'=>e=.returned (.string ⟨q.toArray⟩)∧Below w.heap.size w w') (hk:K (.str q) σ):zA P f args σ K:=
 fun ι Z h r va B w0 j w cargs m vi=>(H ι Z h r va B w0 j w cargs m vi).mono fun e w' ⟨he,hb⟩=>
  ⟨.str q,h,j,_,he,FR.refl _ _,m.quiet hb,rfl,.str q,σ,ι,Z,r,⟨Nat.le_refl _,Nat.le_refl _,fun _ _=>rfl,fun o ho=>⟨ho,rfl⟩,fun _ _ x=>x,fun s cs hs ho=>by rw [r.wf s hs]at ho;cases ho⟩,trivial,rfl,hk⟩
end Go.Ab
