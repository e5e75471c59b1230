/- The heap that a call finds: what an argument reads as, laid as objects that nobody writes. -/
import Derived.Test.YtjlpbpfaihhamaaGreatBAbAid
import Derived.Deep.Matrix
set_option linter.unusedVariables false
namespace Go.Ab
open Go.ChangeShapes Go.WideShapes Go.RowKit Go.Deep
variable {B:Nat} {w0 w:World} {j:Inj} {h:AHeap}
theorem MR.empty (w:World):MR w.heap.size w (fun _=>none) ⟨0,fun _=>none⟩ w:=
 ⟨Below.refl _ _,Nat.le_refl _,Nat.le_refl _,fun _ _=>⟨rfl,rfl⟩,fun _ _ _ ho=>(by cases ho),fun _ _ _ ho=>(by cases ho),fun _ _ _ _ _ _ _ ho=>(by cases ho)⟩
theorem MR.wf (m:MR B w0 j h w):HWF h:=fun o ho=>(m.fresh o ho).1
theorem Inj.le_put (m:MR B w0 j h w) (l:Loc):j.le (j.put h.next l):=by
 intro o l' ho
 have:=m.lt ho
 simp [Inj.put,Nat.ne_of_lt this,ho]
theorem MR.lay (m:MR B w0 j h w) {cells:List AV} {l:Loc} (hone:cells.all AV.one=true) (hb:l.blk<B) {cur:Array Value} {ty:TypeId} {fz:Nat×Nat} (hrow:w.heap[l.blk]? = some (.cells cur ty fz))
  (hc:∀i v,cells[i]? = some v→∃cv,cur[l.base+i]? = some cv∧VI j v cv) (hmp:l.mp=false:=by rfl):MR B w0 (j.put h.next l) (h.new ⟨false,cells⟩) w:=by
 have hle:=Inj.le_put m l;refine⟨m.below,m.bnd,m.dr,fun o ho=>?_,fun o ob l' ho hl hp=>?_,fun o ob l' ho hl hp=>?_,fun o o' ob ob' l1 l2 hne ho ho' hl hl' hrw=>?_⟩
 ·simp only [AHeap.new]at ho
  have:o≠h.next:=by omega
  simp only [AHeap.new,Inj.put,if_neg this];exact m.fresh o (by omega)
 ·by_cases e:o=h.next
  ·subst e
   simp only [AHeap.new,if_true,Option.some.injEq]at ho
   simp only [Inj.put,if_true,Option.some.injEq]at hl
   subst ho;subst hl;exact⟨hone,cur,ty,fz,hrow,fun i v hi=>by obtain⟨cv,a,b⟩:=hc i v hi;exact⟨cv,a,VI.mono hle _ _ b⟩,fun x=>(by cases x),fun _=>hb⟩
  ·simp only [AHeap.new,if_neg e]at ho
   simp only [Inj.put,if_neg e]at hl
   obtain⟨a,cur',ty',fz',b,c,d⟩:=m.obj o ob l' ho hl hp;exact⟨a,cur',ty',fz',b,fun i v hi=>by obtain⟨cv,x,y⟩:=c i v hi;exact⟨cv,x,VI.mono hle _ _ y⟩,d⟩
 ·by_cases e:o=h.next
  ·subst e
   simp only [Inj.put,if_true,Option.some.injEq]at hl
   subst hl;rw [hmp]at hp;cases hp
  ·simp only [AHeap.new,if_neg e]at ho
   simp only [Inj.put,if_neg e]at hl
   exact m.maps o ob l' ho hl hp
 ·by_cases e:o=h.next
  ·subst e
   simp only [AHeap.new,if_true,Option.some.injEq]at ho
   subst ho;cases hrw
  ·simp only [AHeap.new,if_neg e]at ho
   simp only [Inj.put,if_neg e]at hl
   by_cases e':o'=h.next
   ·subst e'
    simp only [Inj.put,if_true,Option.some.injEq]at hl'
    subst hl';have hge:B≤l1.blk:=by
     cases hp:l1.mp with
     | false=>
      obtain⟨_,_,_,_,_,_,d,_⟩:=m.obj o ob l1 ho hl hp;exact(d hrw).2.2
     | true=>exact(m.maps o ob l1 ho hl hp).ge
    omega
   ·simp only [AHeap.new,if_neg e']at ho'
    simp only [Inj.put,if_neg e']at hl'
    exact m.apart o o' ob ob' l1 l2 hne ho ho' hl hl' hrw
theorem zKK {a:Addr} {v:Value} (hc:w.cell? a=some v):a.spot=none∧∃cur ty fz,w.heap[a.block]? = some (.cells cur ty fz)∧cur[a.off]? = some v:=by
 unfold World.cell? at hc
 split at hc
 ·rename_i c t f hb
  split at hc
  ·cases hc
  ·rename_i hs
   exact⟨by simpa using hs,c,t,f,hb,hc⟩
 ·cases hc
theorem zR2 {b:Nat} {o:Obj} (hb:w.heap[b]? = some o):b<w.heap.size:=by
 rcases Nat.lt_or_ge b w.heap.size with x|x
 ·exact x
 ·rw [Array.getElem?_eq_none x]at hb;cases hb
end Go.Ab
