/- The laws of the abstract heap against the world: reading, a new object, writing, an object given up. -/
import Derived.Test.YtjlpbpfaihhamaaGreatBAbSim
namespace Go.Ab
open Go.RowKit
variable {P:Program} {B:Nat} {w0 w:World} {j:Inj} {h:AHeap}
theorem MR.cell (m:MR B w0 j h w) {o i:Nat} {v:AV} {l:Loc} (hv:h.rd1 o i=some v) (hl:j o=some l) (hp:l.mp=false):
  ∃cv,w.cell? ⟨l.blk,l.base+i,none⟩=some cv∧VI j v cv:=by
 unfold AHeap.rd1 at hv
 cases ho:h.obj o with
 | none=>simp [ho]at hv
 | some ob=>
  simp only [ho,Option.bind_some]at hv
  obtain⟨cur,ty,fz,hrow,hc,_⟩:=(m.obj o ob l ho hl hp).row;obtain⟨cv,h1,h2⟩:=hc i v hv;exact⟨cv,by simp [World.cell?,hrow,h1],h2⟩
theorem AHeap.rd_some {o i n:Nat} {vs:List AV} (hv:h.rd o i n=some vs):∃ob,h.obj o=some ob∧i+n≤ob.cells.length∧vs=(ob.cells.drop i).take n:=by
 unfold AHeap.rd at hv
 cases ho:h.obj o with
 | none=>simp [ho]at hv
 | some ob=>
  simp only [ho,Option.bind_some]at hv
  split at hv
  ·cases hv;exact⟨ob,rfl,by assumption,rfl⟩
  ·cases hv
theorem Zc (b o k:Nat):(⟨b,o,none⟩:Addr).add k=⟨b,o+k,none⟩:=by
 unfold Addr.add;split<;>simp_all
theorem MR.cells (m:MR B w0 j h w) {o i n:Nat} {vs:List AV} {l:Loc} (hv:h.rd o i n=some vs) (hl:j o=some l) (hp:l.mp=false):
  ∃cs:List Value,VIs j vs cs∧cs.length=n∧vs.all AV.one=true∧∀k u,cs[k]? = some u→w.cell? ((⟨l.blk,l.base+i,none⟩:Addr).add k)=some u:=by
 obtain⟨ob,ho,hle,rfl⟩:=AHeap.rd_some hv;have hone:=(m.obj o ob l ho hl hp).one;obtain⟨cur,ty,fz,hrow,hc,_⟩:=(m.obj o ob l ho hl hp).row;have hlen:((ob.cells.drop i).take n).length=n:=by simp;omega
 have hsz:∀k,k<n→∃cv,cur[l.base+i+k]? = some cv∧VI j (ob.cells.getD (i+k) .undef) cv:=by
  intro k hk;have hlt:i+k<ob.cells.length:=by omega
  obtain⟨cv,h1,h2⟩:=hc (i+k) ob.cells[i+k] (List.getElem?_eq_getElem hlt);exact⟨cv,by rw [←h1];congr 1;omega,by simpa [List.getD,List.getElem?_eq_getElem hlt]using h2⟩
 refine⟨(List.range n).map fun k=>cur.getD (l.base+i+k) undef,VIs.of_get (by simp;omega) ?_,by simp,?_,?_⟩
 ·intro k v hk
  have hkn:k<n:=by
   rcases Nat.lt_or_ge k n with x|x
   ·exact x
   ·rw [List.getElem?_eq_none (by omega)]at hk;cases hk
  obtain⟨cv,h1,h2⟩:=hsz k hkn;refine⟨cv,by simp [hkn,Array.getD_eq_getD_getElem?,h1],?_⟩
  rw [List.getElem?_take,if_pos hkn,List.getElem?_drop]at hk
  rw [List.getD,hk]at h2
  exact h2
 ·exact List.all_eq_true.2 fun x hx=>List.all_eq_true.1 hone x (List.mem_of_mem_drop (List.mem_of_mem_take hx))
 ·intro k u hk
  have hkn:k<n:=by
   rcases Nat.lt_or_ge k n with x|x
   ·exact x
   ·rw [List.getElem?_eq_none (by simp;omega)]at hk;cases hk
  obtain⟨cv,h1,_⟩:=hsz k hkn;simp [hkn,Array.getD_eq_getD_getElem?,h1]at hk
  subst hk;rw [Zc];simp [World.cell?,hrow,h1]
def Inj.put (j:Inj) (o:Nat) (l:Loc):Inj:=fun o'=>if o'=o then some l else j o'
theorem MR.put_le (m:MR B w0 j h w) (l:Loc):j.le (j.put h.next l):=by
 intro o l' hl
 have:=m.lt hl
 unfold Inj.put;rw [if_neg (by omega)]
 exact hl
theorem ObjOK.alloc {ob:AObj} {l:Loc} (k:ObjOK B w j ob l) (o:Obj) {j':Inj} (hj:j.le j'):ObjOK B (w.alloc o) j' ob l:=by
 refine⟨k.one,?_⟩;obtain⟨cur,ty,fz,hrow,hc,hr⟩:=k.row;refine⟨cur,ty,fz,?_,fun i v hv=>?_,hr⟩
 ·rw [heap_alloc_old _ _ (Array.getElem?_eq_some_iff.1 hrow).1];exact hrow
 ·obtain⟨cv,a,b⟩:=hc i v hv
  exact⟨cv,a,VI.mono hj _ _ b⟩
theorem MapOK.alloc {ob:AObj} {l:Loc} (k:MapOK B w ob l) (o:Obj):MapOK B (w.alloc o) ob l:=by
 obtain⟨es,clock,h1,h2⟩:=k.row;exact⟨k.rw,k.ge,es,clock,by rw [heap_alloc_old _ _ (Array.getElem?_eq_some_iff.1 h1).1];exact h1,h2⟩
theorem MR.row_lt (m:MR B w0 j h w) {o:Nat} {ob:AObj} {l:Loc} (ho:h.obj o=some ob) (hl:j o=some l):l.blk<w.heap.size:=by
 cases hp:l.mp with
 | false=>
  obtain⟨cur,ty,fz,hrow,_⟩:=(m.obj o ob l ho hl hp).row;exact(Array.getElem?_eq_some_iff.1 hrow).1
 | true=>
  obtain⟨es,clock,hrow,_⟩:=(m.maps o ob l ho hl hp).row;exact(Array.getElem?_eq_some_iff.1 hrow).1
theorem MR.new (m:MR B w0 j h w) {cells:List AV} {cur:Array Value} {ty:TypeId} {room:Nat} (hone:cells.all AV.one=true)
  (hc:VIs j cells (cur.toList.take cells.length)) (hroom:room≤cur.size):
  MR B w0 (j.put h.next ⟨w.heap.size,0,room,false⟩) (h.new ⟨true,cells⟩) (w.alloc (.cells cur ty))∧FR j h (j.put h.next ⟨w.heap.size,0,room,false⟩) (h.new ⟨true,cells⟩):=by
 have hle:=m.put_le ⟨w.heap.size,0,room,false⟩;refine⟨⟨m.below.alloc m.bnd _,by simp;have:=m.bnd;omega,m.dr,?_,?_,?_,?_⟩,?_⟩
 ·intro o ho
  simp only [AHeap.new]at ho
  simp only [AHeap.new,Inj.put,if_neg (show ¬o=h.next by omega)]
  exact m.fresh o (by omega)
 ·intro o ob l ho hl hp
  by_cases e:o=h.next
  ·subst e
   simp only [AHeap.new,if_true,Option.some.injEq]at ho
   simp only [Inj.put,if_true,Option.some.injEq]at hl
   subst ho;subst hl;refine⟨hone,cur,ty,(0,0),heap_alloc_new w _,fun i v hv=>?_,fun _=>⟨rfl,by simpa using hroom,m.bnd⟩,fun x=>by cases x⟩
   obtain⟨cv,a,b⟩:=hc.get hv;refine⟨cv,?_,VI.mono hle _ _ b⟩;rw [List.getElem?_take]at a
   split at a
   ·simpa using a
   ·cases a
  ·simp only [AHeap.new,if_neg e]at ho
   simp only [Inj.put,if_neg e]at hl
   exact(m.obj o ob l ho hl hp).alloc _ hle
 ·intro o ob l ho hl hp
  by_cases e:o=h.next
  ·subst e
   simp only [Inj.put,if_true,Option.some.injEq]at hl
   subst hl;cases hp
  ·simp only [AHeap.new,if_neg e]at ho
   simp only [Inj.put,if_neg e]at hl
   exact(m.maps o ob l ho hl hp).alloc _
 ·intro o o' ob ob' l l' hne ho ho' hl hl' hrw
  have old:∀{p:Nat} {ob:AObj} {l:Loc},h.obj p=some ob→j p=some l→l.blk<w.heap.size:=by
   intro p ob l a b;exact m.row_lt a b
  by_cases e:o=h.next
  ·have e':o'≠h.next:=fun x=>hne (e.trans x.symm)
   subst e;simp only [Inj.put,if_true,Option.some.injEq]at hl
   simp only [Inj.put,if_neg e']at hl'
   simp only [AHeap.new,if_neg e']at ho'
   have:=old ho' hl'
   subst hl;show w.heap.size≠_;omega
  ·simp only [AHeap.new,if_neg e]at ho
   simp only [Inj.put,if_neg e]at hl
   by_cases e':o'=h.next
   ·subst e'
    simp only [Inj.put,if_true,Option.some.injEq]at hl'
    have:=old ho hl
    subst hl';show _≠w.heap.size;omega
   ·simp only [AHeap.new,if_neg e']at ho'
    simp only [Inj.put,if_neg e']at hl'
    exact m.apart o o' ob ob' l l' hne ho ho' hl hl' hrw
 ·refine⟨by simp [AHeap.new],fun o ho=>?_,fun o ho _=>?_⟩
  ·simp [Inj.put,Nat.ne_of_lt ho]
  ·simp [AHeap.new,Nat.ne_of_lt ho]
theorem MR.reveal (m:MR B w0 j h w) {o:Nat} {cells:List AV} {cur:Array Value} {ty:TypeId} (ho:h.obj o=some ⟨true,cells⟩) (hj:j o=none) (hone:cells.all AV.one=true)
  (hc:VIs j cells cur.toList):
  MR B w0 (j.put o ⟨w.heap.size,0,0,false⟩) h (w.alloc (.cells cur ty))∧j.le (j.put o ⟨w.heap.size,0,0,false⟩):=by
 have hle:j.le (j.put o ⟨w.heap.size,0,0,false⟩):=by
  intro p l hl;unfold Inj.put;rw [if_neg (fun e=>by subst e;rw [hj]at hl;cases hl)]
  exact hl
 have hlt:o<h.next:=by
  rcases Nat.lt_or_ge o h.next with x|x
  ·exact x
  ·rw [(m.fresh o x).1]at ho;cases ho
 refine⟨⟨m.below.alloc m.bnd _,by simp;have:=m.bnd;omega,m.dr,?_,?_,?_,?_⟩,hle⟩
 ·intro p hp
  simp only [Inj.put,if_neg (show ¬p=o by omega)]
  exact m.fresh p hp
 ·intro p ob l hp hl hmp
  by_cases e:p=o
  ·subst e
   rw [ho]at hp
   simp only [Option.some.injEq]at hp
   simp only [Inj.put,if_true,Option.some.injEq]at hl
   subst hp;subst hl;refine⟨hone,cur,ty,(0,0),heap_alloc_new w _,fun i v hv=>?_,fun _=>⟨rfl,by simp,m.bnd⟩,fun x=>by cases x⟩
   obtain⟨cv,a,b⟩:=hc.get hv;exact⟨cv,by simpa using a,VI.mono hle _ _ b⟩
  ·simp only [Inj.put,if_neg e]at hl
   exact(m.obj p ob l hp hl hmp).alloc _ hle
 ·intro p ob l hp hl hmp
  by_cases e:p=o
  ·subst e
   simp only [Inj.put,if_true,Option.some.injEq]at hl
   subst hl;cases hmp
  ·simp only [Inj.put,if_neg e]at hl
   exact(m.maps p ob l hp hl hmp).alloc _
 ·intro p p' ob ob' l l' hne hp hp' hl hl' hrw
  have old:∀{p:Nat} {ob:AObj} {l:Loc},h.obj p=some ob→j p=some l→l.blk<w.heap.size:=by
   intro p ob l a b;exact m.row_lt a b
  by_cases e:p=o
  ·have e':p'≠o:=fun x=>hne (e.trans x.symm)
   subst e;simp only [Inj.put,if_true,Option.some.injEq]at hl
   simp only [Inj.put,if_neg e']at hl'
   have:=old hp' hl'
   subst hl;show w.heap.size≠_;omega
  ·simp only [Inj.put,if_neg e]at hl
   by_cases e':p'=o
   ·subst e'
    simp only [Inj.put,if_true,Option.some.injEq]at hl'
    have:=old hp hl
    subst hl';show _≠w.heap.size;omega
   ·simp only [Inj.put,if_neg e']at hl'
    exact m.apart p p' ob ob' l l' hne hp hp' hl hl' hrw
theorem AHeap.wr_some {o i:Nat} {vs:List AV} {h':AHeap} (hw:h.wr o i vs=some h'):
  ∃ob,h.obj o=some ob∧ob.rw=true∧i+vs.length≤ob.cells.length∧vs.all AV.one=true∧h'=h.set o (ob.cells.take i++vs++ob.cells.drop (i+vs.length)):=by
 unfold AHeap.wr at hw
 cases ho:h.obj o with
 | none=>simp [ho]at hw
 | some ob=>
  simp only [ho,Option.bind_some]at hw
  split at hw
  ·rename_i x;cases hw;exact⟨ob,rfl,x.1,x.2.1,x.2.2,rfl⟩
  ·cases hw
theorem MR.setRow (m:MR B w0 j h w) {o:Nat} {ob:AObj} {l:Loc} {cells:List AV} {cur new:Array Value} {ty:TypeId} {fz:Nat×Nat} (ho:h.obj o=some ob) (hl:j o=some l) (hmp:l.mp=false) (hrw:ob.rw=true)
  (hrow:w.heap[l.blk]? = some (.cells cur ty fz)) (hsz:new.size=cur.size) (hone:cells.all AV.one=true) (hc:∀(i:Nat) (v:AV),cells[i]? = some v→∃cv:Value,new[l.base+i]? = some cv∧VI j v cv):
  MR B w0 j (h.set o cells) (w.setRow l.blk new)∧FR j h j (h.set o cells):=by
 obtain⟨cur',ty',fz',hrow',hc',hr',_⟩:=(m.obj o ob l ho hl hmp).row;obtain⟨rfl,hroom,hB⟩:=hr' hrw;have hlt:=(Array.getElem?_eq_some_iff.1 hrow).1;have heq:cur'=cur∧fz=(0,0):=by
  rw [hrow]at hrow'
  simp at hrow'
  exact⟨hrow'.1.symm,hrow'.2.2⟩
 obtain⟨rfl,rfl⟩:=heq;have hother:∀k,k≠l.blk→(w.setRow l.blk new).heap[k]? = w.heap[k]?:=by
  intro k hk;simp only [World.setRow,Array.getElem?_modify];rw [if_neg (fun e=>hk e.symm)]
 have hsame:(w.setRow l.blk new).heap[l.blk]? = some (.cells new ty (0,0)):=by
  simp [World.setRow,Array.getElem?_modify,hrow]
 have hsize:(w.setRow l.blk new).heap.size=w.heap.size:=by simp [World.setRow]
 refine⟨⟨?_,by rw [hsize];exact m.bnd,m.dr,?_,?_,?_,?_⟩,?_⟩
 ·exact m.below.trans ⟨rfl,rfl,rfl,by rw [hsize];exact Nat.le_refl _,fun k hk=>hother k (by omega)⟩
 ·intro p hp
  have:=m.lt hl
  simp only [AHeap.set]at hp ⊢
  rw [if_neg (by omega)]
  exact m.fresh p hp
 ·intro p obp lp hp hlp hpm
  by_cases e:p=o
  ·subst e
   simp only [AHeap.set,if_true,Option.some.injEq]at hp
   rw [hl]at hlp
   cases hlp;subst hp;exact⟨hone,new,ty,(0,0),hsame,fun i v hv=>hc i v hv,fun _=>⟨rfl,by rw [hsz];exact hroom,hB⟩,fun x=>by cases x⟩
  ·simp only [AHeap.set,if_neg e]at hp
   have hk:=m.obj p obp lp hp hlp hpm;refine⟨hk.one,?_⟩;obtain⟨c,t,f,x,y⟩:=hk.row;have hne:lp.blk≠l.blk:=fun e'=>m.apart o p ob obp l lp (fun x=>e x.symm) ho hp hl hlp hrw e'.symm
   exact⟨c,t,f,by rw [hother _ hne];exact x,y⟩
 ·intro p obp lp hp hlp hpm
  by_cases e:p=o
  ·subst e
   rw [hl]at hlp
   cases hlp;rw [hmp]at hpm;cases hpm
  ·simp only [AHeap.set,if_neg e]at hp
   have hk:=m.maps p obp lp hp hlp hpm;obtain⟨es,clock,x,y⟩:=hk.row;have hne:lp.blk≠l.blk:=fun e'=>m.apart o p ob obp l lp (fun x=>e x.symm) ho hp hl hlp hrw e'.symm
   exact⟨hk.rw,hk.ge,es,clock,by rw [hother _ hne];exact x,y⟩
 ·intro p p' obp obp' lp lp' hne hp hp' hlp hlp' hrwp
  have conv:∀{q:Nat} {obq:AObj},(h.set o cells).obj q=some obq→∃ob',h.obj q=some ob'∧(obq.rw=true→ob'.rw=true):=by
   intro q obq hq
   by_cases e:q=o
   ·subst e;exact⟨ob,ho,fun _=>hrw⟩
   ·simp only [AHeap.set,if_neg e]at hq;exact⟨obq,hq,id⟩
  obtain⟨a,ha,har⟩:=conv hp;obtain⟨b,hb,_⟩:=conv hp';exact m.apart p p' a b lp lp' hne ha hb hlp hlp' (har hrwp)
 ·refine⟨Nat.le_refl _,fun _ _=>rfl,fun p _ hn=>?_⟩
  simp only [AHeap.set];rw [if_neg (fun e=>by subst e;rw [hl]at hn;cases hn)]
theorem MR.kill (m:MR B w0 j h w) {o:Nat} {l:Loc} (hl:j o=some l):MR B w0 j (h.kill o) w∧FR j h j (h.kill o):=by
 have sub:∀{q:Nat} {obq:AObj},(h.kill o).obj q=some obq→h.obj q=some obq:=by
  intro q obq hq
  by_cases e:q=o
  ·subst e;simp [AHeap.kill]at hq
  ·simpa [AHeap.kill,e]using hq
 refine⟨⟨m.below,m.bnd,m.dr,fun p hp=>⟨?_,(m.fresh p hp).2⟩,fun p ob l hp hlp=>m.obj p ob l (sub hp) hlp,fun p ob l hp hlp=>m.maps p ob l (sub hp) hlp,fun p p' a b l l' hne hp hp' hl hl' hr=>m.apart p p' a b l l' hne (sub hp) (sub hp') hl hl' hr⟩,
  ⟨Nat.le_refl _,fun _ _=>rfl,fun p _ hn=>?_⟩⟩
 ·simp only [AHeap.kill]at hp ⊢
  split
  ·rfl
  ·exact(m.fresh p hp).1
 ·simp only [AHeap.kill]
  rw [if_neg (fun e=>by subst e;rw [hl]at hn;cases hn)]
end Go.Ab
