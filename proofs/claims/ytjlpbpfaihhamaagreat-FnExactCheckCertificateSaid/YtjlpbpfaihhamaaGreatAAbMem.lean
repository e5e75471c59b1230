/- . -/
import Derived.Test.YtjlpbpfaihhamaaGreatAAbSim
namespace Go.Ab
open Go.RowKit
variable{B:Nat}{w0 w:World}{j:Inj}{h:AHeap}
theorem MR.cell(m:MR B w0 j h w){o i:Nat}{v:AV}{l:Loc}(hv:h.rd1 o i=some v)(hl:j o=some l)(hp:l.mp=false):
  ∃cv,w.cell? ⟨l.blk,l.base+i,none⟩=some cv∧VI j v cv:=by
 unfold AHeap.rd1 at hv
 cases ho:h.obj o with
 |none=>simp[ho]at hv
 |some ob=>
  simp only[ho,Option.bind_some]at hv
  obtain⟨cur,ty,fz,aK,hc,_⟩:=(m.obj o ob l ho hl hp).row;obtain⟨cv,h1,h2⟩:=hc i v hv;exact⟨cv,by simp[World.cell?,aK,h1],h2⟩
theorem AHeap.rd_some{o i n:Nat}{vs:List AV}(hv:h.rd o i n=some vs):∃ob,h.obj o=some ob∧i+n<=ob.cells.length∧vs=(ob.cells.drop i).take n:=by
 unfold AHeap.rd at hv
 cases ho:h.obj o with
 |none=>simp[ho]at hv
 |some ob=>
  simp only[ho,Option.bind_some]at hv
  split at hv
  ·cases hv;exact⟨ob,rfl,by assumption,rfl⟩
  ·cases hv
theorem qM(b o k:Nat):(⟨b,o,none⟩:Addr).add k=⟨b,o+k,none⟩:=by
 unfold Addr.add;split<;>simp_all
theorem MR.cells(m:MR B w0 j h w){o i n:Nat}{vs:List AV}{l:Loc}(hv:h.rd o i n=some vs)(hl:j o=some l)(hp:l.mp=false):
  ∃cs:List Value,VIs j vs cs∧cs.length=n∧vs.all AV.one=true∧∀k u,cs[k]? = some u->w.cell? ((⟨l.blk,l.base+i,none⟩:Addr).add k)=some u:=by
 obtain⟨ob,ho,hle,rfl⟩:=AHeap.rd_some hv;have aS:=(m.obj o ob l ho hl hp).one;obtain⟨cur,ty,fz,aK,hc,_⟩:=(m.obj o ob l ho hl hp).row;have hlen:((ob.cells.drop i).take n).length=n:=by simp;omega
 have cG:∀k,k<n->∃cv,cur[l.base+i+k]? = some cv∧VI j (ob.cells.getD (i+k) .undef) cv:=by
  intro k hk;have ai:i+k<ob.cells.length:=by omega
  obtain⟨cv,h1,h2⟩:=hc (i+k) ob.cells[i+k] (List.getElem?_eq_getElem ai);exact⟨cv,by rw[<-h1];congr 1;omega,by simpa [List.getD,List.getElem?_eq_getElem ai]using h2⟩
 refine⟨(List.range n).map fun k=>cur.getD (l.base+i+k) undef,VIs.of_get (by simp;omega) ?_,by simp,?_,?_⟩
 ·intro k v hk
  have eC:k<n:=by
   rcases Nat.lt_or_ge k n with x|x
   ·exact x
   ·rw[List.getElem?_eq_none (by omega)]at hk;cases hk
  obtain⟨cv,h1,h2⟩:=cG k eC;refine⟨cv,by simp[eC,Array.getD_eq_getD_getElem?,h1],?_⟩
  rw[List.getElem?_take,if_pos eC,List.getElem?_drop]at hk
  rw[List.getD,hk]at h2
  exact h2
 ·exact List.all_eq_true.2 fun x hx=>List.all_eq_true.1 aS x (List.mem_of_mem_drop (List.mem_of_mem_take hx))
 ·intro k u hk
  have eC:k<n:=by
   rcases Nat.lt_or_ge k n with x|x
   ·exact x
   ·rw[List.getElem?_eq_none (by simp;omega)]at hk;cases hk
  obtain⟨cv,h1,_⟩:=cG k eC;simp[eC,Array.getD_eq_getD_getElem?,h1]at hk
  subst hk;rw[qM];simp[World.cell?,aK,h1]
def Inj.put(j:Inj)(o:Nat)(l:Loc):Inj:=fun o'=>if o'=o then some l else j o'
theorem MR.put_le(m:MR B w0 j h w)(l:Loc):j.le (j.put h.next l):=by
 intro o l' hl
 have:=m.lt hl
 unfold Inj.put;rw[if_neg (by omega)]
 exact hl
theorem ObjOK.alloc{ob:AObj}{l:Loc}(k:ObjOK B w j ob l)(o:Obj){j':Inj}(hj:j.le j'):ObjOK B (w.alloc o) j' ob l:=by
 refine⟨k.one,?_⟩;obtain⟨cur,ty,fz,aK,hc,hr⟩:=k.row;refine⟨cur,ty,fz,?_,fun i v hv=>?_,hr⟩
 ·rw[heap_alloc_old _ _ (Array.getElem?_eq_some_iff.1 aK).1];exact aK
 ·obtain⟨cv,a,b⟩:=hc i v hv
  exact⟨cv,a,VI.mono hj _ _ b⟩
theorem MapOK.alloc{ob:AObj}{l:Loc}(k:MapOK B w ob l)(o:Obj):MapOK B (w.alloc o) ob l:=by
 obtain⟨es,clock,h1,h2⟩:=k.row;exact⟨k.rw,k.ge,es,clock,by rw[heap_alloc_old _ _ (Array.getElem?_eq_some_iff.1 h1).1];exact h1,h2⟩
theorem MR.row_lt(m:MR B w0 j h w){o:Nat}{ob:AObj}{l:Loc}(ho:h.obj o=some ob)(hl:j o=some l):l.blk<w.heap.size:=by
 cases hp:l.mp with
 |false=>
  obtain⟨cur,ty,fz,aK,_⟩:=(m.obj o ob l ho hl hp).row;exact(Array.getElem?_eq_some_iff.1 aK).1
 |true=>
  obtain⟨es,clock,aK,_⟩:=(m.maps o ob l ho hl hp).row;exact(Array.getElem?_eq_some_iff.1 aK).1
theorem MR.new(m:MR B w0 j h w){cells:List AV}{cur:Array Value}{ty:TypeId}{room:Nat}(aS:cells.all AV.one=true)
  (hc:VIs j cells (cur.toList.take cells.length)) (bg:room<=cur.size):
  MR B w0 (j.put h.next ⟨w.heap.size,0,room,false⟩) (h.new ⟨true,cells⟩) (w.alloc (.cells cur ty))∧FR j h (j.put h.next ⟨w.heap.size,0,room,false⟩) (h.new ⟨true,cells⟩):=by
 have hle:=m.put_le ⟨w.heap.size,0,room,false⟩;refine⟨⟨m.below.alloc m.bnd _,by simp;have:=m.bnd;omega,?_,?_,?_,?_⟩,?_⟩
 ·intro o ho
  simp only[AHeap.new]at ho
  simp only[AHeap.new,Inj.put,if_neg (show ¬o=h.next by omega)]
  exact m.fresh o (by omega)
 ·intro o ob l ho hl hp
  by_cases e:o=h.next
  ·subst e
   simp only[AHeap.new,if_true,Option.some.injEq]at ho
   simp only[Inj.put,if_true,Option.some.injEq]at hl
   subst ho;subst hl;refine⟨aS,cur,ty,(0,0),heap_alloc_new w _,fun i v hv=>?_,fun _=>⟨rfl,by simpa using bg,m.bnd⟩,fun x=>by cases x⟩
   obtain⟨cv,a,b⟩:=hc.get hv;refine⟨cv,?_,VI.mono hle _ _ b⟩;rw[List.getElem?_take]at a
   split at a
   ·simpa using a
   ·cases a
  ·simp only[AHeap.new,if_neg e]at ho
   simp only[Inj.put,if_neg e]at hl
   exact(m.obj o ob l ho hl hp).alloc _ hle
 ·intro o ob l ho hl hp
  by_cases e:o=h.next
  ·subst e
   simp only[Inj.put,if_true,Option.some.injEq]at hl
   subst hl;cases hp
  ·simp only[AHeap.new,if_neg e]at ho
   simp only[Inj.put,if_neg e]at hl
   exact(m.maps o ob l ho hl hp).alloc _
 ·intro o o' ob fm l l' aC ho cR hl aY dB
  have old:∀{p:Nat} {ob:AObj} {l:Loc},h.obj p=some ob->j p=some l->l.blk<w.heap.size:=by
   intro p ob l a b;exact m.row_lt a b
  by_cases e:o=h.next
  ·have e':o'≠h.next:=fun x=>aC (e.trans x.symm)
   subst e;simp only[Inj.put,if_true,Option.some.injEq]at hl
   simp only[Inj.put,if_neg e']at aY
   simp only[AHeap.new,if_neg e']at cR
   have:=old cR aY
   subst hl;show w.heap.size≠_;omega
  ·simp only[AHeap.new,if_neg e]at ho
   simp only[Inj.put,if_neg e]at hl
   by_cases e':o'=h.next
   ·subst e'
    simp only[Inj.put,if_true,Option.some.injEq]at aY
    have:=old ho hl
    subst aY;show _≠w.heap.size;omega
   ·simp only[AHeap.new,if_neg e']at cR
    simp only[Inj.put,if_neg e']at aY
    exact m.apart o o' ob fm l l' aC ho cR hl aY dB
 ·refine⟨by simp[AHeap.new],fun o ho=>?_,fun o ho _=>?_⟩
  ·simp[Inj.put,Nat.ne_of_lt ho]
  ·simp[AHeap.new,Nat.ne_of_lt ho]
theorem MR.reveal(m:MR B w0 j h w){o:Nat}{cells:List AV}{cur:Array Value}{ty:TypeId}(ho:h.obj o=some ⟨true,cells⟩)(hj:j o=none)(aS:cells.all AV.one=true)
  (hc:VIs j cells cur.toList):
  MR B w0 (j.put o ⟨w.heap.size,0,0,false⟩) h (w.alloc (.cells cur ty))∧j.le (j.put o ⟨w.heap.size,0,0,false⟩):=by
 have hle:j.le (j.put o ⟨w.heap.size,0,0,false⟩):=by
  intro p l hl;unfold Inj.put;rw[if_neg (fun e=>by subst e;rw[hj]at hl;cases hl)]
  exact hl
 have ai:o<h.next:=by
  rcases Nat.lt_or_ge o h.next with x|x
  ·exact x
  ·rw[(m.fresh o x).1]at ho;cases ho
 refine⟨⟨m.below.alloc m.bnd _,by simp;have:=m.bnd;omega,?_,?_,?_,?_⟩,hle⟩
 ·intro p hp
  simp only[Inj.put,if_neg (show ¬p=o by omega)]
  exact m.fresh p hp
 ·intro p ob l hp hl bj
  by_cases e:p=o
  ·subst e
   rw[ho]at hp
   simp only[Option.some.injEq]at hp
   simp only[Inj.put,if_true,Option.some.injEq]at hl
   subst hp;subst hl;refine⟨aS,cur,ty,(0,0),heap_alloc_new w _,fun i v hv=>?_,fun _=>⟨rfl,by simp,m.bnd⟩,fun x=>by cases x⟩
   obtain⟨cv,a,b⟩:=hc.get hv;exact⟨cv,by simpa using a,VI.mono hle _ _ b⟩
  ·simp only[Inj.put,if_neg e]at hl
   exact(m.obj p ob l hp hl bj).alloc _ hle
 ·intro p ob l hp hl bj
  by_cases e:p=o
  ·subst e
   simp only[Inj.put,if_true,Option.some.injEq]at hl
   subst hl;cases bj
  ·simp only[Inj.put,if_neg e]at hl
   exact(m.maps p ob l hp hl bj).alloc _
 ·intro p p' ob fm l l' aC hp eN hl aY dB
  have old:∀{p:Nat} {ob:AObj} {l:Loc},h.obj p=some ob->j p=some l->l.blk<w.heap.size:=by
   intro p ob l a b;exact m.row_lt a b
  by_cases e:p=o
  ·have e':p'≠o:=fun x=>aC (e.trans x.symm)
   subst e;simp only[Inj.put,if_true,Option.some.injEq]at hl
   simp only[Inj.put,if_neg e']at aY
   have:=old eN aY
   subst hl;show w.heap.size≠_;omega
  ·simp only[Inj.put,if_neg e]at hl
   by_cases e':p'=o
   ·subst e'
    simp only[Inj.put,if_true,Option.some.injEq]at aY
    have:=old hp hl
    subst aY;show _≠w.heap.size;omega
   ·simp only[Inj.put,if_neg e']at aY
    exact m.apart p p' ob fm l l' aC hp eN hl aY dB
theorem AHeap.wr_some{o i:Nat}{vs:List AV}{h':AHeap}(hw:h.wr o i vs=some h'):
  ∃ob,h.obj o=some ob∧ob.rw=true∧i+vs.length<=ob.cells.length∧vs.all AV.one=true∧h'=h.set o (ob.cells.take i++vs++ob.cells.drop (i+vs.length)):=by
 unfold AHeap.wr at hw
 cases ho:h.obj o with
 |none=>simp[ho]at hw
 |some ob=>
  simp only[ho,Option.bind_some]at hw
  split at hw
  ·rename_i x;cases hw;exact⟨ob,rfl,x.1,x.2.1,x.2.2,rfl⟩
  ·cases hw
theorem MR.setRow(m:MR B w0 j h w){o:Nat}{ob:AObj}{l:Loc}{cells:List AV}{cur new:Array Value}{ty:TypeId}{fz:Nat×Nat}(ho:h.obj o=some ob)(hl:j o=some l)(bj:l.mp=false)(dB:ob.rw=true)
  (aK:w.heap[l.blk]? = some (.cells cur ty fz)) (cG:new.size=cur.size) (aS:cells.all AV.one=true) (hc:∀(i:Nat) (v:AV),cells[i]? = some v->∃cv:Value,new[l.base+i]? = some cv∧VI j v cv):
  MR B w0 j (h.set o cells) (w.setRow l.blk new)∧FR j h j (h.set o cells):=by
 obtain⟨lj,ll,rf,jc,fg,ck,_⟩:=(m.obj o ob l ho hl bj).row;obtain⟨rfl,bg,hB⟩:=ck dB;have ai:=(Array.getElem?_eq_some_iff.1 aK).1;have heq:lj=cur∧fz=(0,0):=by
  rw[aK]at jc
  simp at jc
  exact⟨jc.1.symm,jc.2.2⟩
 obtain⟨rfl,rfl⟩:=heq;have bX:∀k,k≠l.blk->(w.setRow l.blk new).heap[k]? = w.heap[k]?:=by
  intro k hk;simp only[World.setRow,Array.getElem?_modify];rw[if_neg (fun e=>hk e.symm)]
 have gR:(w.setRow l.blk new).heap[l.blk]? = some (.cells new ty (0,0)):=by
  simp[World.setRow,Array.getElem?_modify,aK]
 have eu:(w.setRow l.blk new).heap.size=w.heap.size:=by simp[World.setRow]
 refine⟨⟨?_,by rw[eu];exact m.bnd,?_,?_,?_,?_⟩,?_⟩
 ·exact m.below.trans ⟨rfl,rfl,rfl,by rw[eu];exact Nat.le_refl _,fun k hk=>bX k (by omega)⟩
 ·intro p hp
  have:=m.lt hl
  simp only[AHeap.set]at hp ⊢
  rw[if_neg (by omega)]
  exact m.fresh p hp
 ·intro p jr lp hp ec kB
  by_cases e:p=o
  ·subst e
   simp only[AHeap.set,if_true,Option.some.injEq]at hp
   rw[hl]at ec
   cases ec;subst hp;exact⟨aS,new,ty,(0,0),gR,fun i v hv=>hc i v hv,fun _=>⟨rfl,by rw[cG];exact bg,hB⟩,fun x=>by cases x⟩
  ·simp only[AHeap.set,if_neg e]at hp
   have hk:=m.obj p jr lp hp ec kB;refine⟨hk.one,?_⟩;obtain⟨c,t,f,x,y⟩:=hk.row;have aC:lp.blk≠l.blk:=fun e'=>m.apart o p ob jr l lp (fun x=>e x.symm) ho hp hl ec dB e'.symm
   exact⟨c,t,f,by rw[bX _ aC];exact x,y⟩
 ·intro p jr lp hp ec kB
  by_cases e:p=o
  ·subst e
   rw[hl]at ec
   cases ec;rw[bj]at kB;cases kB
  ·simp only[AHeap.set,if_neg e]at hp
   have hk:=m.maps p jr lp hp ec kB;obtain⟨es,clock,x,y⟩:=hk.row;have aC:lp.blk≠l.blk:=fun e'=>m.apart o p ob jr l lp (fun x=>e x.symm) ho hp hl ec dB e'.symm
   exact⟨hk.rw,hk.ge,es,clock,by rw[bX _ aC];exact x,y⟩
 ·intro p p' jr vY lp wH aC hp eN ec ov nO
  have conv:∀{q:Nat} {gM:AObj},(h.set o cells).obj q=some gM->∃fm,h.obj q=some fm∧(gM.rw=true->fm.rw=true):=by
   intro q gM hq
   by_cases e:q=o
   ·subst e;exact⟨ob,ho,fun _=>dB⟩
   ·simp only[AHeap.set,if_neg e]at hq;exact⟨gM,hq,id⟩
  obtain⟨a,ha,yE⟩:=conv hp;obtain⟨b,hb,_⟩:=conv eN;exact m.apart p p' a b lp wH aC ha hb ec ov (yE nO)
 ·refine⟨Nat.le_refl _,fun _ _=>rfl,fun p _ hn=>?_⟩
  simp only[AHeap.set];rw[if_neg (fun e=>by subst e;rw[hl]at hn;cases hn)]
theorem MR.kill(m:MR B w0 j h w){o:Nat}{l:Loc}(hl:j o=some l):MR B w0 j (h.kill o) w∧FR j h j (h.kill o):=by
 have sub:∀{q:Nat} {gM:AObj},(h.kill o).obj q=some gM->h.obj q=some gM:=by
  intro q gM hq
  by_cases e:q=o
  ·subst e;simp[AHeap.kill]at hq
  ·simpa [AHeap.kill,e]using hq
 refine⟨⟨m.below,m.bnd,fun p hp=>⟨?_,(m.fresh p hp).2⟩,fun p ob l hp ec=>m.obj p ob l (sub hp) ec,fun p ob l hp ec=>m.maps p ob l (sub hp) ec,fun p p' a b l l' aC hp eN hl aY hr=>m.apart p p' a b l l' aC (sub hp) (sub eN) hl aY hr⟩,
  ⟨Nat.le_refl _,fun _ _=>rfl,fun p _ hn=>?_⟩⟩
 ·simp only[AHeap.kill]at hp ⊢
  split
  ·rfl
  ·exact(m.fresh p hp).1
 ·simp only[AHeap.kill]
  rw[if_neg (fun e=>by subst e;rw[hl]at hn;cases hn)]
end Go.Ab
