/- HOW AN ABSTRACT STATE STANDS FOR A WORLD: objects lie in rows; what a call promises of abstract states. -/
import Derived.Test.YtjlpbpfaihhamaaGreatBAbDefs
namespace Go.Ab
open Go.RowKit
structure Loc where
 blk:Nat
 base:Nat
 room:Nat
 mp:Bool:=false
abbrev Inj:=Nat→Option Loc
mutual
def VI (j:Inj):AV→Value→Prop
 | .undef,_=>True
 | .bool b,cv=>cv=.bool b
 | .int k n,cv=>cv=.int k n
 | .str s,cv=>cv=.string ⟨s.toArray⟩
 | .nilp,cv=>cv=.pointer none
 | .ptr o i,cv=>∃l,j o=some l∧cv=.pointer (some ⟨l.blk,l.base+i,none⟩)∧l.mp=false
 | .mref o,cv=>∃l,j o=some l∧cv=.map (some l.blk)∧l.mp=true
 | .nils,cv=>cv=.slice none 0 0
 | .sl o off len (.known c),cv=>∃l a,j o=some l∧cv=.slice (some a) len c∧(a=⟨l.blk,l.base+off,none⟩∨(c=0∧len=0))∧l.mp=false
 | .sl o off len (.grown e),cv=>∃l c f,j o=some l∧cv=.slice (some ⟨l.blk,f,none⟩) len c∧len≤c∧(f=l.base+off∨(len=0∧off≠0∧c=0))∧(f=l.base+off→e≠0→off+c*e≤l.room)∧l.mp=false
 | .nilf,cv=>cv=.nilFunc
 | .clo f fs cs,cv=>∃vs us,VIs j fs vs∧VIs j cs us∧cv=.func (.func f) vs.toArray us.toArray
 | .agg cs,cv=>∃vs,VIs j cs vs∧cv=.agg vs.toArray
 | .tup cs,cv=>∃vs,VIs j cs vs∧cv=.tuple vs.toArray
def VIs (j:Inj):List AV→List Value→Prop
 | [],vs=>vs=[]
 | a::as,vs=>∃v r,vs=v::r∧VI j a v∧VIs j as r
end
def Inj.le (j j':Inj):Prop:=∀o l,j o=some l→j' o=some l
theorem Inj.le.refl (j:Inj):j.le j:=fun _ _ h=>h
theorem Inj.le.trans {a b c:Inj} (h:a.le b) (k:b.le c):a.le c:=fun o l x=>k o l (h o l x)
mutual
theorem VI.mono {j j':Inj} (hj:j.le j'):∀(v:AV) (cv:Value),VI j v cv→VI j' v cv
 | .undef,_,_=>trivial
 | .bool _,_,h | .int _ _,_,h | .str _,_,h | .nilp,_,h | .nils,_,h | .nilf,_,h=>h
 | .ptr o i,cv,h=>by obtain⟨l,a,b⟩:=h;exact⟨l,hj _ _ a,b⟩
 | .mref o,cv,h=>by obtain⟨l,a,b⟩:=h;exact⟨l,hj _ _ a,b⟩
 | .sl o off len (.known c),cv,h=>by obtain⟨l,q,a,b⟩:=h;exact⟨l,q,hj _ _ a,b⟩
 | .sl o off len (.grown e),cv,h=>by obtain⟨l,c,f,a,b⟩:=h;exact⟨l,c,f,hj _ _ a,b⟩
 | .clo f fs cs,cv,h=>by obtain⟨vs,us,a,b,c⟩:=h;exact⟨vs,us,VIs.mono hj _ _ a,VIs.mono hj _ _ b,c⟩
 | .agg cs,cv,h=>by obtain⟨vs,a,c⟩:=h;exact⟨vs,VIs.mono hj _ _ a,c⟩
 | .tup cs,cv,h=>by obtain⟨vs,a,c⟩:=h;exact⟨vs,VIs.mono hj _ _ a,c⟩
theorem VIs.mono {j j':Inj} (hj:j.le j'):∀(v:List AV) (cv:List Value),VIs j v cv→VIs j' v cv
 | [],_,h=>h
 | a::as,cv,h=>by obtain⟨v,r,e,x,y⟩:=h;exact⟨v,r,e,VI.mono hj _ _ x,VIs.mono hj _ _ y⟩
end
theorem VIs.length {j:Inj}:∀{vs:List AV} {cs:List Value},VIs j vs cs→vs.length=cs.length
 | [],_,h=>by simp [show _=[] from h]
 | _::_,_,h=>by obtain⟨v,r,rfl,_,h⟩:=h;simp [VIs.length h]
theorem VIs.get {j:Inj}:∀{vs:List AV} {cs:List Value},VIs j vs cs→∀{i:Nat} {v:AV},vs[i]? = some v→∃cv,cs[i]? = some cv∧VI j v cv
 | [],_,_,i,v,hv=>by simp at hv
 | a::as,_,h,i,v,hv=>by
  obtain⟨c,r,rfl,h0,h⟩:=h;cases i with
  | zero=>simp at hv;subst hv;exact⟨c,by simp,h0⟩
  | succ i=>simp at hv;simpa using VIs.get h hv
theorem VIs.of_get {j:Inj}:∀{vs:List AV} {cs:List Value},vs.length=cs.length→(∀(i:Nat) (v:AV),vs[i]? = some v→∃cv,cs[i]? = some cv∧VI j v cv)→VIs j vs cs
 | [],cs,hl,_=>by cases cs with | nil=>rfl | cons _ _=>simp at hl
 | a::as,[],hl,_=>by simp at hl
 | a::as,c::cs,hl,h=>by
  obtain⟨cv,h1,h2⟩:=h 0 a (by simp)
  simp at h1;subst h1
  exact⟨c,cs,rfl,h2,VIs.of_get (by simpa using hl) fun i v hv=>by simpa using h (i+1) v (by simpa using hv)⟩
theorem VIs.append {j:Inj}:∀{a:List AV} {x:List Value} {b:List AV} {y:List Value},VIs j a x→VIs j b y→VIs j (a++b) (x++y)
 | [],_,_,_,h,k=>by rw [show _=[] from h];exact k
 | _::_,_,_,_,h,k=>by obtain⟨v,r,rfl,h0,h⟩:=h;exact⟨v,_,rfl,h0,VIs.append h k⟩
theorem VIs.take {j:Inj}:∀{a:List AV} {x:List Value} (n:Nat),VIs j a x→VIs j (a.take n) (x.take n)
 | [],_,_,h=>by rw [show _=[] from h];simp [VIs]
 | _::_,_,0,_=>by simp [VIs]
 | _::_,_,n+1,h=>by obtain⟨v,r,rfl,h0,h⟩:=h;exact⟨v,_,rfl,h0,VIs.take n h⟩
theorem VIs.drop {j:Inj}:∀{a:List AV} {x:List Value} (n:Nat),VIs j a x→VIs j (a.drop n) (x.drop n)
 | [],_,_,h=>by rw [show _=[] from h];simp [VIs]
 | _::_,_,0,h=>h
 | _::_,_,n+1,h=>by obtain⟨v,r,rfl,h0,h⟩:=h;exact VIs.drop n h
theorem VI.oneCell {j:Inj} {v:AV} {cv:Value} (h:VI j v cv) (h1:v.one=true):cv.oneCell'=true:=by
 cases v with
 | undef | agg | tup=>simp [AV.one]at h1
 | sl o off len cap=>
  cases cap with
  | known c=>obtain⟨l,_,_,rfl,_⟩:=h;rfl
  | grown e=>obtain⟨l,c,f,_,rfl,_⟩:=h;rfl
 | ptr o i=>obtain⟨l,_,rfl,_⟩:=h;rfl
 | mref o=>obtain⟨l,_,rfl,_⟩:=h;rfl
 | clo=>obtain⟨_,_,_,_,rfl⟩:=h;rfl
 | _=>rw [show cv=_ from h];rfl
theorem VI.cells_one {j:Inj} {v:AV} {cv:Value} (h:VI j v cv) (h1:v.one=true):cv.cells = #[cv]:=by
 have:=VI.oneCell h h1
 cases cv<;>simp_all [Value.oneCell',Value.cells]
theorem VI.cells {j:Inj} {v:AV} {cv:Value} (h:VI j v cv) (h1:v.cells.all AV.one=true):VIs j v.cells cv.cells.toList:=by
 cases v with
 | agg cs=>obtain⟨vs,h,rfl⟩:=h;simpa [AV.cells,Value.cells]using h
 | undef=>simp [AV.cells,AV.one]at h1
 | tup=>simp [AV.cells,AV.one]at h1
 | _=>rw [h.cells_one rfl];exact⟨cv,[],rfl,h,rfl⟩
theorem VIs.oneCell {j:Inj} {vs:List AV} {cs:List Value} (h:VIs j vs cs) (h1:vs.all AV.one=true):∀c∈cs,c.oneCell'=true:=by
 intro c hc;obtain⟨i,hi,rfl⟩:=List.getElem_of_mem hc;have hl:=h.length;obtain⟨cv,e,hv⟩:=h.get (i:=i) (List.getElem?_eq_getElem (by omega))
 rw [List.getElem?_eq_getElem hi]at e
 cases e;exact hv.oneCell (List.all_eq_true.1 h1 _ (List.getElem_mem _))
structure ObjOK (B:Nat) (w:World) (j:Inj) (ob:AObj) (l:Loc):Prop where
 one:ob.cells.all AV.one=true
 row:∃cur ty fz,w.heap[l.blk]? = some (.cells cur ty fz)∧(∀i v,ob.cells[i]? = some v→∃cv,cur[l.base+i]? = some cv∧VI j v cv)∧
  (ob.rw=true→fz=(0,0)∧l.base+l.room≤cur.size∧B≤l.blk)∧(ob.rw=false→l.blk<B)
def Lf (a:AV) (v:Value):Prop:=a.leaf=true∧VI (fun _=>none) a v
def MapAs:List MapEntry→List AV→Prop
 | [],cs=>cs=[]
 | e::es,cs=>∃k v r,cs=k::v::r∧Lf k e.key∧Lf v e.val∧MapAs es r
structure MapOK (B:Nat) (w:World) (ob:AObj) (l:Loc):Prop where
 rw:ob.rw=true
 ge:B≤l.blk
 row:∃es clock,w.heap[l.blk]? = some (.map es clock)∧MapAs es.toList ob.cells
structure MR (B:Nat) (w0:World) (j:Inj) (h:AHeap) (w:World):Prop where
 below:Below B w0 w
 bnd:B≤w.heap.size
 dr:w0.drawn≤w.drawn
 fresh:∀o,h.next≤o→h.obj o=none∧j o=none
 obj:∀o ob l,h.obj o=some ob→j o=some l→l.mp=false→ObjOK B w j ob l
 maps:∀o ob l,h.obj o=some ob→j o=some l→l.mp=true→MapOK B w ob l
 apart:∀o o' ob ob' l l',o≠o'→h.obj o=some ob→h.obj o'=some ob'→j o=some l→j o'=some l'→ob.rw=true→l.blk≠l'.blk
structure FR (j:Inj) (h:AHeap) (j':Inj) (h':AHeap):Prop where
 next:h.next≤h'.next
 inj:∀o,o<h.next→j' o=j o
 pend:∀o,o<h.next→j o=none→h'.obj o=h.obj o
theorem FR.refl (j:Inj) (h:AHeap):FR j h j h:=⟨Nat.le_refl _,fun _ _=>rfl,fun _ _ _=>rfl⟩
theorem FR.trans {j j' j'':Inj} {h h' h'':AHeap} (a:FR j h j' h') (b:FR j' h' j'' h''):FR j h j'' h'':=
 ⟨Nat.le_trans a.next b.next,fun o ho=>(b.inj o (Nat.lt_of_lt_of_le ho a.next)).trans (a.inj o ho),
  fun o ho hn=>(b.pend o (Nat.lt_of_lt_of_le ho a.next) ((a.inj o ho).trans hn)).trans (a.pend o ho hn)⟩
theorem MR.lt {B:Nat} {w0 w:World} {j:Inj} {h:AHeap} (m:MR B w0 j h w) {o:Nat} {l:Loc} (hl:j o=some l):o<h.next:=by
 rcases Nat.lt_or_ge o h.next with x|x
 ·exact x
 ·rw [(m.fresh o x).2]at hl;cases hl
theorem FR.le {B:Nat} {w0 w:World} {j j':Inj} {h h':AHeap} (f:FR j h j' h') (m:MR B w0 j h w):j.le j':=
 fun o _ hl=>(f.inj o (m.lt hl)).trans hl
theorem MR.drew {B:Nat} {w0 w:World} {j:Inj} {h:AHeap} (m:MR B w0 j h w):MR B w0 j h w.drew:=
 ⟨m.below.drew,m.bnd,Nat.le_succ_of_le m.dr,m.fresh,fun o ob l a b c=>⟨(m.obj o ob l a b c).one,(m.obj o ob l a b c).row⟩,fun o ob l a b c=>⟨(m.maps o ob l a b c).rw,(m.maps o ob l a b c).ge,(m.maps o ob l a b c).row⟩,m.apart⟩
def qj (P:Program) (f:FuncId) (args:List AV) (h:AHeap) (K:AV→AHeap→Prop):Prop:=
 ∀(B:Nat) (w0:World) (j:Inj) (w:World) (cargs:List Value),MR B w0 j h w→VIs j args cargs→
  Calls P f cargs.toArray w fun e w'=>∃v h' j' cv,e=.returned cv∧FR j h j' h'∧MR B w0 j' h' w'∧VI j' v cv∧K v h'
theorem qj.mono {P:Program} {f:FuncId} {args:List AV} {h:AHeap} {K K':AV→AHeap→Prop} (c:qj P f args h K) (hk:∀v h',K v h'→K' v h'):qj P f args h K':=
 fun B w0 j w cargs m va=>(c B w0 j w cargs m va).mono fun _ _ ⟨v,h',j',cv,a,b,c,d,k⟩=>⟨v,h',j',cv,a,b,c,d,hk _ _ k⟩
end Go.Ab
