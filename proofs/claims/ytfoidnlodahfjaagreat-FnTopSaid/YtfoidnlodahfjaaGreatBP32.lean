/- What a law is handed, laid as frozen values: Lie rings, lists of elements. -/
import Derived.Test.YtfoidnlodahfjaaGreatBP29
import Derived.Test.YtfoidnlodahfjaaGreatBAbPz
import Derived.Test.YtfoidnlodahfjaaGreatBP28
import Derived.Test.YtfoidnlodahfjaaGreatBAbPt
import Derived.Test.YtfoidnlodahfjaaGreatChecked
import Derived.Test.YtfoidnlodahfjaaGreatRows
import Derived.Lib.SmallJoins
import Derived.WalkKit
import Derived.ProofKit
open Int renaming reduceNatCast'→iQ0
set_option maxRecDepth 100000
set_option linter.unusedVariables false
set_option linter.unusedSimpArgs false
set_option linter.unusedSectionVars false
namespace Go.Grp
open Go.Ab Go.Lie
variable {O:List Int} {P:List (List Int)} {C:List (List (List Int))} {x y z a b c g:List Int} {D:List (Option (List Int))} {t i k d:Nat} {N:List Int→Prop}
theorem zLG {o a b:Int} (ha:0≤a∧a<o) (hb:0≤b∧b<o):addm o a b=(a+b) % o:=by
 unfold addm
 split
 ·have:(a+b) % o=(a+b-o) % o:=by rw [Int.sub_emod_right]
  rw [this,Int.emod_eq_of_lt (by omega) (by omega)]
 ·rw [Int.emod_eq_of_lt (by omega) (by omega)]
section
variable (s:Shp O P C) (F:Full O P C O.length) (hC:Cent O C)
include s F hC
theorem zG5 (ht:t<O.length) (hx:TT O t x):∀k:Nat,TT O t (pw (gm O P C) (zv O) x k)∧at_ (pw (gm O P C) (zv O) x k) t=((k:Int)*at_ x t) % at_ O t
 | 0=>⟨s.zv _,by show at_ (zv O) t=_;rw [ZI];simp⟩
 | k+1=>by
  obtain⟨h1,h2⟩:=zG5 ht hx k;have hO:=s.pr t ht;obtain⟨_,g2⟩:=zBO s (d:=O.length) (b:=pw (gm O P C) (zv O) x k) (a:=x) (t:=t) (Nat.le_refl _) (by omega) ht (by rw [Nat.sub_self];exact h1.mono (Nat.zero_le _)) hx
  refine⟨tt_cl s F hC (Nat.le_of_lt ht) h1 hx,?_⟩;show at_ (mu O P C O.length (pw (gm O P C) (zv O) x k) x) t=_;rw [g2,zLG (h1.bd t ht) (hx.bd t ht),h2,Int.emod_add_emod]
  congr 1
  grind
end
end Go.Grp
namespace Go.Grp
open Go.Ab Go.Lie
variable {O:List Int} {P:List (List Int)} {C:List (List (List Int))} {x y z a b c g w w':List Int} {t i k d:Nat} {N:List Int→Prop}
section
variable {α:Type} {S:α→Prop} {m:α→α→α} {e:α}
theorem Mon.pw_mul (M:Mon S m e) {x:α} (hx:S x) (a:Nat):∀b,Grp.pw m e x (a*b)=Grp.pw m e (Grp.pw m e x a) b
 | 0=>rfl
 | b+1=>by
  rw [Nat.mul_succ,M.pw_add hx,M.pw_mul hx a b];rfl
end
section
variable (s:Shp O P C) (F:Full O P C O.length) (hC:Cent O C)
include s F hC
theorem zLe (ht:t<O.length) (hx:TT O t x):TT O (t+1) (Grp.pw (gm O P C) (zv O) x (at_ O t).toNat):=by
 obtain⟨h1,h2⟩:=zG5 s F hC ht hx (at_ O t).toNat;refine⟨h1.len,h1.bd,fun j hj=>?_⟩
 rcases Nat.lt_or_ge j t with h|h
 ·exact h1.zero j h
 ·rw [show j=t by omega,h2,Int.toNat_of_nonneg (by have:=s.pr t ht;omega),Int.mul_emod_right]
omit hC in
end
end Go.Grp
namespace Go.Grp
open Go.Ab Go.Lie
section
variable {α:Type} [Inhabited α] {S:α→Prop} {m:α→α→α} {e:α} {x y a:α} {N:α→Prop}
structure GSub (S:α→Prop) (m:α→α→α) (e:α) (N:α→Prop):Prop where
 inS:∀{x},N x→S x
 one:N e
 cl:∀{x y},N x→N y→N (m x y)
 inv:∀{x},N x→N (ginv S m e x)
theorem Gp.wholeB (G:Gp S m e):GSub S m e S:=⟨id,G.one,fun a b=>G.cl a b,fun a=>(G.inv_in a).1⟩
end
variable {O:List Int} {P:List (List Int)} {C:List (List (List Int))} {x y z a b c g:List Int} {D D':List (Option (List Int))} {t i k d:Nat} {N H:List Int→Prop} {L u u' Q:List (List Int)}
abbrev gB (O:List Int) (P:List (List Int)) (C:List (List (List Int))) (N:List Int→Prop):Prop:=GSub (gS O) (gm O P C) (zv O) N
section
variable (s:Shp O P C) (F:Full O P C O.length) (hC:Cent O C)
include s F hC
theorem zLR (hx:gS O x):∃E:Nat,0<E∧pw (gm O P C) (zv O) x E=zv O:=by
 have M:=F.g.toMon
 have:∀t,t≤O.length→∃E:Nat,0<E∧TT O t (pw (gm O P C) (zv O) x E):=by
  intro t
  induction t with
  | zero=>intro _;exact⟨1,by omega,by rw [M.pw_one hx];exact hx⟩
  | succ t ih=>
   intro ht;obtain⟨E,h1,h2⟩:=ih (by omega)
   have hO:=s.pr t (by omega)
   refine⟨E*(at_ O t).toNat,Nat.mul_pos h1 (by omega),?_⟩
   rw [M.pw_mul hx];exact zLe s F hC (by omega) h2
 obtain⟨E,h1,h2⟩:=this O.length (Nat.le_refl _);exact⟨E,h1,h2.ext (s.zv _) fun j h1 h2=>by omega⟩
theorem zHW (inS:∀x,N x→gS O x) (one:N (zv O)) (cl:∀x y,N x→N y→N (gm O P C x y)):gB O P C N:=by
 have G:=F.g;have pwN:∀{x},N x→∀k,N (pw (gm O P C) (zv O) x k):=fun {x} hx k=>by
  induction k with
  | zero=>exact one
  | succ k ih=>exact cl _ _ ih hx
 refine⟨fun h=>inS _ h,one,fun h g=>cl _ _ h g,fun {x} hx=>?_⟩
 obtain⟨E,h1,h2⟩:=zLR s F hC (inS x hx);have e:pw (gm O P C) (zv O) x (E-1)=ginv (gS O) (gm O P C) (zv O) x:=by
  refine G.inv_eq (inS x hx) (inS _ (pwN hx _)) ?_
  have:=G.pw_comm (inS x hx) (E-1)
  rw [←this];rw [show E=(E-1)+1 by omega]at h2
  exact h2
 rw [←e];exact pwN hx _
end
def GC (O:List Int) (P:List (List Int)) (C:List (List (List Int))) (L:List (List Int)) (x:List Int):Prop:=∀N,gB O P C N→(∀l∈L,N l)→N x
theorem GC.sub (F:Full O P C O.length) (hL:∀l∈L,gS O l):gB O P C (GC O P C L):=
 ⟨fun h=>h _ F.g.wholeB hL,fun N hN _=>hN.one,fun h g N hN hl=>hN.cl (h N hN hl) (g N hN hl),fun h N hN hl=>hN.inv (h N hN hl)⟩
theorem GC.mem (h:x∈L):GC O P C L x:=fun N _ hl=>hl x h
section
variable (s:Shp O P C) (F:Full O P C O.length) (hC:Cent O C)
include s F hC
end
end Go.Grp
namespace Go.Grp
end Go.Grp
namespace Go.Proofs
open Go.Ab Go.Lie Go.Grp
variable {σ:PHeap} {K:PV→PHeap→Prop} {O:List Int} {P:List (List Int)} {C:List (List (List Int))} {vO vP vC vx vy vL vU vV vB vg:PV} {x y z f a b g:List Int} {L u v z':List (List Int)} {rP rC rb:List PV} {d j sp ss sb n:Nat}
theorem Cons.full (s:Shp O P C) (hc:Cons O P C):Full O P C O.length:=full_of s (Nat.le_refl _) fun j _ h=>hc j h
theorem zQ.isp (h:zQ O P C):∀o∈O,isP o:=h.2.2.2.1
end Go.Proofs
namespace Go.Grp
end Go.Grp
namespace Go.Proofs
open Go.Ab Go.Lie Go.Grp
variable {O x y:List Int} {P:List (List Int)} {C:List (List (List Int))} {L:List (List Int)}
theorem zAL (s:Shp O P C) (hx:gS O x) (hy:gS O y) (h:numF O x O.length=numF O y O.length):x=y:=by
 have key:∀i,i≤O.length→numF O x i=numF O y i→∀j,j<i→at_ x j=at_ y j:=by
  intro i
  induction i with
  | zero=>intro _ _ j hj;omega
  | succ i ih=>
   intro hi he j hj;have bx:=hx.bd i hi;have bY:=hy.bd i hi;simp only [numF]at he
   have e1:at_ x i=at_ y i:=by
    have h1:(numF O x i*at_ O i+at_ x i) % at_ O i=at_ x i:=by
     rw [Int.add_comm,Int.add_mul_emod_self_right,Int.emod_eq_of_lt bx.1 bx.2]
    have h2:(numF O y i*at_ O i+at_ y i) % at_ O i=at_ y i:=by
     rw [Int.add_comm,Int.add_mul_emod_self_right,Int.emod_eq_of_lt bY.1 bY.2]
    rw [←h1,←h2,he]
   rcases Nat.lt_or_ge j i with h|h
   ·refine ih (by omega) ?_ j h
    rw [e1]at he
    have h3:numF O x i*at_ O i=numF O y i*at_ O i:=by omega
    exact Int.eq_of_mul_eq_mul_right (by omega) h3
   ·have:j=i:=by omega
    rw [this];exact e1
 exact hx.ext hy fun j h1 h2=>key _ (Nat.le_refl _) h j h2
abbrev BS:=List (List Int)×List (List Int)
def vst (s:BS) (y w:List Int):BS:=if y∈s.1 then s else(s.1++[y],s.2++[w])
def nxt (O:List Int) (P:List (List Int)) (C:List (List (List Int))) (L:List (List Int)) (a w:List Int):Nat→BS→BS
 | 0,s=>s
 | j+1,s=>vst (nxt O P C L a w j s) (gm O P C a (L.getD j [])) (w++[(j:Int)+1])
def stt (O:List Int) (P:List (List Int)) (C:List (List (List Int))) (L:List (List Int)):Nat→BS
 | 0=>([zv O],[[]])
 | k+1=>nxt O P C L ((stt O P C L k).1.getD k []) ((stt O P C L k).2.getD k []) L.length (stt O P C L k)
structure OkS (O:List Int) (P:List (List Int)) (C:List (List (List Int))) (L:List (List Int)) (s:BS):Prop where
 len:s.2.length=s.1.length
 nd:s.1.Nodup
 mem:∀y∈s.1,GC O P C L y
 one:zv O∈s.1
 ws:∀i (h:i<s.2.length),s.2[i].length≤i
def PrS (s t:BS):Prop:=s.1 <+:t.1∧s.2 <+:t.2
theorem PrS.refl (s:BS):PrS s s:=⟨List.prefix_refl _,List.prefix_refl _⟩
theorem PrS.trans {s t u:BS} (a:PrS s t) (b:PrS t u):PrS s u:=⟨a.1.trans b.1,a.2.trans b.2⟩
theorem zIb (s:BS) (y w:List Int):PrS s (vst s y w):=by
 unfold vst;split
 ·exact PrS.refl s
 ·exact⟨List.prefix_append _ _,List.prefix_append _ _⟩
theorem zLM (s:BS) (y w:List Int):y∈(vst s y w).1:=by
 unfold vst;split
 ·assumption
 ·simp
theorem zDZ (a w:List Int) (s:BS):∀j,PrS s (nxt O P C L a w j s)
 | 0=>PrS.refl s
 | j+1=>(zDZ a w s j).trans (zIb _ _ _)
theorem zE8:∀{k m:Nat},k≤m→PrS (stt O P C L k) (stt O P C L m)
 | k,0,h=>by
  have:k=0:=by omega
  subst this;exact PrS.refl _
 | k,m+1,h=>by
  rcases Nat.lt_or_ge k (m+1)with x|x
  ·exact(zE8 (by omega:k≤m)).trans (zDZ _ _ _ _)
  ·have:k=m+1:=by omega
   subst this;exact PrS.refl _
theorem zG8 {α:Type} {a b:List α} (h:a <+:b) {i:Nat} {v:α} (hi:a[i]? = some v):b[i]? = some v:=by
 obtain⟨t,rfl⟩:=h;have hlt:i<a.length:=by
  rcases Nat.lt_or_ge i a.length with x|x
  ·exact x
  ·rw [List.getElem?_eq_none x]at hi;cases hi
 rw [List.getElem?_append_left hlt];exact hi
theorem OkS.vst {s:BS} (o:OkS O P C L s) {y w:List Int} (hy:GC O P C L y) (hw:w.length≤s.1.length):OkS O P C L (vst s y w):=by
 unfold Go.Proofs.vst
 split
 ·exact o
 ·rename_i hn
  refine⟨by simp [o.len],?_,fun z hz=>?_,List.mem_append_left _ o.one,fun i h=>?_⟩
  ·rw [List.nodup_append]
   exact⟨o.nd,by simp,fun a ha b hb e=>hn (by rw [←List.mem_singleton.1 hb,←e];exact ha)⟩
  ·rcases List.mem_append.1 hz with hz | hz
   ·exact o.mem z hz
   ·rw [List.mem_singleton.1 hz];exact hy
  ·simp only [List.length_append,List.length_cons,List.length_nil]at h
   rw [List.getElem_append]
   split
   ·exact o.ws i _
   ·have:i=s.2.length:=by omega
    subst this;simp only [Nat.sub_self,List.getElem_cons_zero,o.len];exact hw
theorem OkS.nxt {s:BS} (F:Full O P C O.length) (o:OkS O P C L s) (hL:∀l∈L,gS O l) {a w:List Int} (ha:GC O P C L a) (hw:w.length+1≤s.1.length):∀{j},j≤L.length→OkS O P C L (nxt O P C L a w j s)
 | 0,_=>o
 | j+1,hj=>by
  have hlt:j<L.length:=hj;refine(OkS.nxt F o hL ha hw (by omega:j≤L.length)).vst ?_ ?_
  ·have hl:L.getD j []∈L:=by
    rw [List.getD_eq_getElem?_getD,List.getElem?_eq_getElem hlt];exact List.getElem_mem hlt
   exact(GC.sub F hL).cl ha (GC.mem hl)
  ·rw [List.length_append,List.length_singleton]
   have:=(zDZ (O:=O) (P:=P) (C:=C) (L:=L) a w s j).1.length_le
   omega
theorem OkS.stt (s:Shp O P C) (F:Full O P C O.length) (hL:∀l∈L,gS O l):∀{k:Nat},(∀i,i<k→i<(stt O P C L i).1.length)→OkS O P C L (stt O P C L k)
 | 0,_=>⟨rfl,by simp [Go.Proofs.stt],fun y hy=>by rw [List.mem_singleton.1 hy];exact(GC.sub F hL).one,by simp [Go.Proofs.stt],fun i h=>by
   simp only [Go.Proofs.stt,List.length_cons,List.length_nil]at h
   have:i=0:=by omega
   subst this;simp [Go.Proofs.stt]⟩
 | k+1,hk=>by
  have o:=OkS.stt s F hL (k:=k) fun i hi=>hk i (by omega)
  have hlt:=hk k (by omega)
  have hl2:k<(Go.Proofs.stt O P C L k).2.length:=by rw [o.len];exact hlt
  refine o.nxt F hL ?_ ?_ (Nat.le_refl _)
  ·rw [List.getD_eq_getElem?_getD,List.getElem?_eq_getElem hlt];exact o.mem _ (List.getElem_mem hlt)
  ·rw [List.getD_eq_getElem?_getD,List.getElem?_eq_getElem hl2]
   have:=o.ws k hl2
   simp only [Option.getD_some];omega
theorem OkS.bound (s:Shp O P C) (F:Full O P C O.length) (hL:∀l∈L,gS O l) {t:BS} (o:OkS O P C L t):(t.1.length:Int)≤ordF O O.length:=by
 have inS:∀y∈t.1,gS O y:=fun y hy=>(GC.sub F hL).inS (o.mem y hy)
 have hb:∀y∈t.1,0≤numF O y O.length∧numF O y O.length<ordF O O.length:=fun y hy=>zA4 s.pr (fun j hj=>(inS y hy).bd j hj) (Nat.le_refl _)
 have h1:(t.1.map fun y=>(numF O y O.length).toNat).Nodup:=by
  rw [List.Nodup,List.pairwise_map];refine o.nd.imp_of_mem fun {a b} ha hb' hne he=>hne (zAL s (inS a ha) (inS b hb') ?_)
  have:=hb a ha
  have:=hb b hb'
  omega
 have h2:(t.1.map fun y=>(numF O y O.length).toNat)⊆List.range (ordF O O.length).toNat:=fun k hk=>by
  obtain⟨y,hy,rfl⟩:=List.mem_map.1 hk
  have:=hb y hy
  exact List.mem_range.2 (by omega)
 have h3:=List.Nodup.length_le_of_subset h1 h2;rw [List.length_map,List.length_range]at h3
 have:=(Zr s.pr (Nat.le_refl _)).1
 omega
end Go.Proofs
namespace Go.Grp
end Go.Grp
namespace Go.Proofs
open Go.Ab Go.Lie Go.Grp
variable {O x y:List Int} {P:List (List Int)} {C:List (List (List Int))} {L:List (List Int)}
theorem zHA (a w:List Int) (s:BS):∀{j m:Nat},m<j→gm O P C a (L.getD m [])∈(nxt O P C L a w j s).1
 | j+1,m,h=>by
  rcases Nat.lt_or_ge m j with x|x
  ·exact(zIb _ _ _).1.subset (zHA a w s x)
  ·have:m=j:=by omega
   subst this;exact zLM _ _ _
theorem zKC {k:Nat} (hk:∀i,i<k→i<(stt O P C L i).1.length) (he:(stt O P C L k).1.length≤k) {y g:List Int} (hy:y∈(stt O P C L k).1) (hg:g∈L):gm O P C y g∈(stt O P C L k).1:=by
 obtain⟨i,hi,rfl⟩:=List.mem_iff_getElem.1 hy;obtain⟨j,hj,rfl⟩:=List.mem_iff_getElem.1 hg;have hik:i<k:=by omega
 have hlt:=hk i hik;have e:(stt O P C L i).1.getD i []=(stt O P C L k).1[i]:=by
  have:=zG8 (zE8 (O:=O) (P:=P) (C:=C) (L:=L) (Nat.le_of_lt hik)).1 (List.getElem?_eq_getElem hlt)
  rw [List.getElem?_eq_getElem hi]at this
  rw [List.getD_eq_getElem?_getD,List.getElem?_eq_getElem hlt,Option.getD_some];exact(Option.some.inj this).symm
 have h1:gm O P C ((stt O P C L i).1.getD i []) (L.getD j [])∈(stt O P C L (i+1)).1:=zHA _ _ _ hj;have h2:=(zE8 (O:=O) (P:=P) (C:=C) (L:=L) (show i+1≤k by omega)).1.subset h1
 rw [e,List.getD_eq_getElem?_getD,List.getElem?_eq_getElem hj]at h2
 exact h2
theorem zLU (s:Shp O P C) (F:Full O P C O.length) (hC:Cent O C) (hL:∀l∈L,gS O l) {k:Nat} (hk:∀i,i<k→i<(stt O P C L i).1.length) (he:(stt O P C L k).1.length≤k) (hx:GC O P C L x):x∈(stt O P C L k).1:=by
 have o:=OkS.stt s F hL hk;have G:=F.g;have inS:∀y∈(stt O P C L k).1,gS O y:=fun y hy=>(GC.sub F hL).inS (o.mem y hy)
 have hN:=zHW (O:=O) (P:=P) (C:=C) s F hC (N:=fun y=>gS O y∧∀z∈(stt O P C L k).1,gm O P C z y∈(stt O P C L k).1) (fun y hy=>hy.1) ⟨s.zv _,fun z hz=>by rw [G.r1 (inS z hz)];exact hz⟩ (fun a b ha hb=>⟨G.cl ha.1 hb.1,fun z hz=>by
  rw [←G.as (inS z hz) ha.1 hb.1];exact hb.2 _ (ha.2 z hz)⟩)
 have:=(hx _ hN fun l hl=>⟨hL l hl,fun z hz=>zKC hk he hz hl⟩).2 _ o.one
 rwa [G.l1 ((GC.sub F hL).inS hx)]at this
end Go.Proofs
namespace Go.Grp
end Go.Grp
namespace Go.Mx
open Go.Ab Go.Lie Go.Grp
variable {p:Int} {n m d:Nat} {v w:List Int} {A B C:List (List Int)}
structure Ve (p:Int) (n:Nat) (v:List Int):Prop where
 len:v.length=n
 bd:∀j,0≤at_ v j∧at_ v j<p
def Ma (p:Int) (n:Nat) (A:List (List Int)):Prop:=∀r∈A,Ve p n r
def row (A:List (List Int)) (i:Nat):List Int:=A.getD i []
def vstep (p:Int) (x:Int) (r out:List Int):List Int:=List.zipWith (fun o b=>(o+x*b) % p) out r
def vmul (p:Int) (n:Nat) (v:List Int) (A:List (List Int)):Nat→List Int
 | 0=>List.replicate n 0
 | i+1=>vstep p (at_ v i) (row A i) (vmul p n v A i)
abbrev vt (p:Int) (n:Nat) (v:List Int) (A:List (List Int)):List Int:=vmul p n v A v.length
def mm (p:Int) (n:Nat) (A B:List (List Int)):List (List Int):=A.map fun r=>vt p n r B
theorem Ma.row (h:Ma p n A) {i:Nat} (hi:i<A.length):Ve p n (Mx.row A i):=by
 have:Mx.row A i=A[i]:=by simp [Mx.row,List.getD_eq_getElem?_getD,List.getElem?_eq_getElem hi]
 rw [this];exact h _ (List.getElem_mem hi)
theorem zDN {i:Nat} (hi:i<A.length):Mx.row A i=A[i]:=by simp [Mx.row,List.getD_eq_getElem?_getD,List.getElem?_eq_getElem hi]
theorem ZF {x:Int} {r out:List Int} (h:r.length=out.length):(vstep p x r out).length=out.length:=by simp [vstep,h]
theorem zJ6 {x:Int} {r out:List Int} (h:r.length=out.length) {j:Nat} (hj:j<out.length):at_ (vstep p x r out) j=(at_ out j+x*at_ r j) % p:=by
 have h1:j<(vstep p x r out).length:=by rw [ZF h];exact hj
 rw [at_eq h1,at_eq hj,at_eq (by omega:j<r.length)]
 simp [vstep]
theorem ZE (hA:Ma p n A):∀{i:Nat},i≤A.length→(vmul p n v A i).length=n
 | 0,_=>by simp [vmul]
 | i+1,hi=>by
  rw [vmul,ZF]
  ·exact ZE hA (by omega)
  ·rw [ZE hA (by omega)];exact(hA.row (by omega)).len
theorem zGz (hp:0<p) (hA:Ma p n A) {j:Nat} (hj:j<n):∀{i:Nat},i≤A.length→at_ (vmul p n v A i) j=(sumN i fun k=>at_ v k*at_ (Mx.row A k) j) % p
 | 0,_=>by rw [vmul,ZI,sumN,Int.zero_emod]
 | i+1,hi=>by
  have hl:=ZE (v:=v) hA (i:=i) (by omega)
  rw [vmul,zJ6 (by rw [hl];exact(hA.row (by omega)).len) (by rw [hl];exact hj),zGz hp hA hj (by omega),sumN,Int.emod_add_emod]
theorem zD4 (hp:0<p) (hA:Ma p n A) {i:Nat} (hi:i≤A.length):Ve p n (vmul p n v A i):=by
 refine⟨ZE hA hi,fun j=>?_⟩
 rcases Nat.lt_or_ge j n with h|h
 ·rw [zGz hp hA h hi]
  exact⟨Int.emod_nonneg _ (by omega),Int.emod_lt_of_pos _ hp⟩
 ·rw [at_ge (by rw [ZE hA hi];exact h)];omega
theorem vt_ve (hp:0<p) (hA:Ma p n A) (hv:v.length=A.length):Ve p n (vt p n v A):=zD4 hp hA (by omega)
theorem Zl:(mm p n A B).length=A.length:=by simp [mm]
theorem mm_ma (hp:0<p) (hA:Ma p B.length A) (hB:Ma p n B):Ma p n (mm p n A B):=by
 intro r hr;simp only [mm,List.mem_map]at hr
 obtain⟨a,ha,rfl⟩:=hr;exact vt_ve hp hB (hA a ha).len
end Go.Mx
namespace Go.Grp
end Go.Grp
namespace Go.Mx
open Go.Ab Go.Lie Go.Grp
variable {p:Int} {n d:Nat} {As:List (List (List Int))} {X:List (List Int)}
def nword (x:List Int):Nat→List Int
 | 0=>[]
 | i+1=>nword x i++List.replicate (nx x i) ((i:Int)+1)
abbrev nw (x:List Int):List Int:=nword x x.length
abbrev mat (As:List (List (List Int))) (i:Nat):List (List Int):=As.getD i []
theorem qB {x:List Int} {n:Nat}:∀{i:Nat},i≤n→∀l∈nword x i,1≤l∧l≤(n:Int)
 | 0,_,l,hl=>by cases hl
 | i+1,hi,l,hl=>by
  rw [nword,List.mem_append]at hl
  rcases hl with hl|hl
  ·exact qB (by omega) l hl
  ·have:=List.eq_of_mem_replicate hl;omega
theorem nword_length {x:List Int} {b:Nat} (hb:∀j,nx x j≤b):∀(i:Nat),(nword x i).length≤i*b
 | 0=>by simp [nword]
 | i+1=>by
  have:=nword_length hb i
  have:=hb i
  rw [nword,List.length_append,List.length_replicate,Nat.add_mul];omega
variable {O:List Int} {P:List (List Int)} {C:List (List (List Int))}
def vadd (p c:Int) (v w:List Int):List Int:=vstep p c w v
abbrev vs (p:Int) (n:Nat) (As:List (List (List Int))) (vals:List (List Int)) (v:List Int) (i:Nat):List Int:=vadd p 1 (vt p n v (mat As i)) (vals.getD i [])
end Go.Mx
namespace Go.Grp
open Go.Ab Go.Lie
variable {O:List Int} {P:List (List Int)} {C:List (List (List Int))} {d i t j k:Nat} {w u v pre:List Nat} {x y:List Int}
def wf (x:List Int):Nat→Nat→List Nat
 | t,0=>[]
 | t,d+1=>List.replicate (nx x t) t++wf x (t+1) d
def nword (O x:List Int):List Nat:=wf x 0 O.length
def red (O:List Int) (w:List Nat) (t:Nat):Prop:=(∃a b,w[t]? = some a∧w[t+1]? = some b∧b<a)∨∃a,w[t]? = some a∧(∀s,s<nx O a→w[t+s]? = some a)
inductive Stp (O:List Int) (P:List (List Int)) (C:List (List (List Int))):List Nat→Nat→List Nat→Prop where
 | conj {pre rest:List Nat} {a b:Nat}:b<a→Stp O P C (pre++a::b::rest) pre.length (pre++b::(nword O (cvec C b a)++rest))
 | pow {pre rest:List Nat} {a:Nat}:0<nx O a→Stp O P C (pre++(List.replicate (nx O a) a++rest)) pre.length (pre++(nword O (pvec P a)++rest))
def In (O:List Int) (i:Nat) (w:List Nat):Prop:=∀a∈w,i≤a∧a<O.length
theorem In.app (h:In O i u) (g:In O i v):In O i (u++v):=fun a ha=>(List.mem_append.1 ha).elim (h a) (g a)
theorem In.left (h:In O i (u++v)):In O i u:=fun a ha=>h a (List.mem_append_left _ ha)
theorem In.right (h:In O i (u++v)):In O i v:=fun a ha=>h a (List.mem_append_right _ ha)
theorem In.mono (h:In O i w) (hk:k≤i):In O k w:=fun a ha=>⟨Nat.le_trans hk (h a ha).1,(h a ha).2⟩
def vl (O:List Int) (P:List (List Int)) (C:List (List (List Int))) (d:Nat) (x:List Int) (w:List Nat):List Int:=w.foldl (fun x a=>mu O P C d x (unit O a)) x
theorem zT:vl O P C d x (u++v)=vl O P C d (vl O P C d x u) v:=List.foldl_append ..
section T
variable (s:Shp O P C) (B:Full O P C d)
include s B
theorem vl_in (hx:TT O (O.length-d) x) (hw:In O (O.length-d) w):TT O (O.length-d) (vl O P C d x w):=by
 induction w generalizing x with
 | nil=>exact hx
 | cons a w ih=>
  have ha:=hw a (List.mem_cons_self ..);exact ih (B.gp.cl hx (s.unit ha.2 ha.1)) fun b hb=>hw b (List.mem_cons_of_mem _ hb)
theorem ZL (hx:TT O (O.length-d) x) (hw:In O (O.length-d) w):vl O P C d x w=mu O P C d x (vl O P C d (zv O) w):=by
 have M:=B.gp.toMon
 induction w generalizing x with
 | nil=>exact(M.r1 hx).symm
 | cons a w ih=>
  have ha:=hw a (List.mem_cons_self ..);have hu:=s.unit (O:=O) (P:=P) (C:=C) ha.2 ha.1;have hw':In O (O.length-d) w:=fun b hb=>hw b (List.mem_cons_of_mem _ hb)
  show vl O P C d (mu O P C d x (unit O a)) w=mu O P C d x (vl O P C d (mu O P C d (zv O) (unit O a)) w);rw [ih (M.cl hx hu) hw',M.l1 hu,ih hu hw',M.as hx hu (vl_in s B (s.zv _) hw')]
theorem zBk {a:Nat} (ha:O.length-d≤a∧a<O.length):∀n,vl O P C d (zv O) (List.replicate n a)=pw (mu O P C d) (zv O) (unit O a) n
 | 0=>rfl
 | n+1=>by
  rw [List.replicate_succ',zT,zBk ha n]
  rfl
theorem vl_wf:∀{c t:Nat},O.length-d≤t→t+c≤O.length→In O (O.length-d) (wf x t c)∧vl O P C d (zv O) (wf x t c)=ph (mu O P C d) (zv O) (unit O) (nx x) t c
 | 0,t,_,_=>⟨fun a ha=>(by cases ha),rfl⟩
 | c+1,t,h1,h2=>by
  obtain⟨g1,g2⟩:=vl_wf (c:=c) (t:=t+1) (by omega) (by omega)
  have hr:In O (O.length-d) (List.replicate (nx x t) t):=fun a ha=>by rw [List.eq_of_mem_replicate ha];omega
  have ht:O.length-d≤t∧t<O.length:=by omega
  refine⟨hr.app g1,?_⟩;rw [wf,zT,ZL s B (vl_in s B (s.zv _) hr) g1,zBk s B ht,g2]
  rfl
end T
theorem zLL (h:∀j,t≤j→j<t+k→nx x j=0):∀{c},wf x t (k+c)=wf x (t+k) c:=by
 induction k generalizing t with
 | zero=>intro c;rw [Nat.zero_add,Nat.add_zero]
 | succ k ih=>
  intro c;rw [show k+1+c=(k+c)+1 by omega,wf,h t (Nat.le_refl _) (by omega),List.replicate_zero,List.nil_append,ih (fun j a b=>h j (by omega) (by omega)),show t+1+k=t+(k+1) by omega]
theorem zAI (hx:TT O t x) (ht:t≤O.length):nword O x=wf x t (O.length-t):=by
 unfold nword
 have:=zLL (x:=x) (t:=0) (k:=t) (fun j _ h2=>by show(at_ x j).toNat=0;rw [hx.zero j (by omega)];rfl) (c:=O.length-t)
 rw [show t+(O.length-t)=O.length by omega,Nat.zero_add]at this
 exact this
theorem wf_in:∀{c t:Nat},∀a∈wf x t c,t≤a∧a<t+c
 | 0,t,a,ha=>by cases ha
 | c+1,t,a,ha=>by
  rw [wf,List.mem_append]at ha
  rcases ha with ha|ha
  ·rw [List.eq_of_mem_replicate ha];omega
  ·have:=wf_in (c:=c) (t:=t+1) a ha;omega
theorem qB (hx:TT O t x) (ht:t≤O.length):In O t (nword O x):=by
 rw [zAI hx ht];intro a ha
 have:=wf_in a ha
 omega
theorem Zf (s:Shp O P C) (B:Full O P C d) (hx:TT O (O.length-d) x):vl O P C d (zv O) (nword O x)=x:=by
 have hle:=B.le;rw [zAI hx (by omega),(vl_wf s B (Nat.le_refl _) (by omega)).2,show O.length-(O.length-d)=d by omega]
 exact B.nf hx
def cnt (n:Nat) (w:List Nat):List Int:=(List.range n).map fun a=>((w.count a:Nat):Int)
theorem Z5 {n a:Nat} (ha:a<n):at_ (cnt n w) a=(w.count a:Nat):=by
 unfold cnt;rw [at_eq (by simp;exact ha)]
 simp
def Nrm (O:List Int) (w:List Nat):Prop:=∀t,¬red O w t
theorem zEO:∀{c t:Nat} {w:List Nat},w.Pairwise (·≤·)→(∀a∈w,t≤a∧a<t+c)→∀x:List Int,(∀a,t≤a→a<t+c→nx x a=w.count a)→w=wf x t c
 | 0,t,w,_,h,x,_=>by
  cases w with
  | nil=>rfl
  | cons a w=>have:=h a (List.mem_cons_self ..);omega
 | c+1,t,w,hs,h,x,hx=>by
  have key:∀(w:List Nat),w.Pairwise (·≤·)→(∀a∈w,t≤a)→w=List.replicate (w.count t) t++w.filter (fun a=>decide (t<a)):=by
   intro w
   induction w with
   | nil=>intro _ _;rfl
   | cons a w ih=>
    intro hs h;have h1:=List.pairwise_cons.1 hs;have ha:=h a (List.mem_cons_self ..)
    by_cases e:a=t
    ·subst e
     rw [List.count_cons_self,List.replicate_succ,List.cons_append,List.filter_cons_of_neg (by simp)]
     congr 1
     exact ih h1.2 fun b hb=>h b (List.mem_cons_of_mem _ hb)
    ·have hlt:t<a:=by omega
     have h0:(a::w).count t=0:=List.count_eq_zero.2 fun hm=>by
      rcases List.mem_cons.1 hm with q|q
      ·omega
      ·have:=h1.1 t q;omega
     rw [h0,List.replicate_zero,List.nil_append];refine(List.filter_eq_self.2 fun b hb=>?_).symm
     rcases List.mem_cons.1 hb with rfl|hb
     ·exact decide_eq_true hlt
     ·exact decide_eq_true (Nat.lt_of_lt_of_le hlt (h1.1 b hb))
  have e:=key w hs fun a ha=>(h a ha).1
  rw [wf,hx t (Nat.le_refl _) (by omega)]
  conv=>lhs;rw [e]
  congr 1
  refine zEO (hs.filter _) (fun a ha=>?_) x fun a h1 h2=>?_
  ·rw [List.mem_filter]at ha
   have:=h a ha.1
   have:=of_decide_eq_true ha.2
   omega
  ·rw [hx a (by omega) (by omega),List.count_filter (p:=fun a=>decide (t<a)) (show decide (t<a)=true from decide_eq_true (by omega))]
theorem zDb (h:Nrm O w):w.Pairwise (·≤·):=by
 rw [List.pairwise_iff_getElem];have step:∀p (hp:p+1<w.length),w[p]≤w[p+1]:=fun p hp=>by
  rcases Nat.lt_or_ge w[p+1] w[p]with q|q
  ·exact absurd (.inl ⟨w[p],w[p+1],List.getElem?_eq_getElem (by omega),List.getElem?_eq_getElem hp,q⟩) (h p)
  ·exact q
 intro p q hp hq hpq;obtain⟨r,rfl⟩:∃r,q=p+1+r:=⟨q-(p+1),by omega⟩
 clear hpq
 induction r with
 | zero=>exact step p hq
 | succ r ih=>exact Nat.le_trans (ih (by omega)) (step (p+1+r) hq)
theorem zMP {a n:Nat} (hs:w.Pairwise (·≤·)) (hn:n≤w.count a) (h0:0<n):∃t,∀q,q<n→w[t+q]? = some a:=by
 induction w with
 | nil=>simp at hn;omega
 | cons b w ih=>
  have h1:=List.pairwise_cons.1 hs
  by_cases e:b=a
  ·subst e
   rw [List.count_cons_self]at hn
   refine⟨0,fun q hq=>?_⟩
   rw [Nat.zero_add];cases q with
   | zero=>rfl
   | succ q=>
    rw [List.getElem?_cons_succ];have key:∀{v:List Nat},(b::v).Pairwise (·≤·)→∀{q},q<v.count b→v[q]? = some b:=by
     intro v
     induction v with
     | nil=>intro _ q hq;simp at hq
     | cons c v ihv=>
      intro hv q hq;have g1:=List.pairwise_cons.1 hv;have g2:=List.pairwise_cons.1 g1.2
      by_cases e:c=b
      ·subst e
       cases q with
       | zero=>rfl
       | succ q=>exact ihv (List.pairwise_cons.2 ⟨fun z hz=>g1.1 z (List.mem_cons_of_mem _ hz),g2.2⟩) (by rw [List.count_cons_self]at hq;omega)
      ·have hlt:b<c:=Nat.lt_of_le_of_ne (g1.1 c (List.mem_cons_self ..)) (Ne.symm e)
       have:(c::v).count b=0:=List.count_eq_zero.2 fun hm=>by
        rcases List.mem_cons.1 hm with q|q
        ·omega
        ·have:=g2.1 b q;omega
       omega
    exact key hs (by omega)
  ·rw [List.count_cons_of_ne (by exact e)]at hn
   obtain⟨t,ht⟩:=ih h1.2 hn;exact⟨t+1,fun q hq=>by rw [show t+1+q=(t+q)+1 by omega,List.getElem?_cons_succ];exact ht q hq⟩
theorem zEC (s:Shp O P C) (h:Nrm O w) (hw:In O i w) (hi:i≤O.length):TT O i (cnt O.length w)∧w=nword O (cnt O.length w):=by
 have hs:=zDb h;have ht:TT O i (cnt O.length w):=by
  refine⟨by simp [cnt],fun a ha=>?_,fun a ha=>?_⟩
  ·rw [Z5 ha]
   refine⟨by omega,?_⟩
   have hp:=s.pos ha
   by_cases hlt:((w.count a:Nat):Int)<at_ O a
   ·exact hlt
   ·exfalso
    have e:nx O a≤w.count a:=by show(at_ O a).toNat≤_;omega
    have h0:0<nx O a:=by show 0<(at_ O a).toNat;omega
    obtain⟨t,hr⟩:=zMP hs e h0;exact h t (.inr ⟨a,by have:=hr 0 h0;rwa [Nat.add_zero]at this,hr⟩)
  ·rcases Nat.lt_or_ge a O.length with q | q
   ·rw [Z5 q,List.count_eq_zero.2 fun hm=>by have:=hw a hm;omega];rfl
   ·exact at_ge (by simp [cnt];exact q)
 refine⟨ht,?_⟩;refine zEO hs (fun a ha=>by have:=hw a ha;omega) _ fun a _ h2=>?_
 show(at_ _ a).toNat=_
 rw [Z5 (by omega)];omega
end Go.Grp
set_option linter.unusedVariables false
set_option linter.unusedSimpArgs false
set_option linter.unusedSectionVars false
namespace Go.Grp
open Go.Ab Go.Lie
variable {O:List Int} {P:List (List Int)} {C:List (List (List Int))} {d i t j k:Nat} {w u v w' pre rest:List Nat} {x y:List Int}
def fv {α:Type} (m:α→α→α) (h:Nat→α) (x:α) (w:List Nat):α:=w.foldl (fun x a=>m x (h a)) x
theorem zFs {α:Type} {m:α→α→α} {h:Nat→α} {x:α}:fv m h x (u++v)=fv m h (fv m h x u) v:=List.foldl_append ..
section
variable {α:Type} {S:α→Prop} {m:α→α→α} {e:α} {h:Nat→α}
theorem fv_in (M:Mon S m e) (hh:∀a∈w,S (h a)) {x:α} (hx:S x):S (fv m h x w):=by
 induction w generalizing x with
 | nil=>exact hx
 | cons a w ih=>exact ih (fun b hb=>hh b (List.mem_cons_of_mem _ hb)) (M.cl hx (hh a (List.mem_cons_self ..)))
theorem zFq (M:Mon S m e) (hh:∀a∈w,S (h a)) {x:α} (hx:S x):fv m h x w=m x (fv m h e w):=by
 induction w generalizing x with
 | nil=>exact(M.r1 hx).symm
 | cons a w ih=>
  have ha:=hh a (List.mem_cons_self ..);have hw:∀b∈w,S (h b):=fun b hb=>hh b (List.mem_cons_of_mem _ hb)
  show fv m h (m x (h a)) w=m x (fv m h (m e (h a)) w);rw [ih hw (M.cl hx ha),M.l1 ha,ih hw ha,M.as hx ha (fv_in M hw M.one)]
theorem zFr (M:Mon S m e) {a:Nat}:∀n,fv m h e (List.replicate n a)=pw m e (h a) n
 | 0=>rfl
 | n+1=>by rw [List.replicate_succ',zFs,zFr M n];rfl
theorem fv_wf (M:Mon S m e):∀{c t:Nat},(∀j,t≤j→j<t+c→S (h j))→fv m h e (wf x t c)=ph m e h (nx x) t c
 | 0,t,_=>rfl
 | c+1,t,hh=>by
  have h1:∀a∈List.replicate (nx x t) t,S (h a):=fun a ha=>by rw [List.eq_of_mem_replicate ha];exact hh t (Nat.le_refl _) (by omega)
  have h2:∀a∈wf x (t+1) c,S (h a):=fun a ha=>by have:=wf_in a ha;exact hh a (by omega) (by omega)
  rw [wf,zFs,zFq M h2 (fv_in M h1 M.one),zFr M,fv_wf M fun j a b=>hh j (by omega) (by omega)]
  rfl
end
theorem zE1 {y:List Int}:∀{c t:Nat},(∀j,t≤j→j<t+c→nx x j=nx y j)→wf x t c=wf y t c
 | 0,t,_=>rfl
 | c+1,t,h=>by rw [wf,wf,h t (Nat.le_refl _) (by omega),zE1 fun j a b=>h j (by omega) (by omega)]
theorem Qx (hx:TT O i x) (hi:i<O.length) (hO:0<at_ O i):nword O x=List.replicate (nx x i) i++nword O (x.set i 0):=by
 rw [zAI hx (by omega),zAI (hx.set0 hi hO) (by omega),show O.length-i=(O.length-(i+1))+1 by omega,wf]
 congr 1
 refine zE1 fun j h1 h2=>?_
 show(at_ x j).toNat=(at_ _ j).toNat
 rw [at_set (by rw [hx.len];exact hi),if_neg (by omega)]
theorem Full.cjv (s:Shp O P C) (B:Full O P C d) (h1:O.length-d≤j) (h2:j<k) (h3:k<O.length):mu O P C d (unit O k) (unit O j)=mu O P C d (unit O j) (cvec C j k):=by
 have hle:=B.le;have M:=B.gp.toMon
 have:=B.rel.cj j k h1 h2 h3
 have hc:=s.cj j k h2 h3;have hn:=B.nf (hc.mono (by omega:O.length-d≤j+1))
 have h4:=M.ph_skip (h:=unit O) (x:=nx (cvec C j k)) (d:=O.length-(j+1)) (k:=j+1-(O.length-d)) (t:=O.length-d) (fun t a b=>by show(at_ _ t).toNat=0;rw [hc.zero t (by omega)];rfl) (fun t a b=>s.unit (by omega) (by omega))
 rw [show j+1-(O.length-d)+(O.length-(j+1))=d by omega,show O.length-d+(j+1-(O.length-d))=O.length-(O.length-(j+1)) by omega]at h4
 have nf:Ph O (mu O P C d) (zv O) (unit O) (O.length-(j+1)) (cvec C j k)=cvec C j k:=by
  show ph _ _ _ _ _ _=_;rw [←h4];exact hn
 rwa [nf]at this
theorem Full.pwv (s:Shp O P C) (B:Full O P C d) (h1:O.length-d≤j) (h2:j<O.length):pw (mu O P C d) (zv O) (unit O j) (nx O j)=pvec P j:=by
 have hle:=B.le;have M:=B.gp.toMon
 have:=B.rel.pow j h1 h2
 have hc:=s.pw j h2;have hn:=B.nf (hc.mono (by omega:O.length-d≤j+1))
 have h4:=M.ph_skip (h:=unit O) (x:=nx (pvec P j)) (d:=O.length-(j+1)) (k:=j+1-(O.length-d)) (t:=O.length-d) (fun t a b=>by show(at_ _ t).toNat=0;rw [hc.zero t (by omega)];rfl) (fun t a b=>s.unit (by omega) (by omega))
 rw [show j+1-(O.length-d)+(O.length-(j+1))=d by omega,show O.length-d+(j+1-(O.length-d))=O.length-(O.length-(j+1)) by omega]at h4
 have nf:Ph O (mu O P C d) (zv O) (unit O) (O.length-(j+1)) (pvec P j)=pvec P j:=by
  show ph _ _ _ _ _ _=_;rw [←h4];exact hn
 rwa [nf]at this
theorem Q9 (s:Shp O P C) (B:Full O P C d) (hw:In O (O.length-d) w) (st:Stp O P C w t w') (hx:TT O (O.length-d) x):vl O P C d x w=vl O P C d x w'∧In O (O.length-d) w':=by
 have hle:=B.le;have M:=B.gp.toMon;cases st with
 | @conj pre rest a b hab=>
  have hp:=hw.left;have hr:=hw.right;have ha:=hr a (by simp)
  have hb:=hr b (by simp)
  have hrest:In O (O.length-d) rest:=fun c hc=>hr c (by simp [hc])
  have hc:=s.cj b a hab ha.2;have hcd:=hc.mono (by omega:O.length-d≤b+1)
  have hn:In O (O.length-d) (nword O (cvec C b a)):=(qB hc (by omega)).mono (by omega)
  have hv:=vl_in s B hx hp;have ua:=s.unit (O:=O) (P:=P) (C:=C) ha.2 ha.1;have ub:=s.unit (O:=O) (P:=P) (C:=C) hb.2 hb.1;refine⟨?_,hp.app fun c hc=>?_⟩
  ·rw [zT,zT]
   show vl O P C d (mu O P C d (mu O P C d _ (unit O a)) (unit O b)) rest=vl O P C d (mu O P C d _ (unit O b)) (_++rest);rw [zT,ZL s B (M.cl hv ub) hn,Zf s B hcd,M.as hv ua ub,B.cjv s hb.1 hab ha.2,M.as hv ub hcd]
  ·rcases List.mem_cons.1 hc with rfl | hc
   ·exact hb
   ·exact(List.mem_append.1 hc).elim (hn c) (hrest c)
 | @pow pre rest a h0=>
  have hp:=hw.left;have hr:=hw.right;have hrest:=hr.right;have hrep:=hr.left;have ha:=hrep a (List.mem_replicate.2 ⟨by omega,rfl⟩)
  have hc:=s.pw a ha.2;have hcd:=hc.mono (by omega:O.length-d≤a+1)
  have hn:In O (O.length-d) (nword O (pvec P a)):=(qB hc (by omega)).mono (by omega)
  have hv:=vl_in s B hx hp;refine⟨?_,hp.app (hn.app hrest)⟩;rw [zT,zT,zT,zT,ZL s B hv hrep,ZL s B hv hn,zBk s B ha,Zf s B hcd,B.pwv s ha.1 ha.2]
section L
variable (s:Shp O P C) (B:Full O P C d) (hi:O.length-d=i+1)
include s B hi
theorem vl_up {e:Int} (he:0≤e∧e<at_ O i) (hx:TT O (i+1) x) (hw:In O (i+1) w):vl O P C (d+1) (x.set i e) w=(vl O P C d x w).set i e∧TT O (i+1) (vl O P C d x w):=by
 have hle:=B.le;rw [←hi]at hx hw
 refine⟨?_,by rw [←hi];exact vl_in s B hx hw⟩
 induction w generalizing x with
 | nil=>rfl
 | cons a w ih=>
  have ha:=hw a (List.mem_cons_self ..);have hu:=s.unit (O:=O) (P:=P) (C:=C) ha.2 ha.1;have hz:=hu.zero i (by omega)
  have:=zCN s B.toBeh hi (a:=e) (b:=0) hx hu
  rw [zg hz (by rw [hu.len];omega),if_neg (by omega),Int.add_zero]at this
  show vl O P C (d+1) (mu O P C (d+1) (x.set i e) (unit O a)) w=_;rw [this];exact ih (B.gp.cl hx hu) fun b hb=>hw b (List.mem_cons_of_mem _ hb)
theorem Zk {e:Int} (hx:TT O (i+1) x):mu O P C (d+1) (x.set i e) (unit O i)=if e+1 ≥ at_ O i then(mu O P C d (pvec P i) (al O P C d i x)).set i (e+1-at_ O i)else(al O P C d i x).set i (e+1):=by
 rw [←hi]at hx
 have hz:TT O (O.length-d) (zv O):=s.zv _
 have:=zCN s B.toBeh hi (a:=e) (b:=1) hx hz
 rw [this]
 show(if _ then(mu O P C d (pvec P i) (mu O P C d (al O P C d i x) (zv O))).set i _ else(mu O P C d (al O P C d i x) (zv O)).set i _)=_
 rw [B.gp.toMon.r1 (al_in s B.toBeh hi x)]
theorem al_fv (hx:TT O (i+1) x):al O P C d i x=fv (mu O P C d) (cvec C i) (zv O) (nword O x):=by
 have hle:=B.le;rw [al_ph s B.toBeh hi,zAI hx (by omega),show O.length-(i+1)=d by omega,fv_wf B.gp.toMon fun j h1 h2=>by rw [hi];exact s.cj i j (by omega) (by omega),←hi]
theorem Q8:∀e:Nat,(e:Int)<at_ O i→vl O P C (d+1) (zv O) (List.replicate e i)=(zv O).set i e
 | 0,_=>(zg (ZI _ i) (by simp;have:=B.le;omega)).symm
 | e+1,he=>by
  rw [List.replicate_succ',zT,Q8 e (by omega)]
  show mu O P C (d+1) _ (unit O i)=_;rw [Zk s B hi (s.zv _),if_neg (by omega),al_zv s B.toBeh hi]
  rfl
theorem zAv (hx:TT O i x):vl O P C (d+1) (zv O) (nword O x)=x:=by
 have hle:=B.le;have hil:i<O.length:=by omega
 have hp:=s.pos hil;have bx:=hx.bd i hil;have h0:=hx.set0 hil hp;have e:((nx x i:Nat):Int)=at_ x i:=Int.toNat_of_nonneg bx.1;rw [Qx hx hil hp,zT,Q8 s B hi _ (by omega),(vl_up s B hi (by omega) (s.zv _) (qB h0 (by omega))).1,Zf s B (by rw [hi];exact h0),Zg,e]
 exact(by rw [←Zg x i 0];exact zBm (by rw [hx.len];exact hil))
end L
theorem zKI (h:red O u t):red O (u++v) t:=by
 have key:∀{p a:Nat},u[p]? = some a→(u++v)[p]? = some a:=fun {p a} h=>by
  have:=List.getElem?_eq_some_iff.1 h
  obtain⟨h1,_⟩:=this;rw [List.getElem?_append_left h1];exact h
 rcases h with ⟨a,b,h1,h2,h3⟩|⟨a,h1,h2⟩
 ·exact .inl ⟨a,b,key h1,key h2,h3⟩
 ·exact .inr ⟨a,key h1,fun s hs=>key (h2 s hs)⟩
theorem zG7 (s:Shp O P C) (hw:In O i u) (hl:u.length≤t+1) (lm:∀p,p<t→¬red O (u++v) p):Nrm O u:=by
 intro p hr;rcases Nat.lt_or_ge p t with h|h
 ·exact lm p h (zKI hr)
 ·rcases hr with ⟨a,b,h1,h2,h3⟩ | ⟨a,h1,h2⟩
  ·obtain⟨g,_⟩:=List.getElem?_eq_some_iff.1 h2
   omega
  ·obtain⟨g,e⟩:=List.getElem?_eq_some_iff.1 h1
   have ha:=hw a (e ▸ List.getElem_mem g);have hp:=(s.pr a ha.2).1;have h3:=h2 1 (by show 1<(at_ O a).toNat;omega)
   obtain⟨g',_⟩:=List.getElem?_eq_some_iff.1 h3;omega
theorem zG1 (s:Shp O P C) (B:Full O P C d) (hi:O.length-d=i+1) (hw:In O i w) (st:Stp O P C w t w') (lm:∀p,p<t→¬red O w p):vl O P C (d+1) (zv O) w=vl O P C (d+1) (zv O) w'∧In O i w':=by
 have hle:=B.le;have hil:i<O.length:=by omega
 have M:=B.gp.toMon;have hpos:=s.pos hil;have norm:∀{u v:List Nat},u++v=w→u.length≤t+1→∃x,TT O i x∧u=nword O x∧∀a,a<O.length→at_ x a=(u.count a:Nat):=fun {u v} e hl=>by
  subst e;obtain⟨h1,h2⟩:=zEC s (zG7 s hw.left hl lm) hw.left (by omega)
  exact⟨_,h1,h2,fun a ha=>Z5 ha⟩
 have deep:∀{x:List Int} {r r':List Nat},TT O i x→In O (i+1) r→In O (i+1) r'→(∀y,TT O (O.length-d) y→vl O P C d y r=vl O P C d y r')→vl O P C (d+1) x r=vl O P C (d+1) x r':=fun {x r r'} hx h1 h2 h=>by
  have h0:=hx.set0 hil hpos;have bx:=hx.bd i hil;rw [←zBm (x:=x) (i:=i) (by rw [hx.len];exact hil),(vl_up s B hi bx h0 h1).1,(vl_up s B hi bx h0 h2).1,h _ (by rw [hi];exact h0)]
 cases st with
 | @conj pre rest a b hab=>
  have hp:=hw.left;have hr:=hw.right;have ha:=hr a (by simp)
  have hb:=hr b (by simp)
  have hrest:In O i rest:=fun c hc=>hr c (by simp [hc])
  have hc:=s.cj b a hab ha.2;have hn:In O (b+1) (nword O (cvec C b a)):=qB hc (by omega)
  refine⟨?_,hp.app fun c hc=>?_⟩
  ·obtain⟨x,hx,ex,cx⟩:=norm (u:=pre) (v:=a::b::rest) rfl (by omega)
   obtain⟨y,hy,ey,cy⟩:=norm (u:=pre++[a]) (v:=b::rest) (by simp) (by simp)
   have vx:vl O P C (d+1) (zv O) pre=x:=by rw [ex];exact zAv s B hi hx
   have vy:vl O P C (d+1) (zv O) (pre++[a])=y:=by rw [ey];exact zAv s B hi hy
   rcases Nat.lt_or_ge i b with hib|hib
   ·rw [show pre++a::b::rest=pre++([a,b]++rest) by simp,show pre++b::(nword O (cvec C b a)++rest)=pre++((b::nword O (cvec C b a))++rest) by simp,zT,zT,zT,zT,vx]
    congr 1
    have h1:In O (i+1) [a,b]:=fun c hc=>by
     rcases List.mem_cons.1 hc with rfl|hc
     ·exact⟨by omega,ha.2⟩
     ·rw [List.mem_singleton.1 hc];exact⟨hib,hb.2⟩
    have h2:In O (i+1) (b::nword O (cvec C b a)):=fun c hc=>by
     rcases List.mem_cons.1 hc with rfl|hc
     ·exact⟨hib,hb.2⟩
     ·have:=hn c hc;exact⟨by omega,this.2⟩
    refine deep hx h1 h2 fun z hz=>?_
    have:=(Q9 (t:=0) s B (w:=[a,b]) (w':=b::(nword O (cvec C b a)++[])) (by rw [hi];exact h1) (Stp.conj (pre:=[]) (rest:=[]) hab) hz).1
    rwa [List.append_nil]at this
   ·obtain rfl:b=i:=by omega
    -- the letter i behind a normal word
    have h0x:=hx.set0 hil hpos;have h0y:=hy.set0 hil hpos;have bx:=hx.bd b hil;have exy:at_ y b=at_ x b:=by rw [cx b hil,cy b hil,List.count_append,List.count_cons_of_ne (by omega)];simp
    have tails:nword O (y.set b 0)=nword O (x.set b 0)++[a]:=by
     have e1:=Qx hx hil hpos;have e2:=Qx hy hil hpos;rw [←ey,ex,e1,show nx y b=nx x b by show(at_ y b).toNat=(at_ x b).toNat;rw [exy],List.append_assoc]at e2
     exact(List.append_cancel_left e2).symm
    have hal:al O P C d b (y.set b 0)=mu O P C d (al O P C d b (x.set b 0)) (cvec C b a):=by
     rw [al_fv s B hi h0y,tails,zFs,←al_fv s B hi h0x]
     rfl
    have hcd:TT O (O.length-d) (cvec C b a):=by rw [hi];exact hc
    have hA:=al_in s B.toBeh hi (x.set b 0);have hwv:TT O (O.length-d) (pvec P b):=by rw [hi];exact s.pw b hil
    have hvn:∀{z:List Int},TT O (O.length-d) z→vl O P C d z (nword O (cvec C b a))=mu O P C d z (cvec C b a):=fun {z} hz=>by rw [ZL s B hz (by rw [hi];exact hn),Zf s B hcd]
    rw [show pre++a::b::rest=(pre++[a])++([b]++rest) by simp,show pre++b::(nword O (cvec C b a)++rest)=pre++([b]++(nword O (cvec C b a)++rest)) by simp,zT (u:=pre++[a]),zT (u:=[b]) (v:=rest),vy,zT (u:=pre),zT (u:=[b]) (v:=nword O (cvec C b a)++rest),zT (u:=nword O (cvec C b a)),vx]
    congr 1
    show mu O P C (d+1) y (unit O b)=vl O P C (d+1) (mu O P C (d+1) x (unit O b)) _;rw [←zBm (x:=y) (i:=b) (by rw [hy.len];exact hil),←zBm (x:=x) (i:=b) (by rw [hx.len];exact hil),Zk s B hi h0x,Zk s B hi h0y,exy,hal]
    by_cases ho:at_ x b+1 ≥ at_ O b
    ·rw [if_pos ho,if_pos ho,(vl_up s B hi (by omega) (by rw [←hi];exact M.cl hwv hA) hn).1,hvn (M.cl hwv hA),M.as hwv hA hcd]
    ·rw [if_neg ho,if_neg ho,(vl_up s B hi (by omega) (by rw [←hi];exact hA) hn).1,hvn hA]
  ·rcases List.mem_cons.1 hc with rfl | hc
   ·exact hb
   ·rcases List.mem_append.1 hc with hc | hc
    ·have:=hn c hc;exact⟨by omega,this.2⟩
    ·exact hrest c hc
 | @pow pre rest a h0=>
  have hp:=hw.left;have hr:=hw.right;have hrest:=hr.right;have hrep:=hr.left;have ha:=hrep a (List.mem_replicate.2 ⟨by omega,rfl⟩)
  have hc:=s.pw a ha.2;have hn:In O (a+1) (nword O (pvec P a)):=qB hc (by omega)
  refine⟨?_,hp.app (In.app (hn.mono (by omega)) hrest)⟩
  obtain⟨x,hx,ex,cx⟩:=norm (u:=pre) (v:=List.replicate (nx O a) a++rest) rfl (by omega)
  have vx:vl O P C (d+1) (zv O) pre=x:=by rw [ex];exact zAv s B hi hx
  rcases Nat.lt_or_ge i a with hia|hia
  ·rw [zT,zT,zT,zT,vx]
   congr 1
   have h1:In O (i+1) (List.replicate (nx O a) a):=fun c hc=>by rw [List.eq_of_mem_replicate hc];exact⟨hia,ha.2⟩
   refine deep hx h1 (hn.mono (by omega)) fun z hz=>?_
   have:=(Q9 (t:=0) s B (w:=List.replicate (nx O a) a++[]) (w':=nword O (pvec P a)++[]) (by rw [hi,List.append_nil];exact h1) (Stp.pow (pre:=[]) (rest:=[]) h0) hz).1
   rwa [List.append_nil,List.append_nil]at this
  ·obtain rfl:a=i:=by omega
   -- nothing stands before it
   have hpre:pre=[]:=by
    rcases pre.eq_nil_or_concat with rfl|⟨q,z,rfl⟩
    ·rfl
    ·exfalso
     obtain⟨o,ho⟩:∃o,nx O a=o+1:=⟨nx O a-1,by omega⟩
     have hz:z=a:=by
      obtain⟨y,hy,ey,cy⟩:=norm (u:=q++[z]++[a]) (v:=List.replicate o a++rest) (by rw [ho,List.replicate_succ];simp) (by simp)
      have hs:=zDb (zG7 (t:=(q++[z]).length) (v:=List.replicate o a++rest) s (u:=q++[z]++[a]) (In.left (v:=List.replicate o a++rest) (by rw [ho,List.replicate_succ]at hw;simpa using hw)) (by simp) (by rw [ho,List.replicate_succ]at lm;simpa using lm))
      have h1:=(List.pairwise_append.1 hs).2.2 z (by simp) a (by simp)
      have h2:=hp z (by simp)
      omega
     subst hz;refine lm q.length (by simp) (.inr ⟨z,by simp,fun r hr=>?_⟩)
     have hr':r<o+1:=by omega
     rw [show q.concat z++(List.replicate (nx O z) z++rest)=q++(List.replicate (nx O z+1) z++rest) by rw [List.replicate_succ,List.concat_eq_append];simp,List.getElem?_append_right (by omega),List.getElem?_append_left (by simp;omega),List.getElem?_replicate,if_pos (by omega)]
   subst hpre;obtain⟨o,ho⟩:∃o,nx O a=o+1:=⟨nx O a-1,by omega⟩
   have ho':at_ O a=(o:Int)+1:=by have:nx O a=(at_ O a).toNat:=rfl;omega
   have hwv:TT O (O.length-d) (pvec P a):=by rw [hi];exact hc
   rw [List.nil_append,List.nil_append,zT,zT,zAv s B hi (hc.mono (by omega)),ho,List.replicate_succ',zT,Q8 s B hi o (by omega)]
   congr 1
   show mu O P C (d+1) _ (unit O a)=_;rw [Zk s B hi (s.zv _),if_pos (by omega),al_zv s B.toBeh hi,M.r1 hwv,show(o:Int)+1-at_ O a=0 by omega]
   exact zg (hc.zero a (by omega)) (by rw [hc.len];exact hil)
end Go.Grp
set_option linter.unusedVariables false
set_option linter.unusedSimpArgs false
set_option linter.unusedSectionVars false
namespace Go.Grp
open Go.Ab Go.Lie
variable {O:List Int} {P:List (List Int)} {C:List (List (List Int))} {d i t j k:Nat} {w u v w' pre rest:List Nat} {x y:List Int}
inductive Col (O:List Int) (P:List (List Int)) (C:List (List (List Int))):List Nat→List Int→Prop where
 | done {w:List Nat}:Nrm O w→Col O P C w (cnt O.length w)
 | step {w w':List Nat} {t:Nat} {x:List Int}:Stp O P C w t w'→(∀p,p<t→¬red O w p)→Col O P C w' x→Col O P C w x
theorem Col.val (s:Shp O P C) (B:Full O P C d) (hi:O.length-d=i+1) (hw:In O i w) (h:Col O P C w x):x=vl O P C (d+1) (zv O) w:=by
 induction h with
 | done hn=>
  have hle:=B.le;obtain⟨h1,h2⟩:=zEC s hn hw (by omega)
  conv=>rhs;rw [h2]
  exact(zAv s B hi h1).symm
 | step st lm _ ih=>
  obtain⟨h1,h2⟩:=zG1 s B hi hw st lm;rw [h1];exact ih h2
theorem Col.val' (s:Shp O P C) (B:Full O P C d) (hw:In O (O.length-d) w) (h:Col O P C w x):x=vl O P C d (zv O) w:=by
 induction h with
 | done hn=>
  obtain⟨h1,h2⟩:=zEC s hn hw (by omega)
  conv=>rhs;rw [h2]
  exact(Zf s B h1).symm
 | step st lm _ ih=>
  obtain⟨h1,h2⟩:=Q9 s B hw st (s.zv _);rw [h1];exact ih h2
def stepf (O:List Int) (P:List (List Int)) (C:List (List (List Int))) (w:List Nat) (t:Nat):List Nat:=
 if t+1<w.length∧w.getD (t+1) 0<w.getD t 0 then w.take t++(w.getD (t+1) 0::(nword O (cvec C (w.getD (t+1) 0) (w.getD t 0))++w.drop (t+2)))
 else w.take t++(nword O (pvec P (w.getD t 0))++w.drop (t+nx O (w.getD t 0)))
theorem getD_some {a:Nat} (h:w[t]? = some a):w.getD t 0=a∧t<w.length:=by
 obtain⟨g,e⟩:=List.getElem?_eq_some_iff.1 h;exact⟨by rw [List.getD_eq_getElem?_getD,h];rfl,g⟩
theorem ZJ (s:Shp O P C) (hw:In O i w) (hr:red O w t):Stp O P C w t (stepf O P C w t):=by
 have sp:w=w.take t++w.drop t:=(List.take_append_drop t w).symm
 by_cases hc:t+1<w.length∧w.getD (t+1) 0<w.getD t 0
 ·obtain⟨h1,h2⟩:=hc
  rw [stepf,if_pos ⟨h1,h2⟩];have e:w.drop t=w.getD t 0::w.getD (t+1) 0::w.drop (t+2):=by
   rw [List.drop_eq_getElem_cons (by omega),List.drop_eq_getElem_cons h1,List.getD_eq_getElem?_getD,List.getD_eq_getElem?_getD,List.getElem?_eq_getElem h1,List.getElem?_eq_getElem (by omega)]
   rfl
  have:=Stp.conj (O:=O) (P:=P) (C:=C) (pre:=w.take t) (rest:=w.drop (t+2)) h2
  rw [←e,←sp,List.length_take,Nat.min_eq_left (by omega)]at this
  exact this
 ·rw [stepf,if_neg hc]
  rcases hr with ⟨a,b,h1,h2,h3⟩|⟨a,h1,h2⟩
  ·exfalso
   have g1:=getD_some h1;have g2:=getD_some h2;exact hc ⟨g2.2,by rw [g1.1,g2.1];exact h3⟩
  ·obtain⟨e1,hl⟩:=getD_some h1
   obtain⟨_,e2⟩:=List.getElem?_eq_some_iff.1 h1;have ha:=hw a (e2 ▸ List.getElem_mem hl);have hp:=(s.pr a ha.2).1;have h0:0<nx O a:=by show 0<(at_ O a).toNat;omega
   have e:w.drop t=List.replicate (nx O a) a++w.drop (t+nx O a):=by
    have hle:t+nx O a≤w.length:=by
     have:=(getD_some (h2 (nx O a-1) (by omega))).2
     omega
    rw [←List.take_append_drop (nx O a) (w.drop t),List.drop_drop]
    congr 1
    refine List.eq_replicate_iff.2 ⟨by rw [List.length_take,List.length_drop];omega,fun b hb=>?_⟩
    obtain⟨p,hp',e⟩:=List.mem_iff_getElem.1 hb;rw [List.length_take,List.length_drop]at hp'
    rw [List.getElem_take,List.getElem_drop]at e
    have:=h2 p (by omega)
    rw [List.getElem?_eq_getElem (by omega),Option.some.injEq]at this
    rw [←e,this]
   rw [e1]
   have:=Stp.pow (O:=O) (P:=P) (C:=C) (pre:=w.take t) (rest:=w.drop (t+nx O a)) h0
   rw [←e,←sp,List.length_take,Nat.min_eq_left (by omega)]at this
   exact this
inductive Crit (O:List Int):Nat→List Nat→Nat→Prop where
 | tri {i j k:Nat}:i<j→j<k→k<O.length→Crit O i [k,j,i] 1
 | pow {i j:Nat}:i<j→j<O.length→Crit O i (List.replicate (nx O j) j++[i]) (nx O j-1)
 | inn {i j:Nat}:i<j→j<O.length→Crit O i (j::List.replicate (nx O i) i) 1
 | fix {i:Nat}:i<O.length→Crit O i (List.replicate (nx O i+1) i) 1
theorem zD8 {a m:Nat} (h:t+nx O a≤m) (h0:0<nx O a):red O (List.replicate m a++rest) t:=
 .inr ⟨a,by rw [List.getElem?_append_left (by simp;omega),List.getElem?_replicate,if_pos (by omega)],fun s hs=>by rw [List.getElem?_append_left (by simp;omega),List.getElem?_replicate,if_pos (by omega)]⟩
theorem Crit.ok (s:Shp O P C) (h:Crit O i w t):In O i w∧red O w 0∧red O w t:=by
 have o2:∀{j:Nat},j<O.length→2≤nx O j:=fun {j} hj=>by have:=(s.pr j hj).1;show 2≤(at_ O j).toNat;omega
 cases h with
 | @tri j k h1 h2 h3=>
  refine⟨fun a ha=>?_,.inl ⟨k,j,rfl,rfl,h2⟩,.inl ⟨j,i,rfl,rfl,h1⟩⟩
  simp only [List.mem_cons,List.not_mem_nil,or_false]at ha
  omega
 | @pow j h1 h2=>
  have o:=o2 h2;refine⟨fun a ha=>?_,zD8 (by omega) (by omega),.inl ⟨j,i,?_,?_,h1⟩⟩
  ·rcases List.mem_append.1 ha with ha | ha
   ·rw [List.eq_of_mem_replicate ha];omega
   ·rw [List.mem_singleton.1 ha];omega
  ·rw [List.getElem?_append_left (by rw [List.length_replicate];omega),List.getElem?_replicate,if_pos (by omega)]
  ·rw [List.getElem?_append_right (by rw [List.length_replicate];omega)];simp only [List.length_replicate];rw [show nx O j-1+1-nx O j=0 by omega];rfl
 | @inn j h1 h2=>
  have o:=o2 (j:=i) (by omega)
  refine⟨fun a ha=>?_,.inl ⟨j,i,rfl,?_,h1⟩,.inr ⟨i,?_,fun q hq=>?_⟩⟩
  ·rcases List.mem_cons.1 ha with rfl | ha
   ·omega
   ·rw [List.eq_of_mem_replicate ha];omega
  ·rw [List.getElem?_cons_succ,List.getElem?_replicate,if_pos (by omega)]
  ·rw [List.getElem?_cons_succ,List.getElem?_replicate,if_pos (by omega)]
  ·rw [Nat.add_comm,List.getElem?_cons_succ,List.getElem?_replicate,if_pos (by omega)]
 | fix h1=>
  have o:=o2 h1
  have:=zD8 (O:=O) (a:=i) (m:=nx O i+1) (t:=0) (rest:=[]) (by omega) (by omega)
  have h':=zD8 (O:=O) (a:=i) (m:=nx O i+1) (t:=1) (rest:=[]) (by omega) (by omega)
  rw [List.append_nil]at this h'
  exact⟨fun a ha=>by rw [List.eq_of_mem_replicate ha];omega,this,h'⟩
theorem zFZ:∀{t c:Nat},wf (zv O) t c=[]
 | t,0=>rfl
 | t,c+1=>by
  have:nx (zv O) t=0:=by show(at_ (zv O) t).toNat=0;rw [ZI];rfl
  rw [wf,this,zFZ];rfl
theorem zEV (s:Shp O P C) (hx:TT O (j+1) x) (hj:j<O.length) {e:Nat} (he:(e:Int)<at_ O j):nword O (x.set j e)=List.replicate e j++nword O x:=by
 have hl:j<x.length:=by rw [hx.len];exact hj
 have h1:TT O j (x.set j e):=(hx.mono (by omega)).set hj (Nat.le_refl _) ⟨by omega,he⟩
 rw [Qx h1 hj (s.pos hj),Zg,zg (hx.zero j (by omega)) hl]
 congr 2
 show(at_ _ j).toNat=e
 rw [at_set hl,if_pos rfl]
 rfl
section L
variable (s:Shp O P C) (B:Full O P C d) (hi:O.length-d=i+1)
include s B hi
theorem zG0 (hx:TT O (i+1) x) {e:Nat}:∀{m:Nat},(e:Int)+m<at_ O i→vl O P C (d+1) (x.set i e) (List.replicate m i)=(iter (al O P C d i) m x).set i ((e:Int)+m)∧TT O (i+1) (iter (al O P C d i) m x)
 | 0,_=>⟨by rw [Int.natCast_zero,Int.add_zero];rfl,hx⟩
 | m+1,h=>by
  obtain⟨h1,h2⟩:=zG0 hx (e:=e) (m:=m) (by omega)
  rw [List.replicate_succ',zT,h1,zAg];refine⟨?_,by rw [←hi];exact al_in s B.toBeh hi _⟩
  show mu O P C (d+1) _ (unit O i)=_;rw [Zk s B hi h2,if_neg (by omega),show(e:Int)+m+1=e+((m+1:Nat):Int) by omega]
theorem zCJ {a:Int} (hx:TT O (i+1) x) (hy:TT O (i+1) y) (h:x.set i a=y.set i a):x=y:=by
 have hle:=B.le
 have:=congrArg (fun z=>z.set i 0) h
 simp only [Zg]at this
 rwa [zg (hx.zero i (by omega)) (by rw [hx.len];omega),zg (hy.zero i (by omega)) (by rw [hy.len];omega)]at this
theorem zH4 (J:∀w t,Crit O i w t→∃x,Col O P C (stepf O P C w 0) x∧Col O P C (stepf O P C w t) x):Lv O P C i:=by
 have hle:=B.le;have hil:i<O.length:=by omega
 have e:O.length-1-i=d:=by omega
 have M:=B.gp.toMon;have hpos:=s.pos hil;have o2:∀{j:Nat},j<O.length→2≤nx O j:=fun {j} hj=>by have:=(s.pr j hj).1;show 2≤(at_ O j).toNat;omega
 have on:∀{j:Nat},j<O.length→at_ O j=(nx O j:Nat):=fun {j} hj=>by have:=(s.pr j hj).1;show _=((at_ O j).toNat:Int);omega
 have oi:=o2 hil;have oe:=on hil;have key:∀{w t},Crit O i w t→vl O P C (d+1) (zv O) w=vl O P C (d+1) (zv O) (stepf O P C w t):=fun {w t} h=>by
  obtain⟨g1,g2,g3⟩:=h.ok s;obtain⟨x,c1,c2⟩:=J w t h;have st:=ZJ s g1 g2;have k1:=zG1 s B hi g1 st fun p hp=>absurd hp (Nat.not_lt_zero _)
  have st':=ZJ s g1 g3;have k2:In O i (stepf O P C w t):=by
   -- letters of a step
   revert st'
   generalize stepf O P C w t=v;intro st';cases st' with
   | @conj pre rest a b hab=>
    refine g1.left.app fun c hc=>?_
    have hr:=g1.right;rcases List.mem_cons.1 hc with rfl|hc
    ·exact hr c (by simp)
    ·rcases List.mem_append.1 hc with hc | hc
     ·have h1:=qB (s.cj b a hab (hr a (by simp)).2) (by have:=(hr a (by simp)).2;omega) c hc
      have h2:=(hr b (by simp)).1
      exact⟨by omega,h1.2⟩
     ·exact hr c (by simp [hc])
   | @pow pre rest a h0=>
    have hr:=g1.right;have ha:=hr.left a (List.mem_replicate.2 ⟨by omega,rfl⟩)
    exact g1.left.app (((qB (s.pw a ha.2) (by omega)).mono (by omega)).app hr.right)
  rw [k1.1,←c1.val s B hi k1.2];exact c2.val s B hi k2
 have zs:zv O=(zv O).set i 0:=(zg (ZI _ i) (by simp;exact hil)).symm
 have up:∀{w},In O (i+1) w→vl O P C (d+1) (zv O) w=(vl O P C d (zv O) w).set i 0∧TT O (i+1) (vl O P C d (zv O) w):=fun {w} hw=>by
  have:=vl_up s B hi (e:=0) (by omega) (s.zv (i+1)) hw
  rwa [←zs]at this
 have upn:∀{x y:List Int} {a:Int},0≤a∧a<at_ O i→TT O (i+1) x→TT O (i+1) y→vl O P C (d+1) (x.set i a) (nword O y)=(mu O P C d x y).set i a:=fun {x y a} ha hx hy=>by
  rw [(vl_up s B hi ha hx (qB hy (by omega))).1,ZL s B (by rw [hi];exact hx) (by rw [hi];exact qB hy (by omega)),Zf s B (by rw [hi];exact hy)]
 have ali:∀x,TT O (i+1) (al O P C d i x):=fun x=>by rw [←hi];exact al_in s B.toBeh hi x
 have cl:∀{x y},TT O (i+1) x→TT O (i+1) y→TT O (i+1) (mu O P C d x y):=fun {x y} hx hy=>by rw [←hi]at hx hy ⊢;exact M.cl hx hy
 have fst:∀{x:List Int},TT O (i+1) x→vl O P C (d+1) (x.set i 0) [i]=(al O P C d i x).set i 1:=fun {x} hx=>by
  show mu O P C (d+1) _ (unit O i)=_;rw [Zk s B hi hx,if_neg (by omega)]
  rfl
 have cv:∀{j:Nat},i<j→j<O.length→TT O (i+1) (cvec C i j):=fun h1 h2=>s.cj i _ h1 h2
 have alu:∀{k:Nat},i<k→k<O.length→al O P C d i (unit O k)=cvec C i k:=fun {k} h1 h2=>by
  rw [al_ph s B.toBeh hi];exact zHQ M s (fun q a b=>by rw [hi];exact s.cj i q (by omega) b) hle (by omega) h2
 have unl:∀{k:Nat},i<k→k<O.length→TT O (i+1) (unit O k):=fun h1 h2=>s.unit h2 h1
 have wl:TT O (i+1) (pvec P i):=s.pw i hil;have vdw:∀{y:List Int},TT O (i+1) y→vl O P C d (zv O) (nword O y)=y:=fun {y} hy=>Zf s B (by rw [hi];exact hy)
 refine⟨fun j h1 h2=>?_,fun j k h1 h2 h3=>?_,?_,fun j h1 h2=>?_⟩
 ·-- powers
  rw [e];have K:=key (.pow h1 h2);have oj:=o2 h2;obtain⟨o,ho⟩:∃o,nx O j=o+1:=⟨nx O j-1,by omega⟩
  have hz:TT O (j+1) (zv O):=s.zv _;have hy:TT O (i+1) ((zv O).set j (o:Int)):=(s.zv (i+1)).set h2 (by omega) ⟨by omega,by have:=on h2;omega⟩
  have ny:nword O ((zv O).set j (o:Int))=List.replicate o j:=by
   rw [zEV s hz h2 (by have:=on h2;omega)]
   show _++wf _ _ _=_;rw [zFZ,List.append_nil]
  have hrep:∀m,In O (i+1) (List.replicate m j):=fun m a ha=>by rw [List.eq_of_mem_replicate ha];exact⟨h1,h2⟩
  have st:stepf O P C (List.replicate (nx O j) j++[i]) (nx O j-1)=List.replicate o j++(i::nword O (cvec C i j)):=by
   have e1:(List.replicate (o+1) j++[i]).getD o 0=j:=by rw [List.getD_eq_getElem?_getD,List.getElem?_append_left (by simp),List.getElem?_replicate,if_pos (by omega)];rfl
   have e2:(List.replicate (o+1) j++[i]).getD (o+1) 0=i:=by rw [List.getD_eq_getElem?_getD,List.getElem?_append_right (by simp)];simp
   have e3:(List.replicate (o+1) j++[i]).take o=List.replicate o j:=by rw [List.take_append_of_le_length (by simp),List.take_replicate,Nat.min_eq_left (by omega)]
   have e4:(List.replicate (o+1) j++[i]).drop (o+2)=[]:=List.drop_eq_nil_of_le (by simp)
   rw [ho,Nat.add_sub_cancel,stepf,e1,e2,e3,e4,if_pos ⟨by simp,h1⟩,List.append_nil]
  rw [st,zT,(up (hrep _)).1,zBk s B (by omega),B.pwv s (by omega) h2,fst ((s.pw j h2).mono (by omega)),zT,(up (hrep _)).1,show i::nword O (cvec C i j)=[i]++nword O (cvec C i j) from rfl,zT,←ny,vdw hy,fst hy,upn (by omega) (ali _) (cv h1 h2)]at K
  have:=zCJ s B hi (ali _) (cl (ali _) (cv h1 h2)) K
  show pw (mu O P C d) (zv O) (cvec C i j) (nx O j)=al O P C d i (pvec P j);rw [this,al_fv s B hi hy,ny,zFr M,ho]
  rfl
 ·-- conjugates
  rw [e];have K:=key (.tri h1 h2 h3);have st:stepf O P C [k,j,i] 1=[k]++(i::nword O (cvec C i j)):=by
   rw [stepf,if_pos ⟨by simp,h1⟩]
   simp
  have h12:In O (i+1) [k,j]:=fun a ha=>by simp only [List.mem_cons,List.not_mem_nil,or_false]at ha;omega
  have h11:In O (i+1) [k]:=fun a ha=>by simp only [List.mem_cons,List.not_mem_nil,or_false]at ha;omega
  have v2:vl O P C d (zv O) [k,j]=mu O P C d (unit O j) (cvec C j k):=by
   show mu O P C d (mu O P C d (zv O) (unit O k)) (unit O j)=_;rw [M.l1 (by rw [hi];exact unl (by omega) h3),B.cjv s (by omega) h2 h3]
  have v1:vl O P C d (zv O) [k]=unit O k:=M.l1 (by rw [hi];exact unl (by omega) h3)
  have hcj:=s.cj j k h2 h3;have hcj':=hcj.mono (by omega:i+1≤j+1)
  have hy1:TT O (i+1) ((cvec C j k).set j ((1:Nat):Int)):=hcj'.set (by omega) (by omega) ⟨by omega,by have:=on (j:=j) (by omega);have:=o2 (j:=j) (by omega);omega⟩
  have ny:nword O ((cvec C j k).set j ((1:Nat):Int))=j::nword O (cvec C j k):=zEV s hcj (by omega) (by have:=on (j:=j) (by omega);have:=o2 (j:=j) (by omega);omega)
  have yv:mu O P C d (unit O j) (cvec C j k)=(cvec C j k).set j ((1:Nat):Int):=by
   have:=vdw hy1
   rw [ny]at this
   rw [←this];show _=vl O P C d (mu O P C d (zv O) (unit O j)) _;rw [M.l1 (by rw [hi];exact unl h1 (by omega)),ZL s B (by rw [hi];exact unl h1 (by omega)) (by rw [hi];exact qB hcj' (by omega)),vdw hcj']
  rw [st,show [k,j,i]=[k,j]++[i] from rfl,zT,(up h12).1,v2,yv,fst hy1,zT,(up h11).1,v1,show i::nword O (cvec C i j)=[i]++nword O (cvec C i j) from rfl,zT,fst (unl (by omega) h3),upn (by omega) (ali _) (cv h1 (by omega)),alu (by omega) h3]at K
  have:=zCJ s B hi (ali _) (cl (cv (by omega) h3) (cv h1 (by omega))) K
  rw [←this,al_fv s B hi hy1,ny];show fv (mu O P C d) (cvec C i) (mu O P C d (zv O) (cvec C i j)) _=mu O P C d (cvec C i j) (al O P C d i (cvec C j k));have hcd:TT O (O.length-d) (cvec C i j):=by rw [hi];exact cv h1 (by omega)
  rw [M.l1 hcd,zFq M (fun a ha=>?_) hcd,al_fv s B hi hcj']
  have:=qB hcj (by omega) a ha
  rw [hi];exact cv (by omega) this.2
 ·-- the power word stays
  rw [e];have K:=key (.fix hil);obtain⟨o,ho⟩:∃o,nx O i=o+1:=⟨nx O i-1,by omega⟩
  have st:stepf O P C (List.replicate (nx O i+1) i) 1=[i]++nword O (pvec P i):=by
   have e1:∀q,q≤nx O i→(List.replicate (nx O i+1) i).getD q 0=i:=fun q hq=>by rw [List.getD_eq_getElem?_getD,List.getElem?_replicate,if_pos (by omega)];rfl
   rw [stepf,e1 1 (by omega),e1 (1+1) (by omega),if_neg (by omega),List.take_replicate,List.drop_replicate,Nat.min_eq_left (by omega),show nx O i+1-(1+nx O i)=0 by omega]
   simp
  have v1:vl O P C (d+1) (zv O) (List.replicate (nx O i) i)=pvec P i:=by
   rw [ho,List.replicate_succ',zT,Q8 s B hi o (by omega)]
   show mu O P C (d+1) _ (unit O i)=_;rw [Zk s B hi (s.zv _),if_pos (by omega),al_zv s B.toBeh hi,M.r1 (by rw [hi];exact wl),show(o:Int)+1-at_ O i=0 by omega]
   exact zg (wl.zero i (by omega)) (by rw [wl.len];exact hil)
  have w0:pvec P i=(pvec P i).set i 0:=(zg (wl.zero i (by omega)) (by rw [wl.len];exact hil)).symm
  rw [st,List.replicate_succ',zT,v1,zT]at K
  conv at K=>lhs;rw [w0]
  have u1:vl O P C (d+1) (zv O) [i]=(zv O).set i 1:=by
   have:=Q8 s B hi 1 (by omega)
   exact this
  rw [fst wl,u1,upn (by omega) (s.zv _) wl,M.l1 (by rw [hi];exact wl)]at K
  exact zCJ s B hi (ali _) wl K
 ·-- the power is conjugation by the power word
  rw [e];have K:=key (.inn h1 h2);obtain⟨o,ho⟩:∃o,nx O i=o+1:=⟨nx O i-1,by omega⟩
  have st:stepf O P C (j::List.replicate (nx O i) i) 1=[j]++nword O (pvec P i):=by
   have e1:∀q,q<nx O i→(j::List.replicate (nx O i) i).getD (q+1) 0=i:=fun q hq=>by rw [List.getD_eq_getElem?_getD,List.getElem?_cons_succ,List.getElem?_replicate,if_pos (by omega)];rfl
   rw [stepf,show(1:Nat)=0+1 from rfl,e1 0 (by omega),e1 (0+1) (by omega),if_neg (by omega),show 0+1+nx O i=nx O i+1 by omega,List.drop_succ_cons,List.drop_replicate,Nat.sub_self]
   simp
  have uj:=unl h1 h2;have h11:In O (i+1) [j]:=fun a ha=>by rw [List.mem_singleton.1 ha];exact⟨h1,h2⟩
  have v1:vl O P C d (zv O) [j]=unit O j:=M.l1 (by rw [hi];exact uj)
  obtain⟨i1,i2⟩:=zG0 s B hi uj (e:=0) (m:=o) (by omega)
  have fin:vl O P C (d+1) ((unit O j).set i 0) (List.replicate (nx O i) i)=(mu O P C d (pvec P i) (iter (al O P C d i) (nx O i) (unit O j))).set i 0:=by
   rw [ho,List.replicate_succ',zT,show((unit O j).set i (0:Int))=(unit O j).set i ((0:Nat):Int) from rfl,i1,zAg]
   show mu O P C (d+1) _ (unit O i)=_;rw [Zk s B hi i2,if_pos (by omega),show((0:Nat):Int)+o+1-at_ O i=0 by omega]
  rw [st,show j::List.replicate (nx O i) i=[j]++List.replicate (nx O i) i from rfl,zT,(up h11).1,v1,fin,zT,(up h11).1,v1,upn (by omega) uj wl]at K
  refine zCJ s B hi (cl wl ?_) (cl uj wl) K;rw [ho,zAg];exact ali _
end L
theorem zF1 (s:Shp O P C) (J:∀i w t,Crit O i w t→∃x,Col O P C (stepf O P C w 0) x∧Col O P C (stepf O P C w t) x):Cons O P C:=by
 have key:∀d,d≤O.length→Full O P C d∧∀i,O.length-d≤i→i<O.length→Lv O P C i:=by
  intro d
  induction d with
  | zero=>exact fun _=>⟨zEd s,fun i h1 h2=>by omega⟩
  | succ d ih=>
   intro hd;obtain⟨h1,h2⟩:=ih (by omega)
   have hi:O.length-d=(O.length-(d+1))+1:=by omega
   have L:=zH4 s h1 hi fun w t=>J _ w t
   refine⟨zEe s h1 hi L,fun i g1 g2=>?_⟩
   rcases Nat.lt_or_ge i (O.length-d)with g|g
   ·obtain rfl:i=O.length-(d+1):=by omega
    exact L
   ·exact h2 i g g2
 exact fun i hi=>(key O.length (Nat.le_refl _)).2 i (by omega) hi
theorem zFl {t':Nat} (s:Shp O P C) (c:Cons O P C) (hw:In O 0 w) (h1:red O w t) (h2:red O w t') (c1:Col O P C (stepf O P C w t) x) (c2:Col O P C (stepf O P C w t') y):x=y:=by
 have B:=full_of s (Nat.le_refl O.length) fun i _ hi=>c i hi
 have h0:O.length-O.length=0:=Nat.sub_self _;have k1:=Q9 s B (by rw [h0];exact hw) (ZJ s hw h1) (s.zv _)
 have k2:=Q9 s B (by rw [h0];exact hw) (ZJ s hw h2) (s.zv _)
 rw [c1.val' s B k1.2,c2.val' s B k2.2,←k1.1,←k2.1]
end Go.Grp
namespace Go.Grp
end Go.Grp
set_option linter.unusedSimpArgs false
set_option linter.unusedVariables false
namespace Go.Proofs
open Go.Ab Go.Lie Go.Grp Go.Mx
variable {σ:PHeap} {K:PV→PHeap→Prop} {p:Int} {n:Nat} {v w xs ys:List Int} {A M:List (List Int)} {vA vM vv v0:PV}
theorem zE5 {α:Type} {a b:List α} {i:Nat} (hl:a.length=b.length) (hi:i<a.length):(a.take i++b.drop i).set i a[i]=a.take (i+1)++b.drop (i+1):=by
 have h1:(a.take i).length=i:=by rw [List.length_take];omega
 rw [List.set_append_right _ _ (by omega),h1,Nat.sub_self,List.drop_eq_getElem_cons (by omega:i<b.length),List.set_cons_zero,List.take_succ_eq_append_getElem hi,List.append_assoc]
 rfl
theorem zE6 {α:Type} {a b:List α} {i:Nat} (hl:a.length=b.length) (hi:i<b.length):(a.take i++b.drop i)[i]? = some b[i]:=by
 have h1:(a.take i).length=i:=by rw [List.length_take];omega
 rw [List.getElem?_append_right (by omega),h1,List.getElem?_drop,Nat.sub_self,Nat.add_zero,List.getElem?_eq_getElem hi]
theorem zBj {x:Int} {r out:List Int} (h:r.length=out.length) {j:Nat} (hj:j<out.length):(vstep p x r out)[j]'(by rw [ZF h];exact hj)=(out[j] + x*r[j]) % p:=by
 simp [vstep]
theorem sm6 {a b:Int} (ha:0≤a∧a≤6) (hb:0≤b∧b≤6):0≤a*b∧a*b≤36:=by
 have h1:=Int.mul_nonneg ha.1 hb.1;have h2:=Int.mul_le_mul ha.2 hb.2 hb.1 (by decide)
 omega
end Go.Proofs
namespace Go.Grp
end Go.Grp
set_option linter.unusedSimpArgs false
set_option linter.unusedVariables false
namespace Go.Proofs
open Go.Ab Go.Lie Go.Grp Go.Mx
variable {σ:PHeap} {K:PV→PHeap→Prop} {p:Int} {n na:Nat} {v w xs ys:List Int} {A B M:List (List Int)} {vA vB vM vv v0:PV}
theorem zED {i:Nat} (hi:i<A.length):(mm p n A B).take (i+1)=(mm p n A B).take i++[vt p n A[i] B]:=by
 rw [List.take_succ_eq_append_getElem (by rw [Zl];exact hi)]
 simp [mm]
end Go.Proofs
namespace Go.Grp
end Go.Grp
set_option linter.unusedSimpArgs false
set_option linter.unusedVariables false
namespace Go.Proofs
open Go.Ab Go.Lie Go.Grp Go.Mx
variable {σ:PHeap} {K:PV→PHeap→Prop} {p:Int} {n na:Nat} {v w xs ys:List Int} {A B M:List (List Int)} {vA vB vM vv v0:PV}
theorem zAo (hp:2≤p∧p≤7) (hA:Ma p n A) (hv:Ve p A.length v) (hn:n≤8) (hal:A.length≤8) (hvA:FII vA A) (hvv:FI vv v) (hk:∀z,FI z (vt p n v A)→K z σ):
  zA Tryz.prog 243 [.int .i64 p,vv,vA,.int .i64 n] σ K:=by
 have h1:=hvA.one;have hvl:=hv.len;obtain⟨wv,av,rfl⟩:=hvv;obtain⟨wA,aA,rA,rfl,hrA⟩:=hvA;have hl:=(vt_ve (by omega:0<p) hA hv.len).len
 refine zA.gh ?_;refine zR mix Tryz.func243 cf243 rfl ?_;dsimp only [if243,eI,qD,mI0,kI0,bI0,cI0,sI0,mD0,lD0,xD0,G0,gm0,aI0,zI0,wD0,R0,S0];simp only [pwA,seval,-iQ0,List.length_replicate,zi,mk8 (n:=n) (by omega),mkL (n:=n) (by omega)]
 refine zG (fun m vs h'=>∃i:Nat,i≤v.length∧m=v.length-i∧vs=[.int .i64 p,.fz wv av v.length (pis v),.fz wA aA A.length rA,.sl σ.next 0 n (.known n),.int .i64 i]∧h'=σ.new (pis (vmul p n v A i))) v.length ?_ ?_
 ·exact⟨0,by omega,by omega,rfl,rfl⟩
 rintro m vs h' ⟨i,hi,rfl,rfl,rfl⟩
 by_cases hlt:i<v.length
 rotate_left
 ·have hie:i=v.length:=by omega
  subst hie;simp only [pwA,seval,-iQ0,Nat.lt_irrefl];exact Gh.finF (s:=σ.next) (zB σ _) (by simp only [pwA,seval,-iQ0];rfl) (Nat.le_refl _) (zO _ _) (show capOK (.known n) n=true by simp [capOK]) fun o=>hk _ ⟨true,.sl o 0 n (.known n),by rw [hl]⟩
 have hiA:i<A.length:=by omega
 obtain⟨w4,a4,hr⟩:=hrA.rowI hiA;have hrow:=hA.row hiA;rw [zDN hiA]at hrow
 have hrl:=hrow.len;have hml:=ZE (v:=v) hA (i:=i) (by omega)
 have hve:=zD4 (v:=v) (by omega:0<p) hA (i:=i) (by omega)
 have bx:=hv.bd i;rw [at_eq hlt]at bx
 have hvs:vmul p n v A (i+1)=vstep p v[i] A[i] (vmul p n v A i):=by rw [vmul,at_eq hlt,zDN hiA]
 generalize hacc:vmul p n v A i=acc at *
 have hvsl:(vstep p v[i] A[i] acc).length=acc.length:=ZF (by omega)
 simp only [pwA,seval,-iQ0,hlt,hiA];refine zG (fun m vs h'=>∃j:Nat,j≤n∧m=n-j∧vs=[.int .i64 p,.fz wv av v.length (pis v),.fz wA aA A.length rA,.sl σ.next 0 n (.known n),.int .i64 i,.int .i64 j]∧h'=σ.new (pis ((vstep p v[i] A[i] acc).take j++acc.drop j))) n ?_ ?_
 ·exact⟨0,by omega,by omega,rfl,by rw [List.take_zero,List.drop_zero,List.nil_append]⟩
 rintro m vs h' ⟨j,hj,rfl,rfl,rfl⟩
 by_cases hjn:j<n
 rotate_left
 ·have hje:j=n:=by omega
  subst hje;simp only [pwA,seval,-iQ0,Nat.lt_irrefl,wrapS hlt (by omega:v.length≤4611686018427387904)]
  refine⟨_,by omega,i+1,by omega,rfl,rfl,?_⟩
  rw [List.drop_of_length_le (by omega),List.append_nil,List.take_of_length_le (by omega),hvs]
 have hjr:j<A[i].length:=by omega
 have hja:j<acc.length:=by omega
 have c1:=hrow.bd j;have c2:=hve.bd j;rw [at_eq hjr]at c1
 rw [at_eq hja]at c2
 have c3:=sm6 (a:=v[i]) (b:=A[i][j]) (by omega) (by omega)
 have e1:=zE6 hvsl hja;have hlen:j+1≤((vstep p v[i] A[i] acc).take j++acc.drop j).length:=by simp;omega
 have ew1:IntKind.i64.wrap (v[i] * A[i][j])=v[i] * A[i][j]:=wrap64 (by omega) (by omega)
 have ew2:IntKind.i64.wrap (acc[j] + v[i] * A[i][j])=acc[j] + v[i] * A[i][j]:=wrap64 (by omega) (by omega)
 have hp0:¬p=0:=by omega
 have et:(acc[j] + v[i] * A[i][j]).tmod p=(acc[j] + v[i] * A[i][j]) % p:=Int.tmod_eq_emod_of_nonneg (by omega)
 have hem:=Int.emod_nonneg (acc[j] + v[i] * A[i][j]) hp0;have hem2:=Int.emod_lt_of_pos (acc[j] + v[i] * A[i][j]) (by omega:0<p)
 have ew3:IntKind.i64.wrap ((acc[j] + v[i] * A[i][j]) % p)=(acc[j] + v[i] * A[i][j]) % p:=wrap64 (by omega) (by omega)
 simp only [pwA,seval,-iQ0,hjn,hiA,hr,hjr,hlt,zM,zI,gi hlt,gi hjr,e1,hlen,ew1,ew2,hp0,et,ew3,wrapS hjn (by omega:n≤4611686018427387904)]
 refine⟨_,by omega,j+1,by omega,rfl,rfl,?_⟩
 rw [za (by simp;omega)]
 have hjv:j<(vstep p v[i] A[i] acc).length:=by omega
 rw [←zE5 hvsl hjv,zBj (by omega) hja]
theorem zBc (hp:2≤p∧p≤7) (hA:Ma p B.length A) (hB:Ma p n B) (hn:n≤8) (hbl:B.length≤8) (hal:A.length≤8) (hvA:FII vA A) (hvB:FII vB B) (hk:∀v,FII v (mm p n A B)→K v σ):
  zA Tryz.prog 239 [.int .i64 p,vA,vB,.int .i64 n] σ K:=by
 have h1:=hvA.one;have h2:=hvB.one;have hvBB:=hvB;obtain⟨wA,aA,rA,rfl,hrA⟩:=hvA;refine zA.gh ?_;refine zC mix Tryz.func239 ?_
 conv=>arg 2;cbv
 refine zF rfl ?_;simp only [pwA,seval,-iQ0];refine zG (fun m vs h'=>∃(i:Nat) (vC:PV) (rows:List PV),i≤A.length∧m=A.length-i∧vs=[.int .i64 p,.fz wA aA A.length rA,vB,.int .i64 n,vC,.int .i64 i]∧Keep σ h'∧PSl σ.next 1 h' vC i rows∧All2 FI rows ((mm p n A B).take i)) A.length ?_ ?_
 ·exact⟨0,_,[],by omega,by omega,rfl,zB σ _,PSl.new _ 1 rfl (Nat.le_refl _),by rw [List.take_zero];exact All2.nil _⟩
 rintro m vs h' ⟨i,vC,rows,hi,rfl,rfl,hkp,ha,hall⟩
 simp only [pwA,seval,-iQ0];refine iteI (fun hlt=>?_) fun hge=>?_
 rotate_left
 ·have hie:i=A.length:=by omega
  subst hie;rw [List.take_of_length_le (by rw [Zl];exact Nat.le_refl _)]at hall
  exact ha.fin hkp (hall.bI 0) fun o cap=>hk _ ⟨true,_,rows,by rw [Zl],hall⟩
 obtain⟨w4,a4,hr⟩:=hrA.rowI hlt;have hrow:=hA _ (List.getElem_mem hlt);simp only [pwA,seval,-iQ0,hlt,hr];refine zAo hp hB hrow hn hbl hvBB ⟨w4,a4,rfl⟩ fun z hz=>?_
 have hzz:=hz;obtain⟨wz,az,rfl⟩:=hz;simp only [pwA,seval,-iQ0];refine PSl.push (bytes:=24) hkp ha (by omega) (by omega) fun v' h2 k2 a2=>?_
 simp only [pwA,seval,-iQ0,wrapS hlt (by omega:A.length≤4611686018427387904)]
 refine⟨_,by omega,i+1,v',_,by omega,rfl,rfl,k2,a2,?_⟩
 rw [zED hlt];exact hall.snoc hzz
end Go.Proofs
namespace Go.Grp
end Go.Grp
set_option linter.unusedSimpArgs false
set_option linter.unusedVariables false
namespace Go.Proofs
open Go.Ab Go.Lie Go.Grp Go.Mx
variable {σ:PHeap} {K:PV→PHeap→Prop} {p:Int} {n na:Nat} {v w x xs ys:List Int} {A B M:List (List Int)} {vA vB vM vv vx v0:PV} {O:List Int} {P:List (List Int)} {C:List (List (List Int))} {vO vP vC:PV} {s:Nat}
theorem zH2 (i k:Nat):nword x i++List.replicate (k+1) ((i:Int)+1)=(nword x i++List.replicate k ((i:Int)+1))++[(i:Int)+1]:=by
 rw [List.replicate_succ',List.append_assoc]
theorem zEq (hx:∀j,0≤at_ x j∧at_ x j≤7) (hl:x.length≤6) (hvx:FI vx x) (hk:ResI σ K (nw x)):zA Tryz.prog 158 [vx] σ K:=by
 obtain⟨wx,ax,rfl⟩:=hvx;have hwl:∀i,i≤x.length→(nword x i).length≤42:=fun i hi=>by
  have:=nword_length (x:=x) (b:=7) (fun j=>by have:=hx j;unfold nx;omega) i
  omega
 refine zA.gh ?_;refine zC mix Tryz.func158 ?_
 conv=>arg 2;cbv
 refine zF rfl ?_;simp only [pwA,seval,-iQ0];refine zG (fun m vs h'=>∃(i:Nat) (vC:PV),i≤x.length∧m=x.length-i∧vs=[vC,.fz wx ax x.length (pis x),.int .i64 x.length,.int .i64 i]∧Keep σ h'∧PAcc σ.next 1 h' vC (nword x i).length (pis (nword x i))) x.length ?_ ?_
 ·exact⟨0,_,by omega,by omega,rfl,Keep.refl σ,PAcc.nil _ _ _⟩
 rintro m vs h' ⟨i,vC,hi,rfl,rfl,hkp,ha⟩
 simp only [pwA,seval,-iQ0];refine iteI (fun hlt=>?_) fun hge=>?_
 rotate_left
 ·have hie:i=x.length:=by omega
  subst hie;exact ha.res hkp rfl hk
 have bx:=hx i;have hnx:((nx x i:Nat):Int)=x[i]:=by
  unfold nx;rw [Int.toNat_of_nonneg bx.1,at_eq hlt]
 have hn7:nx x i≤7:=by unfold nx;omega
 simp only [pwA,seval,-iQ0,hlt,gi hlt,zM];refine zG (fun m vs h'=>∃(k:Nat) (vC:PV),k≤nx x i∧m=nx x i-k∧vs=[vC,.int .i64 i,.fz wx ax x.length (pis x),.int .i64 x.length,.int .i64 i,.int .i64 x[i],.int .i64 k]∧Keep σ h'∧PAcc σ.next 1 h' vC (nword x i++List.replicate k ((i:Int)+1)).length (pis (nword x i++List.replicate k ((i:Int)+1)))) (nx x i) ?_ ?_
 ·exact⟨0,vC,by omega,by omega,rfl,hkp,by simpa using ha⟩
 clear ha hkp vC
 rintro m vs h' ⟨k,vC,hk',rfl,rfl,hkp,ha⟩
 rw [←hnx];simp only [pwA,seval,-iQ0];refine iteI (fun hlk=>?_) fun hgk=>?_
 ·have hlk':k<nx x i:=by omega
  have hb:=hwl i (by omega)
  have hlen:(nword x i++List.replicate k ((i:Int)+1)).length≤60:=by simp;omega
  have ew:IntKind.i64.wrap ((i:Int)+1)=(i:Int)+1:=wrap64 (by omega) (by omega)
  have ew2:IntKind.i64.wrap ((k:Int)+1)=((k+1:Nat):Int):=wrapS hlk' (by omega)
  simp only [pwA,seval,-iQ0,ew];refine PAcc.push (bytes:=8) (σb:=σ) hkp ha (by omega) (by omega) fun v' h2 k2 a2=>?_
  simp only [pwA,seval,-iQ0,ew2];refine⟨nx x i-(k+1),by omega,k+1,v',by omega,rfl,by rw [hnx],k2,?_⟩
  rw [zH2]
  have:=a2.acc
  simpa [pis,Nat.add_assoc]using this
 ·have hke:k=nx x i:=by omega
  subst hke;simp only [pwA,seval,-iQ0,wrapS hlt (by omega:x.length≤4611686018427387904)]
  exact⟨_,by omega,i+1,vC,by omega,rfl,rfl,hkp,ha⟩
theorem Qi {h:PHeap} {a b:List PV}:(h.new a).set h.next b=h.new b:=by
 show PHeap.mk _ _ _=PHeap.mk _ _ _
 congr 1
 funext t
 show(if t=h.next then some b else if t=h.next then some a else h.obj t)=if t=h.next then some b else h.obj t
 by_cases e:t=h.next
 ·rw [if_pos e,if_pos e]
 ·rw [if_neg e,if_neg e,if_neg e]
def rl (l:Int) (c k:Nat):List Int:=List.replicate k l++List.replicate (c-k) 0
theorem zBo {l:Int} {c k:Nat} (h:k≤c):(rl l c k).length=c:=by simp [rl];omega
theorem zG3 {l:Int} {c k m:Nat} (h:k+m≤c):(pis (rl l c k)).take k++pis (List.replicate m l)++(pis (rl l c k)).drop (k+m)=pis (rl l c (k+m)):=by
 have e1:(pis (rl l c k)).take k=pis (List.replicate k l):=by
  unfold rl pis;rw [List.map_append,List.take_append_of_le_length (by simp),List.take_of_length_le (by simp)]
 have e2:(pis (rl l c k)).drop (k+m)=pis (List.replicate (c-(k+m)) 0):=by
  unfold rl pis;rw [List.map_append,List.drop_append,List.drop_of_length_le (by simp),List.nil_append]
  simp
  omega
 rw [e1,e2];unfold rl pis;rw [←List.map_append,List.replicate_append_replicate,←List.map_append]
theorem zIP {l:Int} {c:Nat} {w:Bool} {a:AV}:pcopy 1 (σ.new (pis (rl l c 0))) (.sl σ.next 0 c (.known c)) (.fz w a 1 (pis [l]))=some (.int .i64 ((min 1 c:Nat):Int),σ.new (pis (rl l c (min 1 c)))):=by
 rw [zFS];simp only [plen,Option.bind_some];rcases Nat.eq_zero_or_pos c with rfl|hc
 ·rfl
 have e:min 1 c=1:=by omega
 rw [e,if_neg (by omega),Zi,if_neg (by omega),if_pos (by simp [pis])]
 simp only [Option.bind_some];rw [zX (cs:=pis (rl l c 0)) (by rw [zD,if_pos rfl]),if_pos ⟨by rw [zI,zBo (Nat.zero_le _)];simp [pis];omega,by simp [pis,PV.one]⟩,Qi]
 have:=zG3 (l:=l) (c:=c) (k:=0) (m:=1) (by omega)
 simp only [Option.map_some];rw [Nat.zero_add]at this
 rw [←this];simp [pis]
theorem zJu {l:Int} {c k:Nat} (h0:0<k) (hk:k<c):pcopy 1 (σ.new (pis (rl l c k))) (.sl σ.next k (c-k) (.known (c-k))) (.sl σ.next 0 k (.known c))=some (.int .i64 ((min k (c-k):Nat):Int),σ.new (pis (rl l c (k+min k (c-k))))):=by
 rw [zFS];simp only [plen,Option.bind_some];have hm:min k (c-k)≠0:=by omega
 have hmk:min k (c-k)≤k:=by omega
 have hmc:k+min k (c-k)≤c:=by omega
 generalize min k (c-k)=m at *
 have hf:qf 1 (σ.new (pis (rl l c k))) (.sl σ.next 0 k (.known c)) m=some (pis (List.replicate m l)):=by
  rw [qM,if_neg hm,if_pos hmk,zb (cs:=pis (rl l c k)) (by rw [zD,if_pos rfl]),if_pos (by rw [zI,zBo (by omega)];omega),List.drop_zero,Nat.mul_one]
  congr 1
  unfold rl pis;rw [List.map_append,List.take_append_of_le_length (by simp;omega),List.map_replicate,List.take_replicate,List.map_replicate,Nat.min_eq_left hmk]
 rw [if_neg hm,hf];simp only [Option.bind_some];rw [zX (cs:=pis (rl l c k)) (by rw [zD,if_pos rfl]),if_pos ⟨by rw [zI,zI,zBo (by omega),List.length_replicate];omega,by simp [pis,PV.one]⟩,Qi,zI,List.length_replicate,zG3 hmc]
 rfl
end Go.Proofs
namespace Go.Grp
end Go.Grp
set_option linter.unusedSimpArgs false
set_option linter.unusedVariables false
namespace Go.Proofs
open Go.Ab Go.Lie Go.Grp Go.Mx
variable {σ:PHeap} {K:PV→PHeap→Prop} {p:Int} {n na:Nat} {v w x xs ys:List Int} {A B M:List (List Int)} {vA vB vM vv vx v0:PV} {O:List Int} {P:List (List Int)} {C:List (List (List Int))} {vO vP vC:PV} {s:Nat}
theorem ZV (hx:∀j,0≤at_ x j∧at_ x j≤7) (hl:x.length≤6) (hvx:FI vx x) (hk:∀v,FI v (nw x)→K v σ):zA Tryz.prog 158 [vx] σ K:=
 zA.fzI (fun K'=>zEq hx hl hvx) fun a=>hk _ ⟨_,_,rfl⟩
end Go.Proofs
namespace Go.Grp
end Go.Grp
set_option linter.unusedSimpArgs false
set_option linter.unusedVariables false
namespace Go.Proofs
open Go.Ab Go.Lie Go.Grp Go.Mx
variable {σ:PHeap} {K:PV→PHeap→Prop} {p d:Int} {n na:Nat} {v w x xs ys:List Int} {A B M vals:List (List Int)} {As:List (List (List Int))} {vA vB vM vv vx vw vV v0:PV} {O:List Int} {P:List (List Int)} {C:List (List (List Int))} {vO vP vC:PV} {s sp:Nat}
def Room (σ h:PHeap) (v:PV):Prop:=∃s cs,v=.sl s 0 0 (.grown 1)∧h.obj s=some cs∧σ.next≤s∧s<h.next
theorem zMF {c:Nat} (hc:c≤1048576) (h0:∀v h,Keep σ h→(PAcc σ.next 1 h v 0 []∨(0<c∧Room σ h v))→K v h):zA Tryz.prog 205 [.fz true .nils 0 [],.int .i64 c] σ K:=by
 have hcn:¬(c:Int)<0:=by omega
 have z0:IntKind.i64.wrap ((0:Int)-((0:Nat):Int))=0:=rfl;have z1:IntKind.i64.wrap ((c:Int)-0)=(c:Int):=by rw [wrap64 (by omega) (by omega)];omega
 have z2:pslA 1 .nils 0 0=.nils:=rfl;refine zC mix Tryz.func205 ?_
 conv=>arg 2;cbv
 refine zF rfl ?_;simp only [pwA,seval,-iQ0,hcn,z0,z1]
 by_cases hz:c=0
 ·subst hz
  simp only [pwA,seval,-iQ0];exact h0 _ _ (Keep.refl σ) (.inl (PAcc.nil _ _ _))
 ·have hpos:(0:Int)<(c:Int):=by omega
  have hb:(c:Int)*((8:Nat):Int)≤140737488355328:=by omega
  have hb2:(c:Int)≤4611686018427387904:=by omega
  simp only [pwA,seval,-iQ0,hpos,hb,hb2,z2,zi,Nat.zero_le];exact h0 _ _ (zB σ _) (.inr ⟨by omega,_,_,rfl,by rw [zD,if_pos rfl],Nat.le_refl _,Nat.lt_succ_self _⟩)
theorem Qo {M:List (List Int)} {i:Nat} (hi:i<M.length):(M.take (i+1)).flatten=(M.take i).flatten++M[i]:=by
 rw [List.take_succ_eq_append_getElem hi,List.flatten_append];simp
theorem zCP (M:List (List Int)) (i:Nat):(M.take i).flatten.length≤M.flatten.length:=by
 have:M.flatten.length=(M.take i).flatten.length+(M.drop i).flatten.length:=by
  rw [←List.length_append,←List.flatten_append,List.take_append_drop]
 omega
theorem zEh (hM:FII vM M) (hml:M.length≤1048576) (hb:M.flatten.length≤1048576) (hk:∀z,FI z M.flatten→K z σ):zA Tryz.prog 157 [vM] σ K:=by
 obtain⟨wM,aM,rM,rfl,hrM⟩:=hM;refine zA.gh ?_;refine zC mix Tryz.func157 ?_
 conv=>arg 2;cbv
 refine zF rfl ?_;simp only [pwA,seval,-iQ0];refine zG (fun m us h'=>∃i:Nat,i≤M.length∧m=M.length-i∧us=[.fz wM aM M.length rM,.int .i64 (M.take i).flatten.length,.fz wM aM M.length rM,.int .i64 M.length,.int .i64 i]∧σ=h') M.length ?_ ?_
 ·exact⟨0,by omega,by omega,rfl,rfl⟩
 rintro m us h' ⟨i,hi,rfl,rfl,rfl⟩
 have hfl:=zCP M i;simp only [pwA,seval,-iQ0];refine iteI (fun hlt=>?_) fun hge=>?_
 ·obtain⟨w4,a4,hr⟩:=hrM.rowI hlt
  have hfl2:=zCP M (i+1);have e:=congrArg List.length (Qo hlt);rw [List.length_append]at e
  have ew:IntKind.i64.wrap (((M.take i).flatten.length:Int)+(M[i].length:Int))=(((M.take i).flatten.length+M[i].length:Nat):Int):=by rw [wrap64 (by omega) (by omega)];omega
  have hnn:¬(((M.take i).flatten.length+M[i].length:Nat):Int)<0:=by omega
  simp only [pwA,seval,-iQ0,hlt,hr,ew,hnn,wrapS hlt (by omega:M.length≤4611686018427387904)]
  refine⟨_,by omega,i+1,by omega,rfl,?_⟩
  rw [e]
 have hie:i=M.length:=by omega
 subst hie;rw [List.take_length];simp only [pwA,seval,-iQ0];refine zMF (by omega) fun v0 h0 hk0 hv0=>?_
 simp only [pwA,seval,-iQ0];refine zG (fun m us h'=>∃(i:Nat) (vX:PV),i≤M.length∧m=M.length-i∧us=[vX,.fz wM aM M.length rM,.int .i64 M.length,.int .i64 i]∧Keep σ h'∧(PAcc σ.next 1 h' vX (M.take i).flatten.length (pis (M.take i).flatten)∨((M.take i).flatten=[]∧0<M.flatten.length∧Room σ h' vX))) M.length ?_ ?_
 ·exact⟨0,v0,by omega,by omega,rfl,hk0,hv0.imp (fun h=>h) fun h=>⟨rfl,h⟩⟩
 clear hi hge hfl hk0 hv0 v0 h0
 rintro m us h' ⟨i,vX,hi,rfl,rfl,hkp,ha⟩
 have hfl:=zCP M i;simp only [pwA,seval,-iQ0];refine iteI (fun hlt=>?_) fun hge=>?_
 rotate_left
 ·have hie:i=M.length:=by omega
  subst hie;rw [List.take_length]at ha
  rcases ha with ha|⟨h1,h2,_⟩
  ·exact ha.fin hkp (zO _ _) fun a=>hk _ ⟨true,a,rfl⟩
  ·rw [h1]at h2;cases h2
 obtain⟨w4,a4,hr⟩:=hrM.rowI hlt;have hfl2:=zCP M (i+1);have e:=congrArg List.length (Qo hlt);rw [List.length_append]at e
 simp only [pwA,seval,-iQ0,hlt,hr];have hnx:∀v' h2,Keep σ h2→(PAcc σ.next 1 h2 v' ((M.take i).flatten.length+M[i].length) (pis (M.take i).flatten++pis M[i])∨((M.take (i+1)).flatten=[]∧0<M.flatten.length∧Room σ h2 v'))→(PAcc σ.next 1 h2 v' (M.take (i+1)).flatten.length (pis (M.take (i+1)).flatten)∨((M.take (i+1)).flatten=[]∧0<M.flatten.length∧Room σ h2 v')):=fun v' h2 k h=>h.imp (fun h=>by rwa [e,Qo hlt,←qP]) fun h=>h
 rcases ha with ha|⟨h1,h2,s,cs,rfl,ho,hs1,hs2⟩
 ·refine PAcc.cat (σb:=σ) (bytes:=8) hkp ha (zI _) (by omega) (by omega) fun v' h2 k2 a2=>?_
  simp only [pwA,seval,-iQ0,wrapS hlt (by omega:M.length≤4611686018427387904)]
  exact⟨_,by omega,i+1,v',by omega,rfl,rfl,k2,hnx _ _ k2 (.inl a2)⟩
 ·by_cases hz:M[i].length=0
  ·have hnil:M[i]=[]:=List.eq_nil_of_length_eq_zero hz
   have hap:zZ 1 8 h' (.sl s 0 0 (.grown 1)) (.fz w4 a4 M[i].length (pis M[i]))=some (.sl s 0 0 (.grown 1),h'):=by
    rw [qL,QY,Option.bind_some,if_pos hz];rfl
   simp only [pwA,seval,-iQ0,hap,wrapS hlt (by omega:M.length≤4611686018427387904)]
   refine⟨_,by omega,i+1,_,by omega,rfl,rfl,hkp,.inr ⟨by rw [Qo hlt,h1,hnil];rfl,h2,s,cs,rfl,ho,hs1,hs2⟩⟩
  ·have hap:zZ 1 8 h' (.sl s 0 0 (.grown 1)) (.fz w4 a4 M[i].length (pis M[i]))=some (.sl h'.next 0 M[i].length (.grown 1),(h'.kill s).new (pis M[i])):=by
    rw [qL,QY,Option.bind_some,if_neg hz,Zi,if_neg hz,if_pos ⟨Nat.le_refl _,by rw [zI];omega,by omega⟩,Option.bind_some,zAl,if_pos ⟨by omega,by omega,rfl⟩,ho,Option.bind_some,if_pos (by omega)]
    rw [List.drop_zero,Nat.zero_mul,List.take_zero,List.nil_append,Nat.mul_one,List.take_of_length_le (by rw [zI];exact Nat.le_refl _),Nat.zero_add]
   simp only [pwA,seval,-iQ0,hap,wrapS hlt (by omega:M.length≤4611686018427387904)]
   refine⟨_,by omega,i+1,_,by omega,rfl,rfl,(hkp.kill hs1).new _,.inl ?_⟩
   rw [Qo hlt,h1,List.nil_append];exact(PSl.own (.inl rfl) (by rw [zD];exact if_pos rfl) (by rw [zI];omega) hkp.next (Nat.lt_succ_self _)).acc
end Go.Proofs
namespace Go.Grp
end Go.Grp
set_option linter.unusedSimpArgs false
set_option linter.unusedVariables false
namespace Go.Proofs
open Go.Ab Go.Lie Go.Grp
variable {σ:PHeap} {K:PV→PHeap→Prop} {O:List Int} {P:List (List Int)} {C:List (List (List Int))} {vO vP vC vx vy vz vL:PV} {x y z:List Int} {xs:List (List Int)} {d j sp n:Nat}
theorem zEK (hs:PtrG σ sp vO vP vC) (hR:IsPr vO vP vC O P C) (sz:SzP O P C) (hL:FII vL xs) (szL:SzL xs) (hk:∀t:Bool,(t=true↔(zQ O P C∧Cons O P C)∧∀x∈xs,isExp O x)→K (.bool t) σ):zA Tryz.prog 54 [.ptr sp 0,vL] σ K:=by
 have fl:∀{A:Prop},¬A→((false=true)↔A):=fun h=>⟨fun x=>(by cases x),fun x=>absurd x h⟩
 have r3:σ.rd sp 0 3=some [vO,vP,vC]:=by rw [zb hs.obj];rfl
 have hxl:=szL.l;obtain⟨wl,al,rl,rfl,hrl⟩:=hL;refine zC mix Tryz.func54 ?_
 conv=>arg 2;cbv
 refine zF rfl ?_;simp only [pwA,seval,-iQ0,r3];refine qg hR sz fun t ht=>?_
 cases t with
 | false=>
  simp only [pwA,seval,-iQ0];exact hk _ (fl fun h=>by cases ht.2 h.1)
 | true=>
 have hp:=ht.1 rfl;simp only [pwA,seval,-iQ0];refine zG (fun m us h'=>∃i:Nat,i≤xs.length∧m=xs.length-i∧us=[.ptr sp 0,.fz wl al xs.length rl,.int .i64 xs.length,.int .i64 i]∧σ=h'∧∀x∈xs.take i,isExp O x) xs.length ⟨0,by omega,by omega,rfl,rfl,by simp⟩ ?_
 rintro m us h' ⟨i,hi,rfl,rfl,rfl,hall⟩
 simp only [pwA,seval,-iQ0];refine iteI (fun hlt=>?_) fun hge=>?_
 rotate_left
 ·have hie:i=xs.length:=by omega
  subst hie;rw [List.take_length]at hall
  exact hk _ ⟨fun _=>⟨hp,hall⟩,fun _=>rfl⟩
 obtain⟨w4,a4,hr⟩:=hrl.rowI hlt;have hxi:=szL.r _ (List.getElem_mem hlt);simp only [pwA,seval,-iQ0,hlt,hr];refine zA8 hs hR.O (by have:=hp.1.1;omega) hp.1.isp ⟨w4,a4,rfl⟩ hxi fun t ht=>?_
 cases t with
 | false=>
  simp only [pwA,seval,-iQ0];exact hk _ (fl fun h=>by cases ht.2 (h.2 _ (List.getElem_mem hlt)))
 | true=>
 have h1:=ht.1 rfl;simp only [pwA,seval,-iQ0,wrapS hlt (by omega:xs.length≤4611686018427387904)]
 refine⟨_,by omega,i+1,by omega,rfl,rfl,fun x hx=>?_⟩
 rw [List.take_succ_eq_append_getElem hlt,List.mem_append,List.mem_singleton]at hx
 rcases hx with hx|hx
 ·exact hall x hx
 ·rw [hx];exact h1
end Go.Proofs
namespace Go.Grp
end Go.Grp
set_option linter.unusedSimpArgs false
set_option linter.unusedVariables false
namespace Go.Proofs
open Go.Ab Go.Lie Go.Grp
variable {σ:PHeap} {K:PV→PHeap→Prop} {O:List Int} {P:List (List Int)} {C:List (List (List Int))} {vO vP vC vx vy vz vL:PV} {x y z w w':List Int} {xs:List (List Int)} {d j sp n:Nat}
theorem up_ (h:gS O z):TT O (O.length-O.length) z:=by rw [Nat.sub_self];exact h
end Go.Proofs
namespace Go.Grp
end Go.Grp
set_option linter.unusedSimpArgs false
set_option linter.unusedVariables false
namespace Go.Proofs
open Go.Ab Go.Lie Go.Grp Go.Mx
abbrev Pre:=List Int×List (List Int)×List (List (List Int))
def fl3:List (PV×PV×PV)→List PV
 | []=>[]
 | q::r=>q.1::q.2.1::q.2.2::fl3 r
theorem zDm:∀rows:List (PV×PV×PV),(fl3 rows).length=3*rows.length
 | []=>rfl
 | q::r=>by simp only [fl3,List.length_cons,zDm r];omega
theorem zHH:∀{rows:List (PV×PV×PV)} {k:Nat} (hk:k<rows.length),((fl3 rows).drop (k*3)).take 3=[rows[k].1,rows[k].2.1,rows[k].2.2]
 | q::r,0,_=>rfl
 | q::r,k+1,hk=>by
  rw [show(k+1)*3=k*3+1+1+1 by omega]
  simp only [fl3,List.drop_succ_cons,List.getElem_cons_succ];exact zHH (rows:=r) (by simpa using hk)
def FI3 (q:PV×PV×PV) (g:Pre):Prop:=IsPr q.1 q.2.1 q.2.2 g.1 g.2.1 g.2.2
def FG (v:PV) (G:List Pre):Prop:=∃w a rows,v=.fz w a G.length (fl3 rows)∧All2 FI3 rows G
theorem FG.one {v:PV} {G:List Pre} (h:FG v G):v.one=true:=by obtain⟨w,a,r,rfl,_⟩:=h;rfl
theorem FG.cells {v:PV} {G:List Pre} (h:FG v G):v.cells=[v]:=by obtain⟨w,a,r,rfl,_⟩:=h;rfl
structure SzG (G:List Pre):Prop where
 l:G.length≤1048576
 r:∀g∈G,SzP g.1 g.2.1 g.2.2
def need (k:Int):Int:=if k=5 then 3 else if k=4 then 2 else if 1≤k∧k≤6 then 1 else -1
def zJe (k:Int) (G:List Pre) (L:List (List Int)):Prop:=
 need k=G.length∧L.length≤32∧(∀g∈G,zQ g.1 g.2.1 g.2.2)∧∀l∈L,l.length≤128∧∀x∈l,-1000000≤x∧x≤1000000
variable {σ:PHeap} {K:PV→PHeap→Prop} {k k':Int} {G G':List Pre} {L L':List (List Int)} {vG vL vG' vL':PV} {s:Nat}
theorem zDj (hin:1≤k∧k≤6) (hk:K (.int .i64 (need k)) σ):zA Tryz.prog 98 [.int .i64 k] σ K:=by
 unfold need at hk
 refine zC mix Tryz.func98 ?_
 conv=>arg 2;cbv
 refine zF rfl ?_
 by_cases h5:k=5
 ·subst h5;simp only [pwA,seval,-iQ0];exact hk
 by_cases h4:k=4
 ·subst h4;simp only [pwA,seval,-iQ0];exact hk
 rw [if_neg h5,if_neg h4,if_pos hin]at hk
 simp only [pwA,seval,-iQ0,h4,h5];exact hk
theorem zC0 (hs:σ.obj s=some [.int .i64 k,vG,vL]) (hG:FG vG G) (szG:SzG G) (hL:FII vL L) (szL:SzL L) (hk:∀t:Bool,(t=true↔zJe k G L)→K (.bool t) σ):zA Tryz.prog 46 [.ptr s 0] σ K:=by
 have fl:∀{A:Prop},¬A→((false=true)↔A):=fun h=>⟨fun x=>(by cases x),fun x=>absurd x h⟩
 obtain⟨wG,aG,rG,rfl,hrG⟩:=hG;obtain⟨wL,aL,rL,rfl,hrL⟩:=hL;have e0:σ.rd1 s 0=some (.int .i64 k):=by rw [zH hs];rfl
 have e1:σ.rd1 s 1=some (.fz wG aG G.length (fl3 rG)):=by rw [zH hs];rfl
 have e2:σ.rd1 s 2=some (.fz wL aL L.length rL):=by rw [zH hs];rfl
 have szg:=szG.l;have szl:=szL.l;refine zA.pwf fun wf=>zA.gh ?_
 have hsl:s<σ.next:=wf.lt hs;have no:∀{σ':PHeap},¬zJe k G L→Keep σ σ'→Gh σ K (.bool false) σ':=fun h kk=>Gh.fin0 kk trivial (hk _ (fl h))
 refine zR mix Tryz.func46 cf46 rfl ?_;dsimp only [if46,qI,eI,qD,eD,mI0,kI0,tI0,lI0,LI0,fI0,xI0,bI0,cI0,nI0,sI0,pI0,C1,mD0,lD0,fD0,pD0,I0,G0,gm0,vI0,R0,S0];simp only [pwA,seval,-iQ0,e0];refine Qn ?_
 by_cases hin:1≤k∧k≤6
 rotate_left
 ·simp only [pwA,seval,-iQ0,hin,e0,e1,e2]
  refine no (fun h=>hin ?_) (Keep.refl σ)
  have:=h.1
  unfold need at this
  by_cases h5:k=5
  ·omega
  by_cases h4:k=4
  ·omega
  rw [if_neg h5,if_neg h4,if_neg hin]at this
  omega
 simp only [pwA,seval,-iQ0,hin,e0,e1,e2];refine zDj hin ?_
 by_cases hg:(G.length:Int)=need k
 rotate_left
 ·simp only [pwA,seval,-iQ0,e0,e1,e2,hg]
  exact no (fun h=>hg h.1.symm) (Keep.refl σ)
 by_cases hl:L.length≤32
 rotate_left
 ·have hl':(32:Int)<(L.length:Int):=by omega
  simp only [pwA,seval,-iQ0,e0,e1,e2,eq_true hg,hl'];exact no (fun h=>hl h.2.1) (Keep.refl σ)
 have hl':¬(32:Int)<(L.length:Int):=by omega
 simp only [pwA,seval,-iQ0,e0,e1,e2,eq_true hg,hl'];refine zG (fun m us h'=>∃i:Nat,i≤G.length∧m=G.length-i∧us=[.ptr s 0,.fz wG aG G.length (fl3 rG),.int .i64 G.length,.int .i64 i]∧Keep σ h'∧∀g∈G.take i,zQ g.1 g.2.1 g.2.2) G.length ?_ ?_
 ·exact⟨0,by omega,by omega,rfl,Keep.refl σ,by simp⟩
 rintro m us h' ⟨i,hi,rfl,rfl,hkp,hall⟩
 have e2':h'.rd1 s 2=some (.fz wL aL L.length rL):=by rw [zH ((hkp.obj _ hsl).trans hs)];rfl
 simp only [pwA,seval,-iQ0];refine iteI (fun hlt=>?_) fun hge=>?_
 ·have hkr:i<rG.length:=by rw [hrG.1];exact hlt
  have hget:=zHH hkr;have h3:3≤(fl3 rG).length-i*3:=by have:=zDm rG;omega
  have hp:IsPr rG[i].1 rG[i].2.1 rG[i].2.2 G[i].1 G[i].2.1 G[i].2.2:=hrG.2 i _ _ (List.getElem?_eq_getElem hkr) (List.getElem?_eq_getElem hlt);simp only [pwA,seval,-iQ0,hlt,hget,h3,hp.O.one,hp.P.one,hp.C.one,List.length_drop];refine qV hp (szG.r _ (List.getElem_mem hlt)) fun t ht=>?_
  cases t with
  | false=>
   simp only [pwA,seval,-iQ0];exact no (fun h=>by cases ht.2 (h.2.2.1 _ (List.getElem_mem hlt))) (hkp.new _)
  | true=>
   simp only [pwA,seval,-iQ0,wrapS hlt (by omega:G.length≤4611686018427387904)]
   refine⟨_,by omega,i+1,by omega,rfl,rfl,hkp.new _,fun g hg=>?_⟩
   rw [List.take_succ_eq_append_getElem hlt,List.mem_append,List.mem_singleton]at hg
   rcases hg with hg|rfl
   ·exact hall g hg
   ·exact ht.1 rfl
 have hpres:∀g∈G,zQ g.1 g.2.1 g.2.2:=fun g hg=>hall g (by rwa [List.take_of_length_le (by omega)])
 simp only [pwA,seval,-iQ0,e2'];refine zG (fun m us h2=>∃i:Nat,i≤L.length∧m=L.length-i∧us=[.fz wL aL L.length rL,.int .i64 L.length,.int .i64 i]∧h'=h2∧∀l∈L.take i,l.length≤128∧∀x∈l,-1000000≤x∧x≤1000000) L.length ?_ ?_
 ·exact⟨0,by omega,by omega,rfl,rfl,by simp⟩
 clear hi hge hall i
 rintro m us h2 ⟨i,hi,rfl,rfl,rfl,hall⟩
 simp only [pwA,seval,-iQ0];refine iteI (fun hlt=>?_) fun hge=>?_
 rotate_left
 ·exact Gh.fin0 hkp trivial (hk _ ⟨fun _=>⟨hg.symm,hl,hpres,fun l hl=>hall l (by rwa [List.take_of_length_le (by omega)])⟩,fun _=>rfl⟩)
 obtain⟨w4,a4,hr⟩:=hrL.rowI hlt;have hb:=szL.r _ (List.getElem_mem hlt)
 by_cases h128:L[i].length≤128
 rotate_left
 ·have h':(128:Int)<(L[i].length:Int):=by omega
  simp only [pwA,seval,-iQ0,hlt,hr,h'];exact no (fun h=>h128 (h.2.2.2 _ (List.getElem_mem hlt)).1) hkp
 have h128':¬(128:Int)<(L[i].length:Int):=by omega
 simp only [pwA,seval,-iQ0,hlt,hr,h128'];refine zG (fun m us h2=>∃q:Nat,q≤L[i].length∧m=L[i].length-q∧us=[.fz wL aL L.length rL,.int .i64 L.length,.int .i64 i,.fz w4 a4 L[i].length (pis L[i]),.int .i64 L[i].length,.int .i64 q]∧h'=h2∧∀x∈L[i].take q,-1000000≤x∧x≤1000000) L[i].length ?_ ?_
 ·exact⟨0,by omega,by omega,rfl,rfl,by simp⟩
 rintro m us h2 ⟨q,hq,rfl,rfl,rfl,hallq⟩
 simp only [pwA,seval,-iQ0];refine iteI (fun hlq=>?_) fun hgq=>?_
 rotate_left
 ·simp only [pwA,seval,-iQ0,wrapS hlt (by omega:L.length≤4611686018427387904)]
  refine⟨_,by omega,i+1,by omega,rfl,rfl,fun l hl=>?_⟩
  rw [List.take_succ_eq_append_getElem hlt,List.mem_append,List.mem_singleton]at hl
  rcases hl with hl|rfl
  ·exact hall l hl
  ·exact⟨h128,fun x hx=>hallq x (by rwa [List.take_of_length_le (by omega)])⟩
 simp only [pwA,seval,-iQ0,hlq,gi hlq,zM];refine Qn ?_
 by_cases hv:-1000000≤L[i][q]∧L[i][q]≤1000000
 ·simp only [pwA,seval,-iQ0,hv,wrapS hlq (by omega:L[i].length≤4611686018427387904)]
  exact⟨_,by omega,q+1,by omega,rfl,rfl,zAr hlq hallq hv⟩
 ·simp only [pwA,seval,-iQ0,hv]
  exact no (fun h=>hv ((h.2.2.2 _ (List.getElem_mem hlt)).2 _ (List.getElem_mem hlq))) hkp
end Go.Proofs
namespace Go.Proofs
open Go.Ab
def if3:IFn:=⟨[0],[(.tmp 2)],(S0 (R0 [0] [tI0 2 false])
 (S0 (.seq (R0 [0,19] [mI0 18 0,C1 19 6 18])
 (.cond (.t 19) (S0 (R0 [2] [tI0 2 true])
 .ret) .skip))
 (S0 (R0 [0,3] [mI0 20 0,C1 21 7 20,eI 3 (.alloc [.nils,.nils,.nils]),vI0 3 3 21])
 (S0 (R0 [0,3,4] [LI0 22 3,C1 23 8 22,mI0 4 23])
 (S0 (.seq (R0 [0,3,4,27] [LI0 24 3,C1 25 9 24,mI0 26 4,qI 27 (.bin .neq .bool (.t 25) (.t 26))])
 (.cond (.t 27) (S0 (R0 [2] [tI0 2 false])
 .ret) .skip))
 (S0 (.seq (R0 [0,3,4,30] [LI0 28 3,C1 29 10 28,nI0 30 29])
 (.cond (.t 30) (S0 (R0 [2] [mI0 31 4,nI0 32 31,mI0 2 32])
 .ret) .skip))
 (S0 (R0 [0,3,4,5,6] [LI0 34 3,eI 35 (.call 11 [(.t 34),(I0 2000)]),mI0 33 35,eI0 36 33 0,eI0 37 33 1,mI0 5 36,mI0 6 37])
 (S0 (.seq (R0 [0,3,4,53] [mI0 38 6,cI0 39 .neq 38 0,mI0 40 39,gm0 41 6 40 true,G0 42 (.bin .neq .other (.t 41) (I0 3)) true 40 true,aI0 43 40 42,mI0 44 43,gm0 45 6 44 false,G0 46 (.bin .eql .other (.t 45) (I0 0)) true 44 false,gm0 47 46 44 false,gm0 48 5 47 true,G0 49 (.bin .eql .other (.t 48) (I0 (-1))) true 47 true,gm0 50 4 47 true,G0 51 (.bin .neq .bool (.t 49) (.t 50)) true 47 true,G0 52 (.pick (.t 47) (.t 51) (.c (.bool false))) true 44 false,oI0 53 44 52])
 (.cond (.t 53) (S0 (R0 [2] [tI0 2 false])
 .ret) .skip))
 (S0 (R0 [0,3,4,7,8] [LI0 55 3,C1 56 12 55,mI0 54 56,eI0 57 54 0,eI0 58 54 1,eI 7 (.alloc [(.int .i64 0),.nils,.nils]),vI0 3 7 57,mI0 8 58])
 (S0 (.seq (R0 [0,3,4,7,8,67] [LI0 59 3,C1 60 13 59,cI0 61 .leq 60 128,mI0 62 61,gm0 63 8 62 true,G0 64 (.bin .eql .other (.t 63) (I0 0)) true 62 true,gm0 65 4 62 true,G0 66 (.bin .neq .bool (.t 64) (.t 65)) true 62 true,aI0 67 62 66])
 (.cond (.t 67) (S0 (R0 [2] [tI0 2 false])
 .ret) .skip))
 (S0 (.seq (R0 [0,3,7,8,69] [mI0 68 4,nI0 69 68])
 (.cond (.t 69) (S0 (R0 [2] [tI0 2 true])
 .ret) .skip))
 (S0 (.seq (R0 [0,3,7,71] [mI0 70 8,cI0 71 .eql 70 0])
 (.cond (.t 71) (S0 (R0 [0,3,9,10] [LI0 73 7,C1 74 14 73,mI0 72 74,eI0 75 72 0,eI0 76 72 1,mI0 9 75,mI0 10 76])
 (S0 (R0 [0,3,82] [mI0 77 9,nI0 78 77,mI0 79 78,gm0 80 10 79 false,G0 81 (.bin .neq .other (.t 80) (I0 0)) true 79 false,oI0 82 79 81])
 (.cond (.t 82) (S0 (R0 [2] [tI0 2 false])
 .ret) .skip))) .skip))
 (S0 (R0 [3,11] [mI0 83 0,eI 84 (.call 15 [(.t 83),(.c (.int .u64 1))]),mI0 11 84])
 (S0 (.draw [3,12,13,14] [] [mD0 85 11 0,qD 86 (.load true 3 (.t 3)) 1,mD0 88 11 3,qD 89 (.load true 3 (.t 3)) 4,mD0 91 11 6,qD 92 (.load true 3 (.t 3)) 7,eD 87 (.call 16 [(.t 85),(.t 86)]) 2 [4,7],eD 90 (.call 16 [(.t 88),(.t 89)]) 5 [7],eD 93 (.call 16 [(.t 91),(.t 92)]) 8 [],mD0 12 87 9,mD0 13 90 10,mD0 14 93 11])
 (S0 (R0 [3,12,13,14,15] [LI0 95 3,mI0 96 12,mI0 97 13,C3 98 17 95 96 97,mI0 94 98,eI0 99 94 0,eI0 100 94 1,mI0 15 99,mI0 16 100])
 (S0 (.seq (.draw [3,12,125] [] [qD 101 (.load true 3 (.t 3)) 0,mD0 102 12 1,mD0 103 13 2,mD0 105 15 4,eD 104 (.call 19 [(.t 101),(.t 102),(.t 103)]) 3 [],eD 106 (.call 18 [(.t 104),(.t 105)]) 5 [],qD 107 (.un .not (.t 106)) 6,mD0 108 107 7,⟨G0 109 (.load true 3 (.t 3)) true 108 false,8,[]⟩,⟨G0 110 (.load true 3 (.t 3)) true 108 false,9,[]⟩,⟨gm0 111 12 108 false,10,[]⟩,⟨gm0 112 13 108 false,11,[]⟩,⟨gm0 114 14 108 false,13,[]⟩,⟨G0 116 (.load true 3 (.t 3)) true 108 false,15,[]⟩,⟨gm0 117 12 108 false,16,[]⟩,⟨G0 118 (.load true 3 (.t 3)) true 108 false,17,[]⟩,⟨gm0 119 13 108 false,18,[]⟩,⟨gm0 120 14 108 false,19,[]⟩,⟨G0 113 (.call 19 [(.t 110),(.t 111),(.t 112)]) false 108 false,12,[8,15,17]⟩,⟨G0 115 (.call 19 [(.t 109),(.t 113),(.t 114)]) false 108 false,14,[15,17]⟩,⟨G0 121 (.call 19 [(.t 118),(.t 119),(.t 120)]) false 108 false,20,[15]⟩,⟨G0 122 (.call 19 [(.t 116),(.t 117),(.t 121)]) false 108 false,21,[]⟩,⟨G0 123 (.call 18 [(.t 115),(.t 122)]) false 108 false,22,[]⟩,⟨G0 124 (.un .not (.t 123)) true 108 false,23,[]⟩,qD 125 (.pick (.t 108) (.c (.bool true)) (.t 124)) 24])
 (.cond (.t 125) (S0 (R0 [2] [tI0 2 false])
 .ret) .skip))
 (S0 (R0 [3,12,17] [fI0 126 0 3,lI0 127 126,sI0 128 127,eI 129 (.makeSl 1 8 [(.int .i64 0)] (.t 128) (.t 128)),mI0 17 129])
 (S0 (.draw [2] [] [qD 130 (.load true 3 (.t 3)) 0,mD0 131 12 1,mD0 132 17 2,mD0 134 12 4,eD 133 (.call 19 [(.t 130),(.t 131),(.t 132)]) 3 [],eD 135 (.call 18 [(.t 133),(.t 134)]) 5 [],mD0 136 135 6,⟨G0 137 (.load true 3 (.t 3)) true 136 true,7,[]⟩,⟨gm0 138 17 136 true,8,[]⟩,⟨gm0 139 12 136 true,9,[]⟩,⟨gm0 141 12 136 true,11,[]⟩,⟨G0 140 (.call 19 [(.t 137),(.t 138),(.t 139)]) false 136 true,10,[]⟩,⟨G0 142 (.call 18 [(.t 140),(.t 141)]) false 136 true,12,[]⟩,qD 143 (.pick (.t 136) (.t 142) (.c (.bool false))) 13,mD0 144 143 14,⟨G0 145 (.load true 3 (.t 3)) true 144 true,15,[]⟩,⟨gm0 146 12 144 true,16,[]⟩,⟨G0 147 (.load true 3 (.t 3)) true 144 true,17,[]⟩,⟨gm0 148 12 144 true,18,[]⟩,⟨gm0 151 17 144 true,21,[]⟩,⟨G0 149 (.call 20 [(.t 147),(.t 148)]) false 144 true,19,[15]⟩,⟨G0 150 (.call 19 [(.t 145),(.t 146),(.t 149)]) false 144 true,20,[]⟩,⟨G0 152 (.call 18 [(.t 150),(.t 151)]) false 144 true,22,[]⟩,qD 153 (.pick (.t 144) (.t 152) (.c (.bool false))) 23,mD0 154 153 24,⟨G0 155 (.load true 3 (.t 3)) true 154 true,25,[]⟩,⟨G0 156 (.load true 3 (.t 3)) true 154 true,26,[]⟩,⟨gm0 157 12 154 true,27,[]⟩,⟨gm0 159 12 154 true,29,[]⟩,⟨gm0 161 17 154 true,31,[]⟩,⟨G0 158 (.call 20 [(.t 156),(.t 157)]) false 154 true,28,[25]⟩,⟨G0 160 (.call 19 [(.t 155),(.t 158),(.t 159)]) false 154 true,30,[]⟩,⟨G0 162 (.call 18 [(.t 160),(.t 161)]) false 154 true,32,[]⟩,qD 163 (.pick (.t 154) (.t 162) (.c (.bool false))) 33,mD0 2 163 34])
 .ret))))))))))))))))))⟩
theorem cf3:cF Tryz.prog Tryz.f3=some if3:=by kernel_rfl
end Go.Proofs
namespace Go.Proofs.YtfoidnlodahfjaaGreat
open Go.ChangeShapes Go.WideShapes Go.ChangeAt Go.RowKit Go.Ab Go.Joins Go.Lie Go.Proofs
set_option linter.unusedVariables false
theorem own:ownKnob Tryz.prog.godebug=none:=by kernel_rfl
theorem laidOut:laidOutB Tryz.prog=true:=by kernel_rfl
variable {H:Type} {enc:TypeId×Value→H} {W w0:World} {j:Inj} {h:AHeap}
end Go.Proofs.YtfoidnlodahfjaaGreat
