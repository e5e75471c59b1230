/- Plain law: the quotient of a ring by an ideal has no fault; images respect sums and brackets. -/
import Derived.Test.YtcbdjookdepkbaaGreatAP29
import Derived.Test.YtcbdjookdepkbaaGreatAAbPm
import Derived.Test.YtcbdjookdepkbaaGreatAP31
set_option linter.unusedSimpArgs false
set_option linter.unusedVariables false
namespace Go.Proofs
open Go.Ab Go.Lie
variable {σ:PHeap} {K:PV→PHeap→Prop} {p:Int} {n c:Nat} {W:List (List Int)} {B:List (List (List Int))} {vP vB vL:PV} {s:Nat} {x y:List Int} {vx vy:PV} {xs:List (List Int)}
theorem zGb (o:OkW p n W) (hs:PtrR σ s p vP vB) (hP:FII vP W) (hx:El p n x) (hvx:FI vx x) {k:Int} (hkb:-1000000000≤k∧k≤1000000000) (hk:∀v,FI v (lmul p W k x)→K v σ):zA Tryz.prog 47 [.ptr s 0,.int .i64 k,vx] σ K:=by
 obtain⟨wx,ax,rfl⟩:=hvx;exact Zc hs hP o hx rfl hkb fun v=>hk _ ⟨_,_,by rw [show(lmul p W k x).length=n from(zO o hx hx).1]⟩
end Go.Proofs
namespace Go.Proofs
open Go.Ab Go.Lie
variable {σ:PHeap} {K:PV→PHeap→Prop} {p:Int} {n c m k:Nat} {W:List (List Int)} {B:List (List (List Int))} {vP vB vL:PV} {s:Nat} {x y u v:List Int} {vx vy:PV} {xs:List (List Int)}
theorem zGJ (f:Vec) (t:Nat):brv B n f f t=0:=by
 have:=zi (B:=B) (n:=n) f f t
 omega
end Go.Proofs
namespace Go.Proofs
open Go.Ab Go.Lie
variable {p:Int} {n:Nat} {W:List (List Int)} {B:List (List (List Int))} {c k:Nat} {f g h:Vec}
theorem zLb (f g g':Vec) (t:Nat):brv B n f (fun j=>g j+g' j) t=brv B n f g t+brv B n f g' t:=by
 rw [zi,zA2,zi g f,zi g' f]
 grind
theorem zIs (f g:Vec) (t:Nat):brv B n f g t=sumN n fun k=>f k*brv B n (at_ (unitL n k)) g t:=by
 rw [zi,zEq f g,←qa];refine zQ fun k hk=>?_
 rw [zi g (at_ (unitL n k))]
 grind
theorem zDw {f f' g g':Vec} (h:∀j,f j=f' j) (h':∀j,g j=g' j) (t:Nat):brv B n f g t=brv B n f' g' t:=Qq (fun j _=>h j) (fun j _=>h' j) t
section
variable {X Y Z:Vec}
end
end Go.Proofs
namespace Go.Proofs
open Go.Ab Go.Lie
variable {p:Int} {n:Nat} {W:List (List Int)} {B:List (List (List Int))} {id:Prop}
theorem zHk (o:OkW p n W) (q:OkB p n B) (nf:Zj p W B n) {u w:List (List Int)} {f g:Vec} (hf:Gen p n W u f) (hg:Gen p n W w g):Gen p n W (brL p W B n u w) (brv B n f g):=by
 have hS:=zK (p:=p) (n:=n) (W:=W) (brL p W B n u w);have z1:∀(f:Vec) (t:Nat),brv B n (fun _=>0) f t=0:=fun f t=>by
  have:=Zh (B:=B) (n:=n) 0 (fun _=>0) f t
  simpa using this
 refine zBo (S:=fun f=>Gen p n W (brL p W B n u w) (brv B n f g)) ⟨hS.eqv _ _ (Eqv.of_eq (z1 g)) hS.zero,fun f f' h h'=>hS.eqv _ _ (Eqv.of_eq fun t=>zA2 f f' g t) (hS.add _ _ h h'),fun k f h=>hS.eqv _ _ (Eqv.of_eq fun t=>Zh k f g t) (hS.mul k _ h),fun f f' h h'=>hS.eqv _ _ (zCD o q nf g h) h'⟩ (fun x hx=>?_) hf
 refine zBo (S:=fun g=>Gen p n W (brL p W B n u w) (brv B n (at_ x) g)) ⟨hS.eqv _ _ (Eqv.of_eq fun t=>by rw [zi,z1];rfl) hS.zero,fun f f' h h'=>hS.eqv _ _ (Eqv.of_eq fun t=>zLb (at_ x) f f' t) (hS.add _ _ h h'),fun k f h=>hS.eqv _ _ (Eqv.of_eq fun t=>zGK k (at_ x) f t) (hS.mul k _ h),fun f f' h h'=>hS.eqv _ _ (zDC o q nf (at_ x) h) h'⟩ (fun y hy=>?_) hg
 exact hS.eqv _ _ (zBw o q x y).symm (zM (List.mem_flatMap.2 ⟨x,hx,List.mem_map.2 ⟨y,hy,rfl⟩⟩))
theorem zCE {u w:List (List Int)} {z:List Int}:z∈brL p W B n u w↔∃x∈u,∃y∈w,z=br p W B n x y:=by
 constructor
 ·intro h
  obtain⟨x,hx,h⟩:=List.mem_flatMap.1 h;obtain⟨y,hy,rfl⟩:=List.mem_map.1 h;exact⟨x,hx,y,hy,rfl⟩
 ·rintro ⟨x,hx,y,hy,rfl⟩
  exact List.mem_flatMap.2 ⟨x,hx,List.mem_map.2 ⟨y,hy,rfl⟩⟩
end Go.Proofs
namespace Go.Proofs
open Go.Ab Go.Lie
variable {p:Int} {n:Nat} {W:List (List Int)} {B:List (List (List Int))} {u:List (List Int)}
def qE (B:List (List (List Int))) (i j:Nat):List Int:=(B.getD i []).getD (j-i-1) []
theorem qE_el (q:OkB p n B) {i j:Nat} (hij:i<j) (hj:j<n):El p n (qE B i j)∧∀t,t≤j→at_ (qE B i j) t=0:=by
 have hiB:i<B.length:=by rw [q.len];omega
 have hr:=q.row i hiB;have hk:j-i-1<B[i].length:=by rw [hr];omega
 have h:=q.ent i hiB (j-i-1) hk;unfold qE;rw [zI hiB,zI hk];exact⟨h.1,fun t ht=>h.2 t (by omega)⟩
end Go.Proofs
namespace Go.Proofs
open Go.Ab Go.Lie
variable {p:Int} {n:Nat} {W:List (List Int)} {B:List (List (List Int))} {u:List (List Int)}
theorem zM7 {i j:Nat} (hij:i<j) (hj:j<n) (t:Nat):brv B n (at_ (unitL n i)) (at_ (unitL n j)) t=at_ (qE B i j) t:=by
 have hi:i<n:=by omega
 unfold brv qE;rw [ZG hi fun i' hi' hne=>qG _ fun k hk=>by
  rw [zy hi,zy hi,zy hj,zy hj,if_neg hne]
  by_cases e:i'+1+k=i
  ·rw [if_pos e,if_neg (show ¬i'=j by omega)];simp
  ·rw [if_neg e];simp]
 rw [ZG (k:=j-i-1) (by omega) fun k hk hne=>by
  rw [zy hi,zy hi,zy hj,zy hj,if_pos rfl,if_neg (show ¬i+1+k=j by omega),if_neg (show ¬i+1+k=i by omega)];simp]
 rw [zy hi,zy hi,zy hj,zy hj,if_pos rfl,if_pos (show i+1+(j-i-1)=j by omega),if_neg (show ¬i+1+(j-i-1)=i by omega)]
 simp
theorem zLa (g:Vec) (t:Nat) (m:Nat) (F:Nat→Vec):brv B n g (fun j=>sumN m fun k=>F k j) t=sumN m fun k=>brv B n g (F k) t:=by
 rw [zi,zAD (t:=t) (g:=g) m F,←qa];exact zQ fun k _=>(zi g (F k) t).symm
end Go.Proofs
