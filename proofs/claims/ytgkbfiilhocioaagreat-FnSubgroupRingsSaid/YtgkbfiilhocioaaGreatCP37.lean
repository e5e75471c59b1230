/- A stack of rows; powers with negative exponents by the reference. -/
import Derived.Test.YtgkbfiilhocioaaGreatCP28
import Derived.Test.YtgkbfiilhocioaaGreatCAbPn
import Derived.Test.YtgkbfiilhocioaaGreatCP34
import Derived.Test.YtgkbfiilhocioaaGreatCP32
import Derived.Test.YtgkbfiilhocioaaGreatCP29
open Int renaming reduceNatCast'→iQ0
set_option maxRecDepth 100000
set_option linter.unusedSimpArgs false
set_option linter.unusedVariables false
namespace Go.Proofs
open Go.Ab Go.Lie
variable {σ:PHeap} {K:PV→PHeap→Prop} {p p':Int} {n:Nat} {W:List (List Int)} {B:List (List (List Int))} {vP vB vL vU vV:PV} {s:Nat}
theorem zA.fzITx {P:Program} {f:FuncId} {args:List PV} {D:List Int→Prop} (c:∀K':PV→PHeap→Prop,(∀z,D z→ResI σ K' z)→zA P f args σ K') (k:∀z v t,D z→FI v z→Own σ.top t v→σ.top≤t→K v (σ.up t)):zA P f args σ K:=
 zA.gh (c _ fun z hz=>⟨fun h0=>by subst h0;exact Gh.ret (k _ _ σ.top hz ⟨true,.nils,rfl⟩ (Own.empty _ _ _ _ _) (Nat.le_refl _)),fun cap hc=>Gh.own (zC σ _) (by simp [PHeap.new]) (Nat.le_refl _) (zN _ _) hc.ok (Owns.pis _ _ _) fun o t h1 h2=>k _ _ t hz ⟨true,_,rfl⟩ h1 h2⟩)
theorem zCQ {l:Nat} {w:Bool} {av:AV} {k:Int} {x:List Int} (hs:PtrR σ s p vP vB) (hP:FII vP W) (o:OkW p n W) (hpow:ipow p n≤729) (hx:El p n x) (hl:l=x.length)
  (hk:∀z,DivL p n W k x z→ResI σ K z):zA Tryz.prog 292 [.ptr s 0,.fz w av l (pis x),.int .i64 k] σ K:=by
 have hn6:=o.le;have hpr:=o.pr;have hxl:=hx.1;have hp0:σ.rd1 s 0=some (.int .i64 p):=by rw [zI hs.obj];rfl
 subst hl;refine zD mix Tryz.func292 ?_
 conv=>arg 2;cbv
 refine zF rfl ?_;simp only [pwA,seval,-iQ0];refine ZX rfl (by omega) ?_
 by_cases hz:isZ x
 ·simp only [pwA,seval,-iQ0,hz,decide_true]
  have hd:DivL p n W k x x:=⟨hx,fun _=>rfl,fun _=>by
   refine Eqv.of_eq fun j=>?_
   rw [ZH hz,Int.mul_zero]⟩
  refine Zf rfl (by omega) ⟨fun h0=>?_,fun cap hc=>?_⟩
  ·simp only [pwA,seval,-iQ0]
   exact(hk x hd).1 h0
  ·simp only [pwA,seval,-iQ0]
   exact(hk x hd).2 cap hc
 ·have hn:0<n:=by
   rcases Nat.eq_zero_or_pos n with h|h
   ·exact absurd (by rw [List.eq_nil_of_length_eq_zero (hxl.trans h)];intro y hy;cases hy) hz
   ·exact h
  have hm1:2≤ipow p n:=by
   obtain⟨n',rfl⟩:∃n',n=n'+1:=⟨n-1,by omega⟩
   have h1:∀k:Nat,1≤ipow p k:=fun k=>by
    induction k with
    | zero=>simp [ipow]
    | succ k ih=>
     have:=Int.mul_le_mul_of_nonneg_left (show(1:Int)≤p by have:=hpr.1;omega) (show 0≤ipow p k by omega)
     rw [ipow];omega
   have:=Int.mul_le_mul_of_nonneg_left (show(2:Int)≤p from hpr.1) (show 0≤ipow p n' by have:=h1 n';omega)
   have:=h1 n'
   rw [ipow];omega
  simp only [pwA,seval,-iQ0,hz,decide_false,hp0,hxl];refine zBI hpr hn6 ?_;simp only [pwA,seval,-iQ0];refine zBv (by omega) (by omega) ?_
  simp only [pwA,seval,-iQ0];refine zIz (Int.emod_nonneg _ (by omega)) (Int.emod_lt_of_pos _ (by omega)) (by omega) fun y yb h1 h2 h3=>?_
  simp only [pwA,seval,-iQ0];have hd:DivL p n W k x (lmul p W y x):=DivL.mk' o hx hz (m:=ipow p n) (by
   rw [zBj];exact Qa o fun j hj=>hx.beyond hj) fun hc=>by
    obtain⟨z,w',hzw⟩:=Q7 hc hn;rw [←zBj]at hzw
    have em:=Int.mul_ediv_add_emod k (ipow p n);obtain⟨t,ht⟩:=h3 ⟨z,w'-k / ipow p n*z,by grind⟩
    exact⟨t+k / ipow p n*y,by grind⟩
  refine zBP hs hP o hx hxl.symm (by omega) ⟨fun h0=>?_,fun cap hc=>?_⟩
  ·simp only [pwA,seval,-iQ0]
   exact(hk _ hd).1 h0
  ·simp only [pwA,seval,-iQ0]
   exact(hk _ hd).2 cap hc
theorem CodeL.zero {xs:List (List Int)} (h:CodeL p W B xs 0):(isLie p W B∧Els p W.length xs)∧isLz p W.length W B:=by
 rcases h with ⟨_,h⟩|⟨_,_,h⟩|⟨h1,h2,_⟩
 ·omega
 ·omega
 ·exact⟨h1,h2⟩
theorem zJL {v:PV} {x:List Int} {w:Bool} {a:AV} (hx:FI v x):FII (.fz w a 1 [v]) [x]:=⟨w,a,[v],rfl,by simpa using (All2.nil _).snoc hx⟩
theorem SzL.one {x:List Int} (h:x.length≤1048576):SzL [x]:=⟨by simp,fun y hy=>by rw [List.mem_singleton.1 hy];exact h⟩
end Go.Proofs
namespace Go.Proofs
open Go.Ab Go.Lie
variable {p:Int} {n:Nat} {W:List (List Int)} {B:List (List (List Int))} {c k:Nat} {f g:Vec}
def Lw (p:Int) (n:Nat) (W:List (List Int)) (B:List (List (List Int))) (k:Nat) (f:Vec):Prop:=∃u,Low p n W B k u∧Gen p n W u f
structure Rg (p:Int) (n:Nat) (W:List (List Int)) (B:List (List (List Int))) (c:Nat):Prop where
 o:OkW p n W
 q:OkB p n B
 nf:qz p W B n
 cls:Cls p n W B c
theorem zHA:∀{m:Nat} {u:List (List Int)},Low p n W B m u→∀k,k≤m→∃v,Low p n W B k v
 | 0,u,h,k,hk=>by
  have:k=0:=by omega
  subst this;exact⟨u,h⟩
 | m+1,u,h,k,hk=>by
  by_cases e:k=m+1
  ·subst e;exact⟨u,h⟩
  ·cases h with
   | succ h hc=>exact zHA h k (by omega)
theorem Rg.low (r:Rg p n W B c) (k:Nat):∃u,Low p n W B k u:=by
 rcases Nat.le_total k c with x|x
 ·exact zHA r.cls.1 k x
 ·obtain⟨u,⟨h,_⟩ | h⟩:=zJd r.o r.q r.cls k
  ·exact⟨u,h⟩
  ·exact⟨[],by omega⟩
theorem Rg.sub (r:Rg p n W B c) (k:Nat):IsSub p n W (Lw p n W B k):=by
 obtain⟨u,hu⟩:=r.low k;have hs:=zP (p:=p) (n:=n) (W:=W) u;have e:∀{f:Vec},Lw p n W B k f→Gen p n W u f:=fun {f} ⟨v,hv,hg⟩=>by rw [hu.unique r.o hv];exact hg
 exact⟨⟨u,hu,hs.zero⟩,fun f g a b=>⟨u,hu,hs.add _ _ (e a) (e b)⟩,fun k f a=>⟨u,hu,hs.mul _ _ (e a)⟩,fun f g a b=>⟨u,hu,hs.eqv _ _ a (e b)⟩⟩
theorem Rg.all (r:Rg p n W B c) {x:List Int} (hx:El p n x):Lw p n W B 0 (at_ x):=⟨_,.zero,zF7 r.o hx⟩
theorem Rg.brk (r:Rg p n W B c) (hf:Lw p n W B k f) (g:Vec):Lw p n W B (k+1) (brv B n f g):=by
 obtain⟨u,hu,hg⟩:=hf;obtain⟨v,hv⟩:=r.low (k+1);cases hv with
 | succ h hc=>
  rw [h.unique r.o hu]at hc
  exact⟨v,.succ hu hc,zOc r.o r.q r.nf hc hg g⟩
theorem Rg.brk2 (r:Rg p n W B c) (hg:Lw p n W B k g) (f:Vec):Lw p n W B (k+1) (brv B n f g):=
 (r.sub _).eqv _ _ (Eqv.of_eq fun t=>zX f g t) ((r.sub _).mul (-1) _ (r.brk hg f))
theorem Rg.top (r:Rg p n W B c) (hk:c≤k) (hf:Lw p n W B k f):Eqv p n W f fun _=>0:=by
 obtain⟨u,hu,hg⟩:=hf;obtain⟨v,⟨hv,h0⟩|h⟩:=zJd r.o r.q r.cls k
 ·rw [hu.unique r.o hv,h0 hk]at hg
  exact zOk hg
 ·omega
theorem Rg.down (r:Rg p n W B c):∀{k:Nat} {f:Vec},Lw p n W B (k+1) f→Lw p n W B k f
 | 0,f,⟨u,hu,hg⟩=>⟨_,.zero,Zv (fun v hv=>zF7 r.o ((hu.els r.o).1 v hv)) hg⟩
 | k+1,f,⟨u,hu,hg⟩=>by
  cases hu with
  | succ h hc=>
   rename_i w
   refine zEw (r.sub (k+1)) (fun v hv=>?_) ((hc.gen f).2 hg)
   obtain⟨x,hx,hv⟩:=List.mem_flatMap.1 hv;obtain⟨e,he,rfl⟩:=List.mem_map.1 hv;exact(r.sub _).eqv _ _ (Zp r.o r.q x e) (r.brk (r.down ⟨w,h,zb hx⟩) (at_ e))
theorem Rg.le (r:Rg p n W B c) {j k:Nat} (h:j≤k) {f:Vec} (hf:Lw p n W B k f):Lw p n W B j f:=by
 induction k with
 | zero=>
   have:j=0:=by omega
   subst this;exact hf
 | succ k ih=>
  by_cases e:j=k+1
  ·subst e;exact hf
  ·exact ih (by omega) (r.down hf)
theorem Rg.zero (r:Rg p n W B c) (hk:c≤k) {z:List Int} (hz:El p n z) (hf:Lw p n W B k (at_ z)):isZ z:=Zb r.o hz (r.top hk hf)
theorem Rg.bL (r:Rg p n W B c) {x y:List Int} (hf:Lw p n W B k (at_ x)):Lw p n W B (k+1) (at_ (br p W B n x y)):=(r.sub _).eqv _ _ (Zp r.o r.q x y) (r.brk hf _)
theorem Rg.bR (r:Rg p n W B c) {x y:List Int} (hf:Lw p n W B k (at_ y)):Lw p n W B (k+1) (at_ (br p W B n x y)):=(r.sub _).eqv _ _ (Zp r.o r.q x y) (r.brk2 hf _)
theorem Rg.addL (r:Rg p n W B c) {x y:List Int} (hx:El p n x) (hy:El p n y) (h1:Lw p n W B k (at_ x)) (h2:Lw p n W B k (at_ y)):Lw p n W B k (at_ (ladd p W x y)):=(r.sub _).eqv _ _ (qh r.o hx hy) ((r.sub _).add _ _ h1 h2)
theorem Rg.mulL (r:Rg p n W B c) {x:List Int} (hx:El p n x) (m:Int) (h1:Lw p n W B k (at_ x)):Lw p n W B k (at_ (lmul p W m x)):=(r.sub _).eqv _ _ (qP r.o hx m) ((r.sub _).mul m _ h1)
def ZB (p:Int) (W:List (List Int)) (B:List (List (List Int))) (n:Nat) (x y:List Int):List Int:=ladd p W (br p W B n x (br p W B n x y)) (br p W B n y (lmul p W (-1) (br p W B n x y)))
theorem Zd (o:OkW p n W) (q:OkB p n B) {x y:List Int}:El p n (ZB p W B n x y):=zJ o (br_el o q) (br_el o q)
theorem Rg.thd (r:Rg p n W B c) {x y:List Int} (hf:Lw p n W B k (at_ (br p W B n x y))):Lw p n W B (k+1) (at_ (ZB p W B n x y)):=
 r.addL (br_el r.o r.q) (br_el r.o r.q) (r.bR hf) (r.bR (r.mulL (br_el r.o r.q) (-1) hf))
theorem zFg {p:Int} (hp:isP p) (h:p≠2):Cop p 2∧Cop p (-2):=by
 rcases hp with rfl|rfl|rfl|rfl
 ·exact absurd rfl h
 ·exact⟨⟨2,1,by decide⟩,⟨1,-1,by decide⟩⟩
 ·exact⟨⟨3,1,by decide⟩,⟨2,-1,by decide⟩⟩
 ·exact⟨⟨4,1,by decide⟩,⟨3,-1,by decide⟩⟩
theorem zE5 {p:Int} (hp:isP p) (h:p≠2) (h3:p≠3):Cop p 12∧Cop p (-12):=by
 rcases hp with rfl|rfl|rfl|rfl
 ·exact absurd rfl h
 ·exact absurd rfl h3
 ·exact⟨⟨3,7,by decide⟩,⟨2,-5,by decide⟩⟩
 ·exact⟨⟨3,5,by decide⟩,⟨4,-7,by decide⟩⟩
theorem Rg.two (r:Rg p n W B c) (hp:isP p) (hc:(c:Int)<p) {z:List Int} (hz:El p n z) (h:Lw p n W B 1 (at_ z)):isZ z∨(Cop p 2∧Cop p (-2)):=by
 by_cases h2:p=2
 ·exact .inl (r.zero (by omega) hz h)
 ·exact .inr (zFg hp h2)
theorem Rg.twelve (r:Rg p n W B c) (hp:isP p) (hc:(c:Int)<p) {z:List Int} (hz:El p n z) (h:Lw p n W B 2 (at_ z)):isZ z∨(Cop p 12∧Cop p (-12)):=by
 by_cases h2:p=2
 ·exact .inl (r.zero (by omega) hz h)
 ·by_cases h3:p=3
  ·exact .inl (r.zero (by omega) hz h)
  ·exact .inr (zE5 hp h2 h3)
noncomputable def dv (p:Int) (n:Nat) (W:List (List Int)) (k:Int) (x:List Int):List Int:=Classical.epsilon (DivL p n W k x)
theorem dv_eq (o:OkW p n W) {k:Int} {x z:List Int} (hx:El p n x) (h:DivL p n W k x z) (hk:isZ x∨Cop p k):z=dv p n W k x:=
 h.unique o hx (Classical.epsilon_spec ⟨z,h⟩) hk
theorem zPc (o:OkW p n W) {k:Int} {x:List Int} (hx:El p n x):∃z,DivL p n W k x z:=by
 by_cases hz:isZ x
 ·exact⟨x,hx,fun _=>rfl,fun _=>Eqv.of_eq fun j=>by rw [ZH hz,Int.mul_zero]⟩
 ·by_cases hc:Cop p k
  ·have hn:0<n:=by
    rcases Nat.eq_zero_or_pos n with h|h
    ·exact absurd (by rw [List.eq_nil_of_length_eq_zero (hx.1.trans h)];intro y hy;cases hy) hz
    ·exact h
   obtain⟨y,w,hy⟩:=Q7 hc hn;exact⟨_,DivL.mk' o hx hz (y:=y) (Qa o fun j hj=>hx.beyond hj) fun _=>⟨w,hy⟩⟩
  ·exact⟨x,hx,fun h=>absurd h hz,fun h=>absurd h hc⟩
theorem Zm (o:OkW p n W) {k:Int} {x:List Int} (hx:El p n x):DivL p n W k x (dv p n W k x):=Classical.epsilon_spec (zPc o hx)
theorem dv_el (o:OkW p n W) {k:Int} {x:List Int} (hx:El p n x):El p n (dv p n W k x):=(Zm o hx).el
theorem zE4 (o:OkW p n W) {S:Vec→Prop} (hs:IsSub p n W S) {k:Int} {x z:List Int} (h:DivL p n W k x z) (hk:isZ x∨Cop p k) (hx:S (at_ x)):S (at_ z):=by
 rcases hk with hz|hc
 ·rw [h.nil hz];exact hx
 ·rcases Nat.eq_zero_or_pos n with hn | hn
  ·refine hs.eqv _ _ (Eqv.of_eq fun j=>?_) hs.zero
   exact h.el.beyond (by omega)
  ·obtain⟨a,w,ha⟩:=Q7 (p:=p) hc hn
   have k1:=(Qa o (f:=at_ z) (fun j hj=>h.el.beyond hj)).mul w
   have k2:=(Eqv.refl (p:=p) (n:=n) (W:=W) (at_ z)).add k1;refine hs.eqv _ _ ?_ (hs.mul a _ hx);refine(((Eqv.of_eq fun j=>?_).trans k2.symm).trans (Eqv.of_eq fun j=>?_)).trans ((h.eqv hc).mul a)
   ·omega
   ·grind
noncomputable def bch (p:Int) (n:Nat) (W:List (List Int)) (B:List (List (List Int))) (x y:List Int):List Int:=
 ladd p W (ladd p W (ladd p W x y) (dv p n W 2 (br p W B n x y))) (dv p n W 12 (ZB p W B n x y))
theorem Zq (o:OkW p n W) (q:OkB p n B) {x y:List Int} (hx:El p n x) (hy:El p n y):El p n (bch p n W B x y):=
 zJ o (zJ o (zJ o hx hy) (dv_el o (br_el o q))) (dv_el o (Zd o q))
noncomputable def fold (p:Int) (n:Nat) (W:List (List Int)) (B:List (List (List Int))) (xs:List (List Int)):List Int:=xs.foldl (bch p n W B) (List.replicate n 0)
theorem zF9 (xs:List (List Int)) {i:Nat} (hi:i<xs.length):fold p n W B (xs.take (i+1))=bch p n W B (fold p n W B (xs.take i)) xs[i]:=by
 unfold fold;rw [List.take_succ_eq_append_getElem hi,List.foldl_append]
 rfl
theorem Q6 (o:OkW p n W) (q:OkB p n B):∀{xs:List (List Int)},Els p n xs→El p n (fold p n W B xs):=by
 have:∀(xs:List (List Int)) (a:List Int),Els p n xs→El p n a→El p n (xs.foldl (bch p n W B) a):=by
  intro xs
  induction xs with
  | nil=>exact fun a _ ha=>ha
  | cons x xs ih=>exact fun a hx ha=>ih _ (fun y hy=>hx y (by simp [hy])) (Zq o q ha (hx x (by simp)))
 exact fun {xs} h=>this xs _ h (ZV o.pr)
noncomputable def comm (p:Int) (n:Nat) (W:List (List Int)) (B:List (List (List Int))) (x y:List Int):List Int:=fold p n W B [lmul p W (-1) x,lmul p W (-1) y,x,y]
theorem Rg.brD (r:Rg p n W B c) {x y:List Int} (hx:El p n x):Lw p n W B 1 (at_ (br p W B n x y)):=r.bL (r.all hx)
theorem Rg.of_lie (hl:isLie p W B) (hz:isLz p W.length W B):∃c,Rg p W.length W B c∧(c:Int)<p:=by
 obtain⟨c,hc,hp⟩:=hz;exact⟨c,⟨hl.1.w,hl.1.b,hl.2,hc⟩,hp⟩
end Go.Proofs
namespace Go.Proofs
open Go.Ab Go.Lie
variable {σ:PHeap} {K:PV→PHeap→Prop} {p:Int} {n c:Nat} {W:List (List Int)} {B:List (List (List Int))} {vP vB vL:PV} {s:Nat} {x y:List Int} {vx vy:PV}
structure Lz (p:Int) (n:Nat) (W:List (List Int)) (B:List (List (List Int))) (c:Nat):Prop where
 r:Rg p n W B c
 hp:isP p
 hc:(c:Int)<p
 pow:ipow p n≤729
theorem Lz.of (hl:isLie p W B) (hz:isLz p W.length W B):∃c,Lz p W.length W B c:=by
 obtain⟨c,r,hc⟩:=Rg.of_lie hl hz;exact⟨c,r,hl.1.1,hc,hl.1.2.2.2.1⟩
theorem Lz.d2 (z:Lz p n W B c) (hx:El p n x):isZ (br p W B n x y)∨Cop p 2:=(z.r.two z.hp z.hc (br_el z.r.o z.r.q) (z.r.brD hx)).imp id (·.1)
theorem Lz.d12 (z:Lz p n W B c) (hx:El p n x):isZ (ZB p W B n x y)∨Cop p 12:=(z.r.twelve z.hp z.hc (Zd z.r.o z.r.q) (z.r.thd (z.r.brD hx))).imp id (·.1)
theorem zKn (z:Lz p n W B c) (hs:PtrR σ s p vP vB) (hR:IsR vP vB W B) (hx:El p n x) (hy:El p n y) (hvx:FI vx x) (hvy:FI vy y)
  (hk:∀a v1 v2 v3 t,FI v1 (ladd p W x y)→FI v2 (dv p n W 2 (br p W B n x y))→FI v3 (dv p n W 12 (ZB p W B n x y))→Own σ.top t (.fz true a 3 [v1,v2,v3])→σ.top≤t→K (.fz true a 3 [v1,v2,v3]) (σ.up t)):
  zA Tryz.prog 220 [.ptr s 0,vx,vy] σ K:=by
 have o:=z.r.o;have q:=z.r.q;have hxl:=hx.1;have hyl:=hy.1;obtain⟨wx,ax,rfl⟩:=hvx;obtain⟨wy,ay,rfl⟩:=hvy;refine zA.gh ?_;have bel:=br_el o q (a:=x) (b:=y);refine zD mix Tryz.func220 ?_
 conv=>arg 2;cbv
 refine zF rfl ?_;simp only [pwA,seval,-iQ0];refine qg hs hR o q hx hy rfl rfl fun v1=>?_
 simp only [pwA,seval,-iQ0];refine qg hs hR o q hx bel rfl bel.1.symm fun v2=>?_
 simp only [pwA,seval,-iQ0];refine Z8 hs hR.P o bel bel.1.symm (by decide) fun v3=>?_
 have m1:El p n (lmul p W (-1) (br p W B n x y)):=zJ o bel bel;simp only [pwA,seval,-iQ0];refine qg hs hR o q hy m1 rfl m1.1.symm fun v4=>?_
 simp only [pwA,seval,-iQ0];have e2:El p n (br p W B n x (br p W B n x y)):=br_el o q;have e4:El p n (br p W B n y (lmul p W (-1) (br p W B n x y))):=br_el o q;refine Qk hs hR.P o e2 e4 e2.1.symm e4.1.symm fun v5=>?_
 simp only [pwA,seval,-iQ0];refine zA.fzIT (fun K'=>zC6 hs hR.P o hx hy rfl rfl) fun w1 t1 f1 o1 ht1=>?_
 have hs1:PtrR (σ.up t1) s p vP vB:=⟨hs.obj,hs.lt⟩;simp only [pwA,seval,-iQ0];refine zA.fzITx (fun K'=>zCQ hs1 hR.P o z.pow bel bel.1.symm) fun z2 w2 t2 d2 f2 o2 ht2=>?_
 have hs2:PtrR (σ.up t2) s p vP vB:=⟨hs.obj,hs.lt⟩;simp only [pwA,seval,-iQ0];have te:=Zd o q (x:=x) (y:=y);refine zA.fzITx (fun K'=>zCQ hs2 hR.P o z.pow (x:=ZB p W B n x y) te te.1.symm) fun z3 w3 t3 d3 f3 o3 ht3=>?_
 rw [dv_eq o bel d2 (z.d2 hx)]at f2
 rw [dv_eq o te d3 (z.d12 hx)]at f3
 simp only [zJJ]at o2 ht2 o3 ht3
 simp only [pwA,seval,-iQ0,f1.cells,f1.one,f2.cells,f2.one,f3.cells,f3.one];have hoo:=(((Owns.nil σ.top σ.top).snoc o1 (Nat.le_refl _) ht1).snoc o2 ht1 ht2).snoc o3 (Nat.le_trans ht1 ht2) ht3;exact Gh.own (cs:=[w1,w2,w3]) ((Keep.refl σ).new _ |>.up (by simp only [zGo];omega)) (by simp only [pwA,seval,-iQ0]) (Nat.le_refl _) ⟨f1.bel 0,f2.bel 0,f3.bel 0,trivial⟩ (by simp [capOK]) (hoo.mono (Nat.le_refl _) (Nat.le_refl _)) fun o4 t4 h1 h2=>hk _ w1 w2 w3 t4 f1 f2 f3 h1 h2
theorem zI5 (z:Lz p n W B c) (hs:PtrR σ s p vP vB) (hR:IsR vP vB W B) (hx:El p n x) (hy:El p n y) (hvx:FI vx x) (hvy:FI vy y)
  (hk:∀a v1 v2 v3,FI v1 (ladd p W x y)→FI v2 (dv p n W 2 (br p W B n x y))→FI v3 (dv p n W 12 (ZB p W B n x y))→K (.fz true a 3 [v1,v2,v3]) σ):
  zA Tryz.prog 220 [.ptr s 0,vx,vy] σ K:=
 zA.gh (zKn z hs hR hx hy hvx hvy fun a v1 v2 v3 t f1 f2 f3 _ ht=>Gh.fin0 ((Keep.refl σ).up ht) trivial (hk a v1 v2 v3 f1 f2 f3))
theorem zE9 (z:Lz p n W B c) (hs:PtrR σ s p vP vB) (hR:IsR vP vB W B) (hx:El p n x) (hy:El p n y) (hvx:FI vx x) (hvy:FI vy y) (hk:ResI σ K (bch p n W B x y)):
  zA Tryz.prog 131 [.ptr s 0,vx,vy] σ K:=by
 have o:=z.r.o;have q:=z.r.q;refine zD mix Tryz.func131 ?_
 conv=>arg 2;cbv
 refine zF rfl ?_;simp only [pwA,seval,-iQ0];refine zI5 z hs hR hx hy hvx hvy fun a v1 v2 v3 f1 f2 f3=>?_
 obtain⟨w1,a1,rfl⟩:=f1;obtain⟨w2,a2,rfl⟩:=f2;obtain⟨w3,a3,rfl⟩:=f3;have e1:El p n (ladd p W x y):=zJ o hx hy;have e2:=dv_el o (k:=2) (br_el o q (a:=x) (b:=y));have e3:=dv_el o (k:=12) (Zd o q (x:=x) (y:=y));have e4:El p n (ladd p W (ladd p W x y) (dv p n W 2 (br p W B n x y))):=zJ o e1 e2;have c0:(0:Int)<((3:Nat):Int):=by decide
 have c1:(1:Int)<((3:Nat):Int):=by decide
 have c2:(2:Int)<((3:Nat):Int):=by decide
 simp only [pwA,seval,-iQ0,c0,c1,c2];refine Qk hs hR.P o e1 e2 rfl rfl fun v4=>?_
 simp only [pwA,seval,-iQ0];refine zC6 hs hR.P o e4 e3 e4.1.symm rfl ⟨fun h0=>?_,fun cap hc=>?_⟩
 ·simp only [pwA,seval,-iQ0]
  exact hk.1 h0
 ·simp only [pwA,seval,-iQ0]
  exact hk.2 cap hc
theorem zIj (z:Lz p n W B c) (hR:IsR vP vB W B) (hx:El p n x) (hy:El p n y) (hvx:FI vx x) (hvy:FI vy y)
  (hk:∀a v1 v2 v3,FI v1 (ladd p W x y)→FI v2 (dv p n W 2 (br p W B n x y))→FI v3 (dv p n W 12 (ZB p W B n x y))→K (.fz true a 3 [v1,v2,v3]) σ):
  zA Tryz.prog 221 [.agg [.int .i64 p,vP,vB],vx,vy] σ K:=by
 have o:=z.r.o;have q:=z.r.q;have hxl:=hx.1;have hyl:=hy.1;have h1:=hR.P.one;have h2:=hR.B.one;obtain⟨wx,ax,rfl⟩:=hvx;obtain⟨wy,ay,rfl⟩:=hvy;refine zA.gh ?_;have bel:=br_el o q (a:=x) (b:=y);refine zD mix Tryz.func221 ?_
 conv=>arg 2;cbv
 refine zF rfl ?_;simp only [pwA,seval,-iQ0,h1,h2];refine qE hR o q hx hy rfl rfl fun v1=>?_
 simp only [pwA,seval,-iQ0];refine qE hR o q hx bel rfl bel.1.symm fun v2=>?_
 simp only [pwA,seval,-iQ0];refine qE hR o q hy bel rfl bel.1.symm fun v3=>?_
 simp only [pwA,seval,-iQ0];have e2:El p n (br p W B n x (br p W B n x y)):=br_el o q;have e3:El p n (br p W B n y (br p W B n x y)):=br_el o q;refine qG hR o e2 e3 e2.1.symm e3.1.symm (by decide) (by decide) fun v4=>?_
 have te:=Zd o q (x:=x) (y:=y);have hth:=third o q z.r.nf (x:=x) (y:=y) bel;rw [←hth];simp only [pwA,seval,-iQ0];refine qG hR o hx hy rfl rfl (by decide) (by decide) fun v5=>?_
 simp only [pwA,seval,-iQ0];refine zEj hR o z.pow bel bel.1.symm fun w6 v6 z2 d2=>?_
 simp only [pwA,seval,-iQ0];refine zEj hR o z.pow (x:=ZB p W B n x y) te te.1.symm fun w7 v7 z3 d3=>?_
 have hz2:=dv_eq o bel d2 (z.d2 hx);have hz3:=dv_eq o te d3 (z.d12 hx);subst hz2;subst hz3;simp only [pwA,seval,-iQ0];exact Gh.finF (s:=σ.next+1) (cs:=[.fz true v5 n (pis (ladd p W x y)),.fz w6 v6 n (pis (dv p n W 2 (br p W B n x y))),.fz w7 v7 n (pis (dv p n W 12 (ZB p W B n x y)))]) (((zC σ _).new _)) (by simp only [pwA,seval,-iQ0]) (by omega) ⟨trivial,trivial,trivial,trivial⟩ (by simp [capOK]) fun o4=>hk _ _ _ _ ⟨true,v5,by rw [show(ladd p W x y).length=n from(zJ o hx hy).1]⟩ ⟨w6,v6,by rw [d2.el.1]⟩ ⟨w7,v7,by rw [d3.el.1]⟩
theorem zCp (z:Lz p n W B c) (hR:IsR vP vB W B) (hx:El p n x) (hy:El p n y) (hvx:FI vx x) (hvy:FI vy y) (hk:∀v,FI v (bch p n W B x y)→K v σ):
  zA Tryz.prog 132 [.agg [.int .i64 p,vP,vB],vx,vy] σ K:=by
 have o:=z.r.o;have q:=z.r.q;have h1:=hR.P.one;have h2:=hR.B.one;refine zA.gh ?_;refine zD mix Tryz.func132 ?_
 conv=>arg 2;cbv
 refine zF rfl ?_;simp only [pwA,seval,-iQ0,h1,h2];refine zIj z hR hx hy hvx hvy fun a v1 v2 v3 f1 f2 f3=>?_
 obtain⟨w1,a1,rfl⟩:=f1;obtain⟨w2,a2,rfl⟩:=f2;obtain⟨w3,a3,rfl⟩:=f3;have e1:El p n (ladd p W x y):=zJ o hx hy;have e2:=dv_el o (k:=2) (br_el o q (a:=x) (b:=y));have e3:=dv_el o (k:=12) (Zd o q (x:=x) (y:=y));have e4:El p n (ladd p W (ladd p W x y) (dv p n W 2 (br p W B n x y))):=zJ o e1 e2;have c0:(0:Int)<((3:Nat):Int):=by decide
 have c1:(1:Int)<((3:Nat):Int):=by decide
 have c2:(2:Int)<((3:Nat):Int):=by decide
 simp only [pwA,seval,-iQ0,c0,c1,c2];refine qG hR o e1 e2 rfl rfl (by decide) (by decide) fun v4=>?_
 simp only [pwA,seval,-iQ0];refine qG hR o (a:=ladd p W (ladd p W x y) (dv p n W 2 (br p W B n x y))) e4 e3 e4.1.symm rfl (by decide) (by decide) fun v5=>?_
 simp only [pwA,seval,-iQ0];exact Gh.fin0 (zC σ _) trivial (hk _ ⟨true,v5,by rw [(Zq o q hx hy).1];rfl⟩)
theorem zL6 (o:OkW p n W) (hR:IsR vP vB W B) (hx:El p n x) (hvx:FI vx x) (hk:∀v,FI v (lmul p W (-1) x)→K v σ):
  zA Tryz.prog 275 [.agg [.int .i64 p,vP,vB],vx] σ K:=by
 have h1:=hR.P.one;have h2:=hR.B.one;have hxl:=hx.1;obtain⟨wx,ax,rfl⟩:=hvx;refine zA.gh ?_;refine zD mix Tryz.func275 ?_
 conv=>arg 2;cbv
 refine zF rfl ?_;simp only [pwA,seval,-iQ0,h1,h2];refine qG hR o hx hx rfl rfl (by decide) (by decide) fun v5=>?_
 simp only [pwA,seval,-iQ0];exact Gh.fin0 (zC σ _) trivial (hk _ ⟨true,v5,by rw [show(lmul p W (-1) x).length=n from(zJ o hx hx).1]⟩)
end Go.Proofs
namespace Go.Proofs
open Go.Ab Go.Lie
variable {σ:PHeap} {K:PV→PHeap→Prop} {p:Int} {n c:Nat} {W:List (List Int)} {B:List (List (List Int))} {vP vB vL:PV} {s:Nat} {x y:List Int} {vx vy:PV} {xs:List (List Int)}
theorem zKo (z:Lz p n W B c) (hs:PtrR σ s p vP vB) (hR:IsR vP vB W B) (hL:FII vL xs) (hx:Els p n xs) (hb:xs.length≤1048576) (hk:ResI σ K (fold p n W B xs)):zA Tryz.prog 192 [.ptr s 0,vL] σ K:=by
 have o:=z.r.o;have q:=z.r.q;have hn6:=o.le;have hWl:=o.len;have hR0:=hR;obtain⟨wl,al,rl,rfl,hrl⟩:=hL;obtain⟨⟨w1,a1,rP,rfl,hP⟩,hB⟩:=hR;refine zA.gh ?_;have hne:¬s=σ.next:=Nat.ne_of_lt hs.lt;refine zD mix Tryz.func192 ?_
 conv=>arg 2;cbv
 refine zF rfl ?_;simp only [pwA,seval,-iQ0,zI hs.obj,hne,List.length_replicate,qH,mk8 (n:=W.length) (by omega),mkL (n:=W.length) (by omega)]
 refine zG (fun m vs h'=>∃i v,i≤xs.length∧m=xs.length-i∧vs=[.ptr s 0,v,.fz wl al xs.length rl,.int .i64 xs.length,.int .i64 (i:Nat)]∧Keep σ h'∧PAcc σ.next 1 h' v n (pis (fold p n W B (xs.take i)))) xs.length ?_ ?_
 ·refine⟨0,_,by omega,by omega,rfl,zC σ _,.inr ?_⟩
  rw [hWl];exact PSl.new σ.next 1 (h:=σ) (n:=n) (cs:=pis (List.replicate n 0)) (by rw [zK];simp) (Nat.le_refl _)
 ·rintro m vs h' ⟨i,v,hi,rfl,rfl,hkp,ha⟩
  simp only [pwA,seval,-iQ0];refine iteI (fun hlt=>?_) fun hge=>?_
  ·obtain⟨w4,a4,hrk⟩:=hrl.rowI hlt
   have hel:=Q6 o q (xs:=xs.take i) fun y hy=>hx y (List.mem_of_mem_take hy)
   have hxi:=hx _ (List.getElem_mem hlt);have e:∀{v':PV} {H:PHeap},Keep σ H→PAcc σ.next 1 H v' n (pis (bch p n W B (fold p n W B (xs.take i)) xs[i]))→∃n',n'<xs.length-i∧∃i' v,i'≤xs.length∧n'=xs.length-i'∧[PV.ptr s 0,v',.fz wl al xs.length rl,.int .i64 xs.length,.int .i64 ((i+1:Nat):Int)]=[.ptr s 0,v,.fz wl al xs.length rl,.int .i64 xs.length,.int .i64 (i':Nat)]∧Keep σ H∧PAcc σ.next 1 H v n (pis (fold p n W B (xs.take i'))):=fun {v' H} k1 k2=>by
    refine⟨_,by omega,i+1,v',by omega,rfl,rfl,k1,?_⟩
    rw [zF9 xs hlt];exact k2
   have bl:=(Zq o q hel hxi).1;simp only [pwA,seval,-iQ0,hlt,hrk];rcases ha with ⟨rfl,h0,h1⟩|⟨s',cap,rfl,hc,q2,q3,q4,q5⟩
   ·refine zE9 z (hs.keep hkp) hR0 hel hxi ⟨true,.nils,by rw [h1,show(fold p n W B (xs.take i)).length=0 by rw [hel.1];exact h0]⟩ ⟨_,_,rfl⟩ ⟨fun h2=>?_,fun cap hc=>?_⟩
    ·simp only [pwA,seval,-iQ0,wrapS hlt (by omega:xs.length≤4611686018427387904)]
     exact e hkp (.inl ⟨rfl,h0,by rw [h2];rfl⟩)
    ·simp only [pwA,seval,-iQ0,wrapS hlt (by omega:xs.length≤4611686018427387904)]
     refine e (hkp.new _) (.inr ⟨_,cap,by rw [bl],by rw [←bl];exact hc,by simp only [pwA,seval,-iQ0],by rw [zK,bl,Nat.mul_one],hkp.next,by simp [PHeap.new]⟩)
   ·refine zA.frz (s:=s') (cs:=pis (fold p n W B (xs.take i))) q2 (zN _ _) fun o1=>?_
    have hcok:=hc.ok;simp only [sbs,sb,hcok,and_self,if_true];have hk2:Keep σ (h'.kill s'):=hkp.kill q4;refine zE9 z (hs.keep hk2) hR0 hel hxi ⟨true,_,by rw [hel.1]⟩ ⟨_,_,rfl⟩ ⟨fun h2=>?_,fun cap hc=>?_⟩
    ·simp only [pwA,seval,-iQ0,wrapS hlt (by omega:xs.length≤4611686018427387904)]
     exact e hk2 (.inl ⟨rfl,by rw [←bl,h2];rfl,by rw [h2];rfl⟩)
    ·simp only [pwA,seval,-iQ0,wrapS hlt (by omega:xs.length≤4611686018427387904)]
     refine e (hk2.new _) (.inr ⟨_,cap,by rw [bl];rfl,by rw [←bl];exact hc,by simp only [pwA,seval,-iQ0],by rw [zK,bl,Nat.mul_one],hk2.next,by simp [PHeap.new]⟩)
  ·have hie:i=xs.length:=by omega
   subst hie;rw [List.take_length]at ha
   exact ha.res hkp (Q6 o q hx).1.symm hk
theorem zKP (z:Lz p n W B c) (hR:IsR vP vB W B) (hL:FII vL xs) (hx:Els p n xs) (hb:xs.length≤1048576) (hk:∀v,FI v (fold p n W B xs)→K v σ):zA Tryz.prog 274 [.agg [.int .i64 p,vP,vB],vL] σ K:=by
 have o:=z.r.o;have q:=z.r.q;have hn6:=o.le;have hWl:=o.len;have h1:=hR.P.one;have h2:=hR.B.one;obtain⟨wl,al,rl,rfl,hrl⟩:=hL;refine zA.gh ?_;refine zD mix Tryz.func274 ?_
 conv=>arg 2;cbv
 refine zF rfl ?_;simp only [pwA,seval,-iQ0,h1,h2];refine zAZ hR hWl (by omega) fun v0=>?_
 simp only [pwA,seval,-iQ0];refine zG (fun m vs h'=>∃i v,i≤xs.length∧m=xs.length-i∧vs=[.fz wl al xs.length rl,.ptr σ.next 0,v,.int .i64 (i:Nat)]∧h'=σ.new [.int .i64 p,vP,vB]∧FI v (fold p n W B (xs.take i))) xs.length ?_ ?_
 ·exact⟨0,_,by omega,by omega,rfl,rfl,⟨true,v0,by rw [List.take_zero,show fold p n W B []=List.replicate n 0 from rfl,List.length_replicate];rfl⟩⟩
 ·rintro m vs h' ⟨i,v,hi,rfl,rfl,rfl,hv⟩
  simp only [pwA,seval,-iQ0];refine iteI (fun hlt=>?_) fun hge=>?_
  ·obtain⟨w4,a4,hrk⟩:=hrl.rowI hlt
   have hel:=Q6 o q (xs:=xs.take i) fun y hy=>hx y (List.mem_of_mem_take hy)
   have hxi:=hx _ (List.getElem_mem hlt);simp only [pwA,seval,-iQ0,hlt,hrk];refine zCp z hR hel hxi hv ⟨_,_,rfl⟩ fun v' hv'=>?_
   simp only [pwA,seval,-iQ0,wrapS hlt (by omega:xs.length≤4611686018427387904)]
   exact⟨_,by omega,i+1,v',by omega,rfl,rfl,by rw [zF9 xs hlt];exact hv'⟩
  ·have hie:i=xs.length:=by omega
   subst hie;rw [List.take_length]at hv
   exact Gh.fin0 (zC σ _) (hv.bel _) (hk v hv)
theorem rows3 {v1 v2 v3:PV} {x1 x2 x3:List Int} {w:Bool} {a:AV} (h1:FI v1 x1) (h2:FI v2 x2) (h3:FI v3 x3):FII (.fz w a 3 [v1,v2,v3]) [x1,x2,x3]:=⟨w,a,_,rfl,by simpa using (((All2.nil _).snoc h1).snoc h2).snoc h3⟩
theorem zAL (o:OkW p n W) (hx:El p n x):El p n (lmul p W (-1) x):=zJ o hx hx
theorem els4 {x1 x2 x3 x4:List Int} (h1:El p n x1) (h2:El p n x2) (h3:El p n x3) (h4:El p n x4):Els p n [x1,x2,x3,x4]:=fun y hy=>by simp at hy;rcases hy with rfl | rfl | rfl | rfl<;>assumption
theorem els3 {x1 x2 x3:List Int} (h1:El p n x1) (h2:El p n x2) (h3:El p n x3):Els p n [x1,x2,x3]:=fun y hy=>by simp at hy;rcases hy with rfl | rfl | rfl<;>assumption
theorem zAB (o:OkW p n W) (hs:PtrR σ s p vP vB) (hP:FII vP W) (hx:El p n x) (hvx:FI vx x) {k:Int} (hkb:-1000000000≤k∧k≤1000000000) (hk:∀v,FI v (lmul p W k x)→K v σ):zA Tryz.prog 191 [.ptr s 0,.int .i64 k,vx] σ K:=by
 obtain⟨wx,ax,rfl⟩:=hvx;exact Z8 hs hP o hx rfl hkb fun v=>hk _ ⟨_,_,by rw [show(lmul p W k x).length=n from(zJ o hx hx).1]⟩
noncomputable def conj (p:Int) (n:Nat) (W:List (List Int)) (B:List (List (List Int))) (x y:List Int):List Int:=fold p n W B [lmul p W (-1) y,x,y]
theorem zKR (z:Lz p n W B c) (hR:IsR vP vB W B) (hx:El p n x) (hy:El p n y) (hvx:FI vx x) (hvy:FI vy y) (hk:∀v,FI v (conj p n W B x y)→K v σ):
  zA Tryz.prog 186 [.agg [.int .i64 p,vP,vB],vx,vy] σ K:=by
 have o:=z.r.o;have q:=z.r.q;have h1:=hR.P.one;have h2:=hR.B.one;refine zA.gh ?_;refine zD mix Tryz.func186 ?_
 conv=>arg 2;cbv
 refine zF rfl ?_;simp only [pwA,seval,-iQ0,h1,h2];refine zL6 o hR hy hvy fun v1 f1=>?_
 simp only [pwA,seval,-iQ0,f1.one,f1.cells,hvx.one,hvx.cells,hvy.one,hvy.cells];refine zA.frz (s:=σ.next+1) (cs:=[v1,vx,vy]) (by simp only [pwA,seval,-iQ0]) ⟨f1.bel 0,hvx.bel 0,hvy.bel 0,trivial⟩ fun o1=>?_
 simp only [sbs,sb,capOK,and_self,if_true,decide_true,Nat.le_refl,hR.P.sb,hR.B.sb];refine zKP z hR (rows3 f1 hvx hvy) (els3 (zAL o hy) hx hy) (by simp) fun v hv=>?_
 simp only [pwA,seval,-iQ0];exact Gh.fin0 (((zC σ _).new _).kill (by omega)) (hv.bel _) (hk v hv)
end Go.Proofs
namespace Go.Proofs
open Go.Ab Go.Lie
variable {σ:PHeap} {K:PV→PHeap→Prop} {p:Int} {n c m k:Nat} {W:List (List Int)} {B:List (List (List Int))} {vP vB vL:PV} {s:Nat} {x y u v:List Int} {vx vy:PV} {xs:List (List Int)}
theorem zHo (f:Vec) (t:Nat):brv B n f f t=0:=by
 have:=zX (B:=B) (n:=n) f f t
 omega
theorem zAl (z:Lz p n W B c) (hx:El p n x) (hy:El p n y):El p n (comm p n W B x y):=Q6 z.r.o z.r.q (els4 (zAL z.r.o hx) (zAL z.r.o hy) hx hy)
def CodR (p:Int) (W:List (List Int)) (B:List (List (List Int))) (xs:List (List Int)) {α:Type} (nil val z:α) (c:Int):Prop:=
 (∃d,CodeL p W B xs d∧d≠0∧c=d∧z=nil)∨(CodeL p W B xs 0∧c=0∧z=val)
theorem CodR.unique {α:Type} {nil val z z':α} {c c':Int} (h:CodR p W B xs nil val z c) (g:CodR p W B xs nil val z' c'):z=z'∧c=c':=by
 rcases h with ⟨d,h1,h2,h3,h4⟩|⟨h1,h3,h4⟩<;>rcases g with ⟨d',g1,g2,g3,g4⟩|⟨g1,g3,g4⟩
 ·have:=h1.unique g1
  subst h4;subst g4;exact⟨rfl,by omega⟩
 ·exact absurd (h1.unique g1) h2
 ·exact absurd (g1.unique h1) g2
 ·subst h4;subst g4;exact⟨rfl,by omega⟩
end Go.Proofs
namespace Go.Proofs
open Go.Ab Go.Lie
variable {σ:PHeap} {K:PV→PHeap→Prop} {p:Int} {n c m k:Nat} {W:List (List Int)} {B:List (List (List Int))} {vP vB vL:PV} {s:Nat} {x y u v:List Int} {vx vy:PV} {xs:List (List Int)}
noncomputable def sumP (p:Int) (n:Nat) (W:List (List Int)) (B:List (List (List Int))) (x y:List Int):List Int:=
 fold p n W B [x,y,lmul p W (-1) (dv p n W 2 (comm p n W B x y)),dv p n W 12 (comm p n W B (comm p n W B x y) x),lmul p W (-1) (dv p n W 12 (comm p n W B (comm p n W B x y) y))]
noncomputable def brkP (p:Int) (n:Nat) (W:List (List Int)) (B:List (List (List Int))) (x y:List Int):List Int:=
 fold p n W B [comm p n W B x y,lmul p W (-1) (dv p n W 2 (comm p n W B (comm p n W B x y) x)),lmul p W (-1) (dv p n W 2 (comm p n W B (comm p n W B x y) y))]
end Go.Proofs
namespace Go.Proofs
open Go.Ab Go.Lie
variable {σ:PHeap} {K:PV→PHeap→Prop} {p:Int} {n c m k:Nat} {W:List (List Int)} {B:List (List (List Int))} {vP vB vL:PV} {s:Nat} {x y u v:List Int} {vx vy:PV} {xs:List (List Int)}
def adj (p:Int) (n:Nat) (W:List (List Int)) (B:List (List (List Int))) (y x:List Int):Nat→List Int
 | 0=>x
 | j+1=>br p W B n (adj p n W B y x j) y
def fact:Nat→Int
 | 0=>1
 | j+1=>fact j*(j+1:Nat)
noncomputable def cterm (p:Int) (n:Nat) (W:List (List Int)) (B:List (List (List Int))) (y x:List Int) (j:Nat):List Int:=dv p n W (fact j) (adj p n W B y x j)
theorem zPj (o:OkW p n W) (q:OkB p n B) (hx:El p n x):∀j,El p n (adj p n W B y x j)
 | 0=>hx
 | j+1=>br_el o q
end Go.Proofs
namespace Go.Grp
end Go.Grp
namespace Go.Proofs
open Go.Ab Go.Lie Go.Grp
variable {σ h h':PHeap} {K:PV→PHeap→Prop} {O:List Int} {P:List (List Int)} {C:List (List (List Int))} {vO vP vC vx vy vL v c x:PV} {xs:List (List Int)} {b m t:Nat} {cs ds:List PV}
theorem _root_.Go.Ab.Keep.keepOf2 {σ T h:PHeap} {rr:List PV} (k:Keep (T.new rr) h) (kp:Keep σ T):Keep σ h:=(kp.new rr).trans k
def PT (b:Nat) (h:PHeap) (v:PV) (m:Nat) (cs:List PV):Prop:=
 (v=.fz true .nils 0 []∧m=0∧cs=[])∨∃s off cap row,v=.sl s off m cap∧(cap=.grown 1∨∃c,cap=.known c∧m≤c∧off+c≤row.length)∧h.obj s=some row∧(row.drop off).take m=cs∧off+m≤row.length∧b≤s∧s<h.next
theorem PT.len (a:PT b h v m cs):cs.length=m:=by
 rcases a with ⟨_,rfl,rfl⟩|⟨s,off,cap,row,rfl,h1,h2,h3,h4,h5,h6⟩
 ·rfl
 ·rw [←h3,List.length_take,List.length_drop];omega
theorem PT.of (a:PSl b 1 h v m cs):PT b h v m cs:=by
 obtain⟨s,cap,rfl,h1,h2,h3,h4,h5⟩:=a;refine .inr ⟨s,0,cap,cs,rfl,?_,h2,by rw [List.drop_zero,List.take_of_length_le (by omega)],by omega,h4,h5⟩
 rcases h1 with rfl|rfl
 ·exact .inl rfl
 ·exact .inr ⟨m,rfl,Nat.le_refl _,by omega⟩
theorem PT.set (a:PT b h v m cs) (ht:t<b) (ds:List PV):PT b (h.set t ds) v m cs:=by
 rcases a with a|⟨s,off,cap,row,rfl,h1,h2,h3,h4,h5,h6⟩
 ·exact .inl a
 ·exact .inr ⟨s,off,cap,row,rfl,h1,by rw [zH,if_neg (by omega)];exact h2,h3,h4,h5,h6⟩
theorem PT.pLen (a:PT b h v m cs):pLen v=some (.int .i64 m):=by
 rcases a with ⟨rfl,rfl,_⟩|⟨s,off,cap,row,rfl,_⟩<;>rfl
theorem PT.unsnoc (a:PT b h v (m+1) (cs++[c])):∃s off cap v',v=.sl s off (m+1) cap∧h.rd1 s (off+m)=some c∧ZQ 1 v none (some (.int .i64 m)) none=some v'∧PT b h v' m cs:=by
 have hl:=a.len;rcases a with ⟨_,e,_⟩|⟨s,off,cap,row,rfl,h1,h2,h3,h4,h5,h6⟩
 ·cases e
 have hlen:cs.length=m:=by simpa using hl
 have e4:row[off+m]? = some c:=by
  have e:((row.drop off).take (m+1))[m]? = some c:=by
   rw [h3,List.getElem?_append_right (by omega),hlen,Nat.sub_self];rfl
  rw [List.getElem?_take_of_lt (by omega),List.getElem?_drop]at e
  exact e
 have e3:(row.drop off).take m=cs:=by
  have e:((row.drop off).take (m+1)).take m=cs:=by rw [h3,List.take_append_of_le_length (by omega),List.take_of_length_le (by omega)]
  rw [List.take_take,Nat.min_eq_left (by omega)]at e
  exact e
 have hz:(m:Int)≤((m+1:Nat):Int):=by omega
 rcases h1 with rfl|⟨k,rfl,hk1,hk2⟩
 ·refine⟨s,off,_,.sl s off m (.grown 1),rfl,by rw [zI h2];exact e4,?_,.inr ⟨s,off,_,row,rfl,.inl rfl,h2,e3,by omega,h5,h6⟩⟩
  simp only [pwA,seval,-iQ0,hz]
  rfl
 ·have hmk:(m:Int)≤(k:Int):=by omega
  refine⟨s,off,_,.sl s off m (.known k),rfl,by rw [zI h2];exact e4,?_,.inr ⟨s,off,_,row,rfl,.inr ⟨k,rfl,by omega,hk2⟩,h2,e3,by omega,h5,h6⟩⟩
  simp only [pwA,seval,-iQ0,hz,hmk];rw [if_pos (show m≤k by omega)]
  simp
theorem PT.push {σb:PHeap} {bytes:Nat} {K:PV×PHeap→Prop} (hx1:x.one=true) (hk:Keep σb h) (a:PT σb.next h v m cs)
  (h1:(m+1)*bytes≤140737488355328) (h2:m+1≤4611686018427387904) (k:∀v' h',Keep σb h'→PT σb.next h' v' (m+1) (cs++[x])→K (v',h')):optK (qW 1 bytes (h.new [x]) v (.sl h.next 0 1 (.known 1))) K:=by
 have hl:=a.len;rcases a with ⟨rfl,rfl,rfl⟩|⟨s,off,cap,row,rfl,q1,q2,q3,q4,q5,q6⟩
 ·exact PAcc.push hk (PAcc.nil _ _ _) h1 h2 fun v' h' k1 k2=>k v' h' k1 (.of k2)
 rw [Qn];have hp:Zj 1 (h.new [x]) (.sl h.next 0 1 (.known 1)) 1=some [x]:=by simp [Qd,Qz]
 have hobj:(h.new [x]).obj s=some row:=by simp only [PHeap.new];rw [if_neg (by omega)];exact q2
 have hn:=hk.next;simp only [plen,Option.bind_some];rw [if_neg (by omega),hp]
 simp only [Option.bind_some];rcases q1 with rfl|⟨c,rfl,c1,c2⟩
 ·rw [zAD,if_pos ⟨h1,h2,rfl⟩,hobj]
  simp only [Option.bind_some];rw [if_pos (by omega),Nat.mul_one,q3]
  refine ZF rfl (k _ _ (((hk.new _).kill (by omega)).new _) (.inr ⟨(h.new [x]).next,0,_,cs++[x],rfl,.inl rfl,by simp [PHeap.new,PHeap.kill],?_,by simp [hl],by simp [PHeap.new];omega,by simp [PHeap.new,PHeap.kill]⟩))
  rw [List.drop_zero,List.take_of_length_le (by simp [hl])]
 ·rw [zAC]
  by_cases hc:m+1≤c
  ·rw [if_pos hc,Nat.mul_one,zn hobj,if_pos ⟨by simp;omega,by simp [hx1]⟩]
   simp only [Option.map_some,List.length_singleton];refine ZF rfl (k _ _ ((hk.new _).set q5 _) (.inr ⟨s,off,_,_,rfl,.inr ⟨c,rfl,hc,?_⟩,by rw [zH,if_pos rfl],?_,?_,q5,Nat.lt_succ_of_lt q6⟩))
   ·simp;omega
   ·have e1:(row.take (off+m)).length=off+m:=by simp;omega
    rw [List.append_assoc,List.drop_append_of_le_length (by omega),List.take_append,show((row.take (off+m)).drop off).length=m by simp;omega]
    have e2:(row.take (off+m)).drop off=cs:=by
     rw [←q3,List.drop_take];congr 1;omega
    rw [e2,List.take_of_length_le (by omega),show m+1-m=1 by omega]
    simp
   ·simp;omega
  ·rw [if_neg hc,if_pos ⟨h1,h2⟩,zi hobj,if_pos (by omega),Nat.mul_one,q3]
   simp only [Option.map_some];refine ZF rfl (k _ _ ((hk.new _).new _) (.inr ⟨(h.new [x]).next,0,_,cs++[x],rfl,.inl rfl,by simp [PHeap.new],?_,by simp [hl],by simp [PHeap.new];omega,by simp [PHeap.new]⟩))
   rw [List.drop_zero,List.take_of_length_le (by simp [hl])]
theorem zMA (hL:FII vL xs) (sz:SzL xs) (hk:∀v h' rows,Keep σ h'→PT σ.next h' v xs.length rows→All2 FI rows xs→K v h'):zA Tryz.prog 180 [vL] σ K:=by
 have hb:=sz.l;obtain⟨wl,al,rl,rfl,hrl⟩:=hL;refine zD mix Tryz.func180 ?_
 conv=>arg 2;cbv
 refine zF rfl ?_;simp only [pwA,seval,-iQ0];refine zG (fun m vs h'=>∃i v rows,i≤xs.length∧m=xs.length-i∧vs=[.fz wl al xs.length rl,v,.int .i64 (i:Nat)]∧Keep σ h'∧PSl σ.next 1 h' v i rows∧All2 FI rows (xs.take i)) xs.length ?_ ?_
 ·exact⟨0,_,[],by omega,by omega,rfl,zC σ _,PSl.new σ.next 1 rfl (Nat.le_refl _),by simpa using All2.nil _⟩
 ·rintro m vs h' ⟨i,v,rows,hi,rfl,rfl,hkp,ha,hall⟩
  simp only [pwA,seval,-iQ0];refine iteI (fun hlt=>?_) fun hge=>?_
  ·obtain⟨w4,a4,hrk⟩:=hrl.rowI hlt
   simp only [pwA,seval,-iQ0,hlt,hrk];refine zA.fz (e:=1) (fun K'=>Zr rfl (by have:=sz.r _ (List.getElem_mem hlt);omega)) (zN _ _) fun o cap=>?_
   simp only [pwA,seval,-iQ0];refine PSl.push (bytes:=24) (σb:=σ) hkp ha (by omega) (by omega) fun v2 h2 k2 a2=>?_
   simp only [pwA,seval,-iQ0,wrapS hlt (by omega:xs.length≤4611686018427387904)]
   refine⟨_,by omega,i+1,v2,_,by omega,rfl,rfl,k2,a2,?_⟩
   rw [List.take_succ_eq_append_getElem hlt];exact hall.snoc ⟨_,_,rfl⟩
  ·have hie:i=xs.length:=by omega
   subst hie;rw [List.take_length]at hall
   exact hk _ _ rows hkp (.of ha) hall
theorem zEp {x:List Int} {vx:PV} (g:LG O P C) (hR:IsPr vO vP vC O P C) (hx:gS O x) (hvx:FI vx x) {k:Int} (hk0:-1000≤k∧k<0) (hk:∀v,FI v (Grp.pw (gm O P C) (zv O) (ginv (gS O) (gm O P C) (zv O) x) (-k).toNat)→K v σ):
  zA Tryz.prog 182 [.agg [vO,vP,vC],vx,.int .i64 k] σ K:=by
 have h0:=hR.O.one;have h1:=hR.P.one;have h2:=hR.C.one;have M:=g.F.g.toMon;have hk1:k<0:=hk0.2;have hkw:IntKind.i64.wrap (0-k)=-k:=by rw [wrap64 (by omega) (by omega)];omega
 refine zA.gh ?_;refine zD mix Tryz.func182 ?_
 conv=>arg 2;cbv
 refine zF rfl ?_;simp only [pwA,seval,-iQ0,h0,h1,h2,hk1];refine zFy g.s g.co hR hx hvx fun v hv=>?_
 simp only [pwA,seval,-iQ0,h0,h1,h2,hkw];refine zCq g.s (d:=O.length) (i:=0) (by omega) (zA2 g.s (by omega)) M hR (g.F.g.inv_in hx).1 hv (by omega) fun v hv=>?_
 simp only [pwA,seval,-iQ0];exact Gh.fin0 (zC σ _) (hv.bel _) (hk v hv)
end Go.Proofs
