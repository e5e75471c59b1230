/- A drawn ring, Lie or not: the walk. -/
import Derived.Test.YtcbdjookdepkbaaGreatAP31
import Derived.Test.YtcbdjookdepkbaaGreatAAbPa
import Derived.Test.YtcbdjookdepkbaaGreatAP35
import Derived.Test.YtcbdjookdepkbaaGreatAP29
import Derived.Test.YtcbdjookdepkbaaGreatAP33
import Derived.Test.YtcbdjookdepkbaaGreatAAbPz
import Derived.Test.YtcbdjookdepkbaaGreatAAbPm
open Int renaming reduceNatCast'→iQ0
set_option maxRecDepth 100000
set_option linter.unusedSimpArgs false
set_option linter.unusedVariables false
namespace Go.Proofs
open Go.Ab Go.Lie
variable {σ:PHeap} {K:PV→PHeap→Prop} {n:Nat} {p:Int}
structure LS where
 s:Nat
 cap:Cap
 cs:List PV
def LS.pv (q:LS):PV:=.sl q.s 0 q.cs.length q.cap
def LS.ok (h:PHeap) (b:Nat) (q:LS):Prop:=full 1 q.cap q.cs.length∧h.obj q.s=some q.cs∧b≤q.s∧q.s<h.next
theorem LS.ok.move {h h2:PHeap} {b:Nat} {q:LS} (a:q.ok h b) (ho:h2.obj q.s=h.obj q.s) (hn:h.next≤h2.next):q.ok h2 b:=⟨a.1,by rw [ho];exact a.2.1,a.2.2.1,Nat.lt_of_lt_of_le a.2.2.2 hn⟩
theorem zL8 {b e m:Nat} {h:PHeap} {v:PV} {cs:List PV} (a:PAcc b e h v m cs) {s off l:Nat} {c:Cap} (hv:v=.sl s off l c):s<h.next:=by
 rcases a with ⟨rfl,_⟩|⟨s',cap,rfl,h1,h2',h3,h4,h5⟩
 ·cases hv
 ·cases hv;exact h5
variable {h:PHeap} {p0 sO:Nat} {vO vP vC:PV} {cO pc:List PV} {ls:List (Option LS)}
end Go.Proofs
namespace Go.Grp
end Go.Grp
namespace Go.Proofs
open Go.Ab Go.Lie Go.Grp
variable {p:Int} {n c a:Nat} {W:List (List Int)} {B:List (List (List Int))} {x y:List Int} {f g:Vec}
theorem zFr (o:OkW p n W) (hx:El p n x) (k l:Int):lmul p W k (lmul p W l x)=lmul p W (k*l) x:=by
 have hy:El p n (lmul p W l x):=zO o hx hx;refine qi o (zO o hy hy).1 (zO o hx hx).1 (zO o hy hy).2 (zO o hx hx).2 ?_;refine(Qa o hy k).trans (((Qa o hx l).mul k).trans (Eqv.trans (Eqv.of_eq fun j=>?_) (Qa o hx (k*l)).symm))
 rw [Int.mul_assoc]
theorem zLD (o:OkW p n W) (hx:El p n x):lmul p W 1 x=x:=by
 refine qi o (zO o hx hx).1 hx.1 (zO o hx hx).2 hx.2 ?_;exact(Qa o hx 1).trans (Eqv.of_eq fun j=>by simp)
end Go.Proofs
namespace Go.Grp
end Go.Grp
namespace Go.Proofs
open Go.Ab Go.Lie Go.Grp
variable {p:Int} {n c a:Nat} {W:List (List Int)} {B:List (List (List Int))} {x y:List Int} {f g:Vec}
theorem zC2 (p:Int):∀n,ipow p n=p ^ n
 | 0=>by simp [ipow]
 | n+1=>by rw [Int.pow_succ,←zC2 p n];simp only [ipow];try rw [Int.mul_comm]
end Go.Proofs
namespace Go.Proofs
open Go.Ab Go.Lie
variable {σ H h:PHeap} {K:PV→PHeap→Prop} {n c:Nat} {p:Int} {W:List (List Int)} {B:List (List (List Int))} {vP vB:PV} {s:Nat}
theorem zAV {i j:Nat} (hi:i<n):at_ (unitL n i) j=if j=i then 1 else 0:=by
 unfold unitL;rw [at_set (by simp;exact hi),qR]
variable {T:PHeap} {p0:Nat} {fs:List (PV×List PV)} {ls:List LS}
theorem zA8 {b e m:Nat} {h h2:PHeap} {v:PV} {cs:List PV} (a:PSl b e h v m cs) (ho:∀s off l c,v=.sl s off l c→h2.obj s=h.obj s) (hn:h.next≤h2.next):PSl b e h2 v m cs:=by
 obtain⟨s,cap,rfl,h1,h2',h3,h4,h5⟩:=a;exact⟨s,cap,rfl,h1,by rw [ho s 0 _ cap rfl];exact h2',h3,h4,Nat.lt_of_lt_of_le h5 hn⟩
theorem zAH {b e m:Nat} {h:PHeap} {v:PV} {cs:List PV} (a:PSl b e h v m cs) {s off l:Nat} {c:Cap} (hv:v=.sl s off l c):s<h.next:=zL8 a.acc hv
theorem zAb:∀cs:List PV,TR.pvs (cs.map TR.leaf)=cs
 | []=>rfl
 | c::cs=>by simp only [List.map_cons,TR.pvs,TR.pv,zAb cs]
theorem zAd {a:Nat→Nat}:∀cs:List PV,TR.fzs a (cs.map TR.leaf)=cs
 | []=>rfl
 | c::cs=>by simp only [List.map_cons,TR.fzs,TR.fz,zAd cs]
theorem zAc {b:Nat}:∀{cs:List PV},Bels 0 cs→TR.okFs h b (cs.map TR.leaf)
 | [],_=>trivial
 | c::cs,hb=>⟨hb.1,zAc hb.2⟩
def LS.tr (q:LS):TR:=.lst q.s q.cap (q.cs.map TR.leaf)
theorem LS.tr_pvs:∀ls:List LS,TR.pvs (ls.map LS.tr)=ls.map LS.pv
 | []=>rfl
 | q::ls=>by simp only [List.map_cons,TR.pvs,LS.tr_pvs ls];simp only [LS.tr,TR.pv,List.length_map,LS.pv]
theorem LS.tr_okF {b:Nat} {q:LS} (h1:q.ok h b) (h2:Bels 0 q.cs):(LS.tr q).okF h b:=⟨⟨by rw [List.length_map];exact h1.1,by rw [zAb];exact h1.2.1,h1.2.2.1,h1.2.2.2⟩,zAc h2⟩
theorem LS.trs_okF {b:Nat}:∀{ls:List LS},(∀q,q∈ls→q.ok h b∧Bels 0 q.cs)→TR.okFs h b (ls.map LS.tr)
 | [],_=>trivial
 | q::ls,k=>⟨LS.tr_okF (k q (List.mem_cons_self ..)).1 (k q (List.mem_cons_self ..)).2,LS.trs_okF fun q' hq=>k q' (List.mem_cons_of_mem _ hq)⟩
def zKO (ls:List LS) (Ms:List (List (List Int))):Prop:=All2 (fun(q:LS) (R:List (List Int))=>All2 FI q.cs R) ls Ms
theorem zCQ {a:Nat→Nat} {ls:List LS} {Ms:List (List (List Int))} (k:zKO ls Ms):All2 FII (TR.fzs a (ls.map LS.tr)) Ms:=by
 have hl:∀ls:List LS,(TR.fzs a (ls.map LS.tr)).length=ls.length:=fun ls=>by rw [TR.fzs_length,List.length_map]
 have hg:∀(ls:List LS) (i:Nat),(TR.fzs a (ls.map LS.tr))[i]? = ls[i]?.map fun q=>(LS.tr q).fz a:=by
  intro ls
  induction ls with
  | nil=>intro i;simp [TR.fzs]
  | cons q ls ih=>
   intro i;cases i with
   | zero=>simp [TR.fzs]
   | succ i=>simpa [TR.fzs]using ih i
 refine⟨by rw [hl];exact k.1,fun i c R hc hR=>?_⟩
 rw [hg]at hc
 obtain⟨q,hq,rfl⟩:=Option.map_eq_some_iff.1 hc;have h2:=k.2 i q R hq hR;exact⟨true,.sl (a q.s) 0 q.cs.length q.cap,q.cs,by simp only [LS.tr,TR.fz,zAd,List.length_map];rw [h2.1],h2⟩
end Go.Proofs
namespace Go.Proofs
open Go.Ab Go.Lie
variable {p:Int} {n n':Nat} {W W':List (List Int)} {B B':List (List (List Int))} {im u w:List (List Int)} {f g f' g':Vec}
theorem Qe (hl:im.length=n) (c:Vec) (j:Nat):comb c im j=sumN n fun k=>c k*at_ (im.getD k []) j:=by unfold comb;rw [hl]
theorem qw {c d:Vec} (h:∀j,c j=d j) (j:Nat):comb c im j=comb d im j:=by rw [show c=d from funext h]
theorem QC (j:Nat):comb (fun _=>0) im j=0:=qG _ fun k _=>Int.zero_mul _
theorem zAh (F:Nat→Vec) (j:Nat):∀m,comb (fun k=>sumN m fun i=>F i k) im j=sumN m fun i=>comb (F i) im j
 | 0=>QC j
 | m+1=>by
  simp only [sumN];rw [Qf,zAh F j m]
theorem zBK {F G:Nat→Vec}:∀{m:Nat},(∀k,k<m→Eqv p n W (F k) (G k))→Eqv p n W (fun j=>sumN m fun k=>F k j) fun j=>sumN m fun k=>G k j
 | 0,_=>Eqv.refl _
 | m+1,h=>(zBK (m:=m) fun k hk=>h k (by omega)).add (h m (by omega))
theorem zEo (he:Els p n' im) (c:List Int):∀{i:Nat},i≤im.length→∀j,at_ (csum im c n' i) j=sumN i fun k=>at_ c k*at_ (im.getD k []) j
 | 0,_,j=>by rw [csum,qR];rfl
 | i+1,hi,j=>by
  rw [csum,Zr (by rw [zm he (by omega),(im_el he (by omega)).1]),zEo he c (by omega) j]
  rfl
structure Mp (p:Int) (n:Nat) (W:List (List Int)) (B:List (List (List Int))) (n':Nat) (W':List (List Int)) (B':List (List (List Int))) (im:List (List Int)):Prop where
 o:OkW p n W
 q:OkB p n B
 nf:Zj p W B n
 o':OkW p n' W'
 q':OkB p n' B'
 nf':Zj p W' B' n'
 el:Els p n' im
 len:im.length=n
 fit:∀i,i<n→lmul p W' p (im.getD i [])=img p W' im (W.getD i [])∧∀k,k<n-1-i→br p W' B' n' (im.getD i []) (im.getD (i+(1+k)) [])=img p W' im ((B.getD i []).getD k [])
section
variable (m:Mp p n W B n' W' B' im)
include m
theorem Mp.imel {i:Nat} (hi:i<n):El p n' (im.getD i []):=im_el m.el (by rw [m.len];exact hi)
theorem Mp.img_eqv {c:List Int} (hc:c.length=n):Eqv p n' W' (at_ (img p W' im c)) (comb (at_ c) im):=by
 have hl:(csum im c n' c.length).length=n':=zm m.el (by rw [hc,m.len];exact Nat.le_refl _)
 have e:W'.length=n':=m.o'.len;unfold img;rw [e];refine(zh m.o' hl).trans (Eqv.of_eq fun j=>?_)
 rw [zEo m.el c (by rw [hc,m.len];exact Nat.le_refl _) j,Qe m.len,hc]
theorem Mp.pw {i:Nat} (hi:i<n):Eqv p n' W' (fun j=>p*at_ (im.getD i []) j) (comb (at_ (W.getD i [])) im):=by
 have h:=(m.fit i hi).1;have e1:=(ZL m.o' (m.imel hi) p).2;have hc:(W.getD i []).length=n:=by
  have hi':i<W.length:=by rw [m.o.len];exact hi
  rw [qW hi'];exact(zBY m.o hi').1
 have e2:=m.img_eqv hc;rw [←h]at e2
 exact e1.symm.trans e2
theorem Mp.rel {i:Nat} (hi:i<n):Eqv p n' W' (comb (rel p W i) im) fun _=>0:=by
 have e:∀j,comb (Go.Lie.rel p W i) im j=comb (at_ (W.getD i [])) im j + -1*(p*at_ (im.getD i []) j):=fun j=>by
  have h1:∀k,Go.Lie.rel p W i k=at_ (W.getD i []) k + -1*(if k=i then p else 0):=fun k=>by unfold Go.Lie.rel w_;omega
  rw [qw h1,Qf,ZV,Qe m.len (fun k=>if k=i then p else 0),ZG hi (fun k _ hk=>by rw [if_neg hk,Int.zero_mul])]
  rw [if_pos rfl]
 refine(Eqv.of_eq e).trans (((m.pw hi).symm.add (Eqv.refl _)).trans (Eqv.of_eq fun j=>?_))
 omega
theorem Mp.eqv (h:Eqv p n W f g):Eqv p n' W' (comb f im) (comb g im):=by
 obtain⟨c,hc⟩:=h;have e:∀j,comb f im j=comb g im j+sumN n fun i=>c i*comb (Go.Lie.rel p W i) im j:=fun j=>by
  rw [qw hc,Qf,zAh]
  congr 1
  exact zQ fun i _=>ZV _ _ _ _
 refine(Eqv.of_eq e).trans (((Eqv.refl _).add (zBK (G:=fun _ _=>0) fun i hi=>((m.rel hi).mul (c i)).trans (Eqv.of_eq fun t=>Int.mul_zero _))).trans (Eqv.of_eq fun j=>?_))
 rw [qG _ (fun _ _=>rfl)]
 exact Int.add_zero _
theorem Mp.ee_lt {i j:Nat} (hij:i<j) (hj:j<n):Eqv p n' W' (comb (brv B n (at_ (unitL n i)) (at_ (unitL n j))) im) (brv B' n' (at_ (im.getD i [])) (at_ (im.getD j []))):=by
 have h:=(m.fit i (by omega)).2 (j-i-1) (by omega)
 rw [show i+(1+(j-i-1))=j by omega]at h
 have e1:=zBw m.o' m.q' (im.getD i []) (im.getD j []);have hq:=(qE_el m.q hij hj).1;have e2:=m.img_eqv hq.1;have h2:br p W' B' n' (im.getD i []) (im.getD j [])=img p W' im (qE B i j):=h;rw [←h2]at e2
 exact(Eqv.of_eq fun t=>qw (fun k=>zM7 hij hj k) t).trans (e2.symm.trans e1)
theorem Mp.ee {i j:Nat} (hi:i<n) (hj:j<n):Eqv p n' W' (comb (brv B n (at_ (unitL n i)) (at_ (unitL n j))) im) (brv B' n' (at_ (im.getD i [])) (at_ (im.getD j []))):=by
 rcases Nat.lt_trichotomy i j with h|h|h
 ·exact m.ee_lt h hj
 ·subst h
  refine Eqv.of_eq fun t=>?_
  rw [zGJ,qw (fun k=>zGJ _ k),QC]
 ·refine(Eqv.of_eq fun t=>?_).trans (((m.ee_lt h hi).mul (-1)).trans (Eqv.of_eq fun t=>(zi _ _ t).symm))
  rw [←ZV];exact qw (fun k=>zi _ _ k) t
theorem Mp.brU {i:Nat} (hi:i<n) (g:Vec):Eqv p n' W' (comb (brv B n (at_ (unitL n i)) g) im) (brv B' n' (at_ (im.getD i [])) (comb g im)):=by
 have e1:∀j,comb (brv B n (at_ (unitL n i)) g) im j=sumN n fun k=>g k*comb (brv B n (at_ (unitL n i)) (at_ (unitL n k))) im j:=fun j=>by
  rw [qw (fun t=>zEq g (at_ (unitL n i)) t),zAh]
  exact zQ fun k _=>ZV _ _ _ _
 have e2:∀j,brv B' n' (at_ (im.getD i [])) (comb g im) j=sumN n fun k=>g k*brv B' n' (at_ (im.getD i [])) (at_ (im.getD k [])) j:=fun j=>by
  rw [zDw (fun _=>rfl) (fun t=>Qe m.len g t) j,zLa]
  exact zQ fun k _=>zGK _ _ _ _
 exact(Eqv.of_eq e1).trans ((zBK fun k hk=>(m.ee hi hk).mul (g k)).trans (Eqv.of_eq fun j=>(e2 j).symm))
theorem Mp.brv (f g:Vec):Eqv p n' W' (comb (brv B n f g) im) (brv B' n' (comb f im) (comb g im)):=by
 have e1:∀j,comb (Go.Proofs.brv B n f g) im j=sumN n fun k=>f k*comb (Go.Proofs.brv B n (at_ (unitL n k)) g) im j:=fun j=>by
  rw [qw (fun t=>zIs f g t),zAh]
  exact zQ fun k _=>ZV _ _ _ _
 have e2:∀j,Go.Proofs.brv B' n' (comb f im) (comb g im) j=sumN n fun k=>f k*Go.Proofs.brv B' n' (at_ (im.getD k [])) (comb g im) j:=fun j=>by
  rw [zDw (fun t=>Qe m.len f t) (fun _=>rfl) j,zAD]
  exact zQ fun k _=>Zh _ _ _ _
 exact(Eqv.of_eq e1).trans ((zBK fun k hk=>(m.brU hk g).mul (f k)).trans (Eqv.of_eq fun j=>(e2 j).symm))
theorem Mp.shut (hf:Gen p n' W' im f') (hg:Gen p n' W' im g'):Gen p n' W' im (Go.Proofs.brv B' n' f' g'):=by
 obtain⟨c,hc⟩:=hf;obtain⟨d,hd⟩:=hg;refine(zK im).eqv _ _ ((zCD m.o' m.q' m.nf' g' hc).trans ((zDC m.o' m.q' m.nf' _ hd).trans (m.brv c d).symm)) ⟨_,Eqv.refl _⟩
end
end Go.Proofs
namespace Go.Proofs
open Go.Ab Go.Lie
variable {p:Int} {n n' P:Nat} {W W':List (List Int)} {B B':List (List (List Int))} {im u u' w out:List (List Int)} {f g f' g':Vec} {x y z:List Int}
theorem zCM {α:Type} [BEq α] [LawfulBEq α]:∀{a b:List α},a.Nodup→(∀x∈a,x∈b)→b.length≤a.length→a.Perm b
 | [],b,_,_,hl=>by rw [List.length_eq_zero_iff.1 (Nat.le_zero.1 hl)]
 | x::a,b,hn,hs,hl=>by
  rw [List.nodup_cons]at hn
  have hx:x∈b:=hs x (by simp)
  refine(List.Perm.cons x (zCM (b:=b.erase x) hn.2 (fun y hy=>?_) ?_)).trans (List.perm_cons_erase hx).symm
  ·exact(List.mem_erase_of_ne (fun e=>hn.1 (by rw [←e];exact hy))).2 (hs y (by simp [hy]))
  ·rw [List.length_erase_of_mem hx]
   simp only [List.length_cons]at hl
   omega
theorem zGD (hP:0<P):∀{m a b:Nat},a<P ^ m→b<P ^ m→digs P m a=digs P m b→a=b
 | 0,a,b,ha,hb,_=>by simp at ha hb;omega
 | m+1,a,b,ha,hb,e=>by
  rw [digs,digs]at e
  obtain⟨e1,e2⟩:=List.append_inj e (by rw [qo,qo])
  have h2:(a % P:Nat)=b % P:=by
   have:=(List.cons.inj e2).1
   omega
  have lt:∀{a},a<P ^ (m+1)→a / P<P ^ m:=fun h=>by rw [Nat.pow_succ]at h;exact Nat.div_lt_of_lt_mul (by rw [Nat.mul_comm];exact h)
  have h1:=zGD hP (lt ha) (lt hb) e1;rw [←Nat.div_add_mod a P,←Nat.div_add_mod b P,h1,h2]
theorem zDy (hP:0<P) (m:Nat):(allE P m).Nodup:=by
 unfold allE List.Nodup;rw [List.pairwise_map];refine List.Pairwise.imp_of_mem (R:=fun a b=>a≠b) (fun {a b} ha hb hne e=>hne (zGD hP (List.mem_range.1 ha) (List.mem_range.1 hb) e)) List.nodup_range
theorem zBq (o:OkW p n W) (hx:El p n x) (hy:El p n y) (h:Eqv p n W (at_ x) (at_ y)):x=y:=qi o hx.1 hy.1 hx.2 hy.2 h
theorem zAr (o:OkW p n W):El p n (List.replicate n 0):=⟨by simp,fun x hx=>by
 have:=o.pr.1
 rw [List.eq_of_mem_replicate hx];omega⟩
theorem zMS (o:OkW p n W) (hb:Base p n W out) (hl:out.length=n) (hz:El p n z):Gen p n W out (at_ z):=by
 refine(zD9 o hb hz).1 fun j=>?_
 have hel:=ZA o hb.els hz;have hs:=zER (b:=List.range n) (a:=out.map dep) hb.deps List.pairwise_lt_range fun d hd=>by
  obtain⟨v,hv,rfl⟩:=List.mem_map.1 hd;exact List.mem_range.2 (hb.led v hv).2.1
 have he:=hs.2 (by simp [hl])
 rcases Nat.lt_or_ge (dep (redL p W out z)) n with hd|hd
 ·have hm:dep (redL p W out z)∈out.map dep:=by rw [he];exact List.mem_range.2 hd
  obtain⟨v,hv,ev⟩:=List.mem_map.1 hm
  have:=(QZ o hb.led hb.asc hz).1 v hv
  rw [ev]at this
  exact absurd this (ZF (by rw [hel.1];exact hd))
 ·rcases Nat.lt_or_ge j n with g | g
  ·exact za (by omega)
  ·exact hel.beyond g
section
variable (m:Mp p n W B n' W' B' im)
include m
theorem Mp.phi_el (hx:x.length=n):El p n' (img p W' im x):=QA m.o' (by rw [m.o'.len];exact zm m.el (by rw [hx,m.len];exact Nat.le_refl _))
theorem Mp.phi_zero:img p W' im (List.replicate n 0)=List.replicate n' 0:=
 zBq m.o' (m.phi_el (by simp)) (zAr m.o') ((m.img_eqv (by simp)).trans (Eqv.of_eq fun j=>by rw [qw (fun k=>qR n k),QC,qR]))
theorem Mp.phi_mul (hx:El p n x) (k:Int):lmul p W' k (img p W' im x)=img p W' im (lmul p W k x):=by
 have h1:=ZL m.o hx k;have h2:=ZL m.o' (m.phi_el hx.1) k;refine zBq m.o' h2.1 (m.phi_el h1.1.1) (h2.2.trans ((((m.img_eqv hx.1).mul k).trans (Eqv.of_eq fun j=>(ZV k _ _ j).symm)).trans ((m.eqv h1.2).symm.trans (m.img_eqv h1.1.1).symm)))
theorem Mp.sur (hc:Canon p n' W' im out) (hl:out.length=n') (hz:El p n' z):∃x,El p n x∧img p W' im x=z:=by
 obtain⟨c,hc'⟩:=(hc.gen _).2 (zMS m.o' hc.base hl hz);have hn:(norm p W (tab n c)).length=n:=zw m.o (ZO c);refine⟨norm p W (tab n c),QA m.o (ZO c),zBq m.o' (m.phi_el hn) hz ((m.img_eqv hn).trans ((m.eqv (zh m.o (ZO c))).trans (Eqv.trans (Eqv.of_eq fun j=>?_) hc'.symm)))⟩
 rw [Qe m.len,Qe m.len];refine zQ fun k hk=>?_
 have e:at_ (tab n c) k=c k:=by
  unfold tab;rw [at_eq (by simpa using hk)]
  simp
 rw [e]
theorem Mp.perm (hp:p=(P:Int)) (hP:0<P) (hnn:n=n') (hc:Canon p n' W' im out) (hl:out.length=n'):((allE P n).map (img p W' im)).Perm (allE P n'):=by
 subst hp;refine(zCM (zDy hP n') (fun z hz=>?_) ?_).symm
 ·obtain⟨x,hx,e⟩:=m.sur hc hl (zBy hP hz)
  exact List.mem_map.2 ⟨x,zGA hP hx,e⟩
 ·rw [List.length_map,qZ,qZ,hnn]
  exact Nat.le_refl _
theorem Mp.inj (hp:p=(P:Int)) (hP:0<P) (hnn:n=n') (hc:Canon p n' W' im out) (hl:out.length=n') (hx:El p n x) (hy:El p n y) (e:img p W' im x=img p W' im y):x=y:=by
 have h:=(m.perm hp hP hnn hc hl).nodup_iff.2 (zDy hP n');unfold List.Nodup at h
 rw [List.pairwise_map]at h
 subst hp;rcases QI h (zGA hP hx) (zGA hP hy)with q|q|q
 ·exact q
 ·exact absurd e q
 ·exact absurd e.symm q
theorem Mp.count (hp:p=(P:Int)) (hP:0<P) (hnn:n=n') (hc:Canon p n' W' im out) (hl:out.length=n') (k:Int):
  ((allE P n).filter fun x=>lmul p W k x == List.replicate n 0).length=((allE P n').filter fun x=>lmul p W' k x == List.replicate n' 0).length:=by
 have h1:=((m.perm hp hP hnn hc hl).filter fun x=>lmul p W' k x == List.replicate n' 0).length_eq
 rw [←h1,List.filter_map,List.length_map]
 congr 1
 refine List.filter_congr fun x hx=>?_
 have hx':El p n x:=by subst hp;exact zBy hP hx
 have hk:=(ZL m.o hx' k).1
 show(lmul p W k x == _)=(lmul p W' k (img p W' im x) == _)
 rw [m.phi_mul hx' k,←m.phi_zero];rw [Bool.eq_iff_iff,beq_iff_eq,beq_iff_eq];exact⟨fun e=>by rw [e],fun e=>m.inj hp hP hnn hc hl hk (zAr m.o) e⟩
def Corr (p:Int) (n:Nat) (W:List (List Int)) (n':Nat) (W' im u u':List (List Int)):Prop:=(∀f,Gen p n W u f→Gen p n' W' u' (comb f im))∧∀f',Gen p n' W' u' f'→∃f,Gen p n W u f∧Eqv p n' W' f' (comb f im)
theorem Mp.corr_step (h:Corr p n W n' W' im u u') (hw:Corr p n W n' W' im (units n) (units n')):Corr p n W n' W' im (brL p W B n u (units n)) (brL p W' B' n' u' (units n')):=by
 have s1:IsSub p n W fun f=>Gen p n' W' (brL p W' B' n' u' (units n')) (comb f im):=by
  have q:=zK (p:=p) (n:=n') (W:=W') (brL p W' B' n' u' (units n'));exact⟨q.eqv _ _ (Eqv.of_eq fun j=>QC j) q.zero,fun f g hf hg=>q.eqv _ _ (Eqv.of_eq fun j=>Qf f g im j) (q.add _ _ hf hg),fun k f hf=>q.eqv _ _ (Eqv.of_eq fun j=>ZV k f im j) (q.mul k _ hf),fun f g e hg=>q.eqv _ _ (m.eqv e) hg⟩
 have s2:IsSub p n' W' fun f'=>∃f,Gen p n W (brL p W B n u (units n)) f∧Eqv p n' W' f' (comb f im):=by
  have q:=zK (p:=p) (n:=n) (W:=W) (brL p W B n u (units n));exact⟨⟨_,q.zero,Eqv.of_eq fun j=>(QC j).symm⟩,fun f' g' ⟨f,hf,ef⟩ ⟨g,hg,eg⟩=>⟨_,q.add _ _ hf hg,(ef.add eg).trans (Eqv.of_eq fun j=>(Qf f g im j).symm)⟩,fun k f' ⟨f,hf,ef⟩=>⟨_,q.mul k _ hf,(ef.mul k).trans (Eqv.of_eq fun j=>(ZV k f im j).symm)⟩,fun f' g' e ⟨g,hg,eg⟩=>⟨g,hg,e.trans eg⟩⟩
 refine⟨fun f hf=>zBo s1 (fun v hv=>?_) hf,fun f' hf'=>zBo s2 (fun v hv=>?_) hf'⟩
 ·obtain⟨x,hx,y,hy,rfl⟩:=zCE.1 hv
  refine(zK _).eqv _ _ ((m.eqv (zBw m.o m.q x y)).trans (m.brv _ _)) (zHk m.o' m.q' m.nf' (h.1 _ (zM hx)) (hw.1 _ (zM hy)))
 ·obtain⟨x,hx,y,hy,rfl⟩:=zCE.1 hv
  obtain⟨f,hf,ef⟩:=h.2 _ (zM hx);obtain⟨g,hg,eg⟩:=hw.2 _ (zM hy);exact⟨_,zHk m.o m.q m.nf hf hg,(zBw m.o' m.q' x y).trans ((zCD m.o' m.q' m.nf' _ ef).trans ((zDC m.o' m.q' m.nf' _ eg).trans (m.brv f g).symm))⟩
end
end Go.Proofs
namespace Go.Proofs
open Go.Ab Go.Lie
variable {p p':Int} {n n' P k c d:Nat} {W W':List (List Int)} {B B':List (List (List Int))} {im u u' w out:List (List Int)} {f g f' g':Vec} {x y z:List Int}
theorem zDh (hx:x.length=n):Gen p n W (units n) (at_ x):=⟨at_ x,Eqv.of_eq fun j=>by
 rw [Qe zt];rcases Nat.lt_or_ge j n with h|h
 ·rw [ZG h fun k hk hne=>by
   rw [List.getD_eq_getElem?_getD,Z6 hk];show at_ x k*at_ (unitL n k) j=0;rw [zAV hk,if_neg (fun e=>hne e.symm),Int.mul_zero]]
  rw [List.getD_eq_getElem?_getD,Z6 h];show at_ x j=at_ x j*at_ (unitL n j) j;rw [zAV h,if_pos rfl,Int.mul_one]
 ·rw [at_ge (by omega),qG _ fun k hk=>by
   rw [List.getD_eq_getElem?_getD,Z6 hk];show at_ x k*at_ (unitL n k) j=0;rw [zAV hk,if_neg (by omega),Int.mul_zero]]⟩
theorem isMap.mp (h:isMap p W B p' W' B' im):Mp p W.length W B W'.length W' B' im:=by
 obtain⟨h1,h2,rfl,h4,h5,h6⟩:=h;exact⟨h1.1.w,h1.1.b,h1.2,h2.1.w,h2.1.b,h2.2,h5,h4,fun i hi=>h6 i (by omega)⟩
theorem Low.less {j:Nat}:∀{k:Nat} {u:List (List Int)},Low p n W B k u→j≤k→∃v,Low p n W B j v
 | 0,_,h,hj=>by
  have:j=0:=by omega
  subst this;exact⟨_,h⟩
 | k+1,_,h,hj=>by
  rcases Nat.lt_or_ge k j with q|q
  ·have:j=k+1:=by omega
   subst this;exact⟨_,h⟩
  ·cases h with
   | succ h _=>exact Low.less h q
theorem Low.or (hu:Low p n W B k u):u=units n∨Base p n W u:=by
 cases hu with
 | zero=>exact .inl rfl
 | succ _ hc=>exact .inr hc.base
theorem Low.ne_zero (o:OkW p n W) (hu:Low p n W B k u) (h:u≠[]):∃x∈u,El p n x∧x≠List.replicate n 0:=by
 have hel:=(hu.els o).1;rcases hu.or with e0|hb
 ·have hn:0<n:=by
   rcases Nat.eq_zero_or_pos n with q|q
   ·exact absurd (by rw [e0,q];rfl) h
   ·exact q
  have hm:unitL n 0∈u:=by rw [e0];exact List.mem_of_getElem? (Z6 hn)
  refine⟨_,hm,hel _ hm,fun e=>?_⟩
  have e3:=zAV (n:=n) (i:=0) (j:=0) hn;rw [e,qR,if_pos rfl]at e3
  exact absurd e3 (by decide)
 ·cases u with
  | nil=>exact absurd rfl h
  | cons x t=>
   refine⟨x,by simp,hel x (by simp),fun e=>?_⟩
   have:=(hb.led x (by simp)).2.2
   rw [e,qR]at this
   exact absurd this (by decide)
section
variable (m:Mp p n W B n' W' B' im)
include m
theorem Mp.corr_units (hc:Canon p n' W' im out) (hl:out.length=n'):Corr p n W n' W' im (units n) (units n'):=by
 refine⟨fun f _=>?_,fun f' hf'=>?_⟩
 ·exact(zK (units n')).comb (fun v hv=>zDh (m.el v hv).1) f
 ·obtain⟨z,hz,e,_⟩:=zHi m.o' (Z7 m.o'.pr) hf'
  obtain⟨x,hx,ex⟩:=m.sur hc hl hz;exact⟨at_ x,zDh hx.1,e.trans (by rw [←ex];exact m.img_eqv hx.1)⟩
theorem Mp.low (hc:Canon p n' W' im out) (hl:out.length=n'):∀{k:Nat} {u u':List (List Int)},Low p n W B k u→Low p n' W' B' k u'→Corr p n W n' W' im u u'
 | 0,_,_,.zero,.zero=>m.corr_units hc hl
 | k+1,_,_,.succ h q,.succ h' q'=>by
  have:=m.corr_step (Mp.low hc hl h h') (m.corr_units hc hl)
  exact⟨fun f hf=>(q'.gen _).1 (this.1 f ((q.gen _).2 hf)),fun f' hf'=>by
   obtain⟨f,hf,e⟩:=this.2 f' ((q'.gen _).2 hf');exact⟨f,(q.gen _).1 hf,e⟩⟩
theorem Mp.cls (hp:p=(P:Int)) (hP:0<P) (hnn:n=n') (hc:Canon p n' W' im out) (hl:out.length=n') (h:Cls p n W B c) (h':Cls p n' W' B' d):c=d:=by
 rcases Nat.lt_trichotomy c d with x|x|x
 ·obtain⟨u',hu'⟩:=Low.less h'.1 (Nat.le_of_lt x)
  obtain⟨y,hy,hye,hy0⟩:=hu'.ne_zero m.o' (h'.2 _ _ x hu');obtain⟨f,hf,e⟩:=(m.low hc hl h.1 hu').2 _ (zM hy);have e2:Eqv p n' W' (at_ y) (at_ (List.replicate n' 0)):=(e.trans ((m.eqv (zHj hf)).trans (Eqv.of_eq fun j=>QC j))).trans (Eqv.of_eq fun j=>(qR n' j).symm)
  exact absurd (zBq m.o' hye (zAr m.o') e2) hy0
 ·exact x
 ·obtain⟨u,hu⟩:=Low.less h.1 (Nat.le_of_lt x)
  obtain⟨y,hy,hye,hy0⟩:=hu.ne_zero m.o (h.2 _ _ x hu);have g:=(m.low hc hl hu h'.1).1 _ (zM hy);have e2:Eqv p n' W' (at_ (img p W' im y)) (at_ (List.replicate n' 0)):=(m.img_eqv hye.1).trans ((zHj g).trans (Eqv.of_eq fun j=>(qR n' j).symm))
  have e3:=zBq m.o' (m.phi_el hye.1) (zAr m.o') e2;rw [←m.phi_zero]at e3
  exact absurd (m.inj hp hP hnn hc hl hye (zAr m.o) e3) hy0
theorem Mp.subring (hc:Canon p n' W' im out) (hx:x∈out) (hy:y∈out):Gen p n' W' out (at_ (br p W' B' n' x y)):=
 (zK out).eqv _ _ (zBw m.o' m.q' x y) ((hc.gen _).1 (m.shut ((hc.gen _).2 (zM hx)) ((hc.gen _).2 (zM hy))))
end
end Go.Proofs
namespace Go.Grp
end Go.Grp
namespace Go.Proofs
open Go.Ab Go.Lie
section
variable {σ H h:PHeap} {K:PV→PHeap→Prop}
structure SU (T h:PHeap) (p0:Nat) (v0:PV) (fs:List (PV×List PV)) (ls:List LS):Prop where
 keep:Keep T h
 obj:h.obj p0=some (v0::fs.map Prod.fst)
 p0b:T.next≤p0∧p0<h.next
 acc:∀f,f∈fs→PSl T.next 1 h f.1 f.2.length f.2
 ne:∀f,f∈fs→∀off l c,f.1≠.sl p0 off l c
 dis:∀(i j:Nat) f g,fs[i]? = some f→fs[j]? = some g→i≠j→∀s off l c,f.1=.sl s off l c→∀off l c,g.1≠.sl s off l c
 lok:∀q,q∈ls→q.ok h T.next
 lne:∀q,q∈ls→q.s≠p0∧∀f,f∈fs→∀off l c,f.1≠.sl q.s off l c
variable {T:PHeap} {p0:Nat} {v0:PV} {fs:List (PV×List PV)} {ls:List LS}
theorem SU.keepI {h2:PHeap} (a:SU T h p0 v0 fs ls) (k:Keep h h2):SU T h2 p0 v0 fs ls:=
 ⟨a.keep.trans k,by rw [k.obj _ a.p0b.2];exact a.obj,⟨a.p0b.1,Nat.lt_of_lt_of_le a.p0b.2 k.next⟩,fun f hf=>(a.acc f hf).keep k,a.ne,a.dis,fun q hq=>(a.lok q hq).move (k.obj _ (a.lok q hq).2.2.2) k.next,a.lne⟩
theorem SU.more {q:LS} (a:SU T h p0 v0 fs ls) (h1:q.ok h T.next) (h2:q.s≠p0∧∀f,f∈fs→∀off l c,f.1≠.sl q.s off l c):SU T h p0 v0 fs (ls++[q]):=
 ⟨a.keep,a.obj,a.p0b,a.acc,a.ne,a.dis,fun q' hq=>(List.mem_append.1 hq).elim (a.lok q') fun e=>by rw [List.mem_singleton.1 e];exact h1,fun q' hq=>(List.mem_append.1 hq).elim (a.lne q') fun e=>by rw [List.mem_singleton.1 e];exact h2⟩
theorem SU.push {K:PV×PHeap→Prop} {bytes j:Nat} {v x:PV} {cs:List PV} (a:SU T h p0 v0 fs ls) (hj:fs[j]? = some (v,cs)) (hb:cs.length≤1000) (hby:bytes≤24) (hone:∀f,f∈fs→f.1.one=true)
    (k:∀v' h2,v'.one=true→v'.cells=[v']→h2.wr p0 (j+1) [v']=some (h2.set p0 (v0::(fs.set j (v',cs++[x])).map Prod.fst))→SU T (h2.set p0 (v0::(fs.set j (v',cs++[x])).map Prod.fst)) p0 v0 (fs.set j (v',cs++[x])) ls→K (v',h2)):
    optK (qP 1 bytes (h.new [x]) v (.sl h.next 0 1 (.known 1))) K:=by
  have hm:(v,cs)∈fs:=List.mem_of_getElem? hj;obtain⟨hjl,hje⟩:=List.getElem?_eq_some_iff.1 hj;have hb2:(cs.length+1)*bytes≤1001*24:=Nat.mul_le_mul (by omega) hby
  refine PAcc.pushS (σb:=T) (bytes:=bytes) a.keep (a.acc _ hm).acc rfl (by show(cs.length+1)*bytes≤_;omega) (by show cs.length+1≤_;omega) fun v' h2 k2 a2 o2 n2 l2=>?_
  have hp:=a.p0b;have hob:h2.obj p0=some (v0::fs.map Prod.fst):=by rw [o2 _ hp.2 (a.ne _ hm)];exact a.obj
  have hset:(fs.set j (v',cs++[x])).map Prod.fst=(fs.map Prod.fst).set j v':=by rw [List.map_set]
  have hmem:∀f,f∈fs.set j (v',cs++[x])→f=(v',cs++[x])∨∃i,i≠j∧fs[i]? = some f:=fun f hf=>by
    obtain⟨i,hi⟩:=List.getElem?_of_mem hf;rw [List.getElem?_set]at hi
    split at hi
    · first
      | (cases hi;exact .inl rfl)
      | (split at hi
         · cases hi;exact .inl rfl
         · cases hi)
    · rename_i e;exact .inr ⟨i,fun e2=>e e2.symm,hi⟩
  refine k v' h2 a2.one a2.cells ?_ ⟨k2.set hp.1 _,by rw [zH,if_pos rfl],⟨hp.1,by show p0<h2.next;omega⟩,fun f hf=>?_,fun f hf=>?_,fun i1 i2 f g hf hg hne s off l c e=>?_,fun q hq=>?_,fun q hq=>⟨(a.lne q hq).1,fun f hf=>?_⟩⟩
  · rw [qH hob,if_pos ⟨by simp only [List.length_cons,List.length_map,List.length_nil];omega,by simp only [List.all_cons,List.all_nil,a2.one];rfl⟩,hset]
    congr 2
    rw [List.append_assoc,List.singleton_append,List.length_singleton,take_set _ (by rw [List.length_cons,List.length_map];exact Nat.succ_lt_succ hjl),List.set_cons_succ]
  · rcases hmem f hf with rfl | ⟨i,hi,he⟩
    · have a3:PSl T.next 1 (h2.set p0 (v0::(fs.set j (v',cs++[x])).map Prod.fst)) v' (cs.length+1) (cs++[x]):=zA8 a2 (fun s off l c e=>by rw [zH,if_neg fun e2=>n2 p0 hp.2 off l c (by rw [e,e2])]) (Nat.le_refl _)
      simpa using a3
    · have hfm:=List.mem_of_getElem? he
      refine zA8 (a.acc f hfm) (fun s off l c e=>?_) (Nat.le_of_lt l2)
      rw [zH,if_neg fun e2=>a.ne f hfm off l c (by rw [e,e2]),o2 s (zAH (a.acc f hfm) e) (a.dis i j f _ he hj hi s off l c e)]
  · rcases hmem f hf with rfl | ⟨i,hi,he⟩
    · exact n2 p0 hp.2
    · exact a.ne f (List.mem_of_getElem? he)
  · rw [List.getElem?_set]at hf hg
    by_cases e1:j=i1
    · rw [if_pos e1,if_pos hjl]at hf
      cases hf;rw [if_neg fun e2=>hne (e1.symm.trans e2)]at hg
      have hgm:=List.mem_of_getElem? hg;intro off' l' c' e';exact n2 s (zAH (a.acc g hgm) e') off l c e
    · rw [if_neg e1]at hf
      have hfm:=List.mem_of_getElem? hf
      by_cases e2:j=i2
      · rw [if_pos e2,if_pos hjl]at hg
        cases hg;exact n2 s (zAH (a.acc f hfm) e)
      · rw [if_neg e2]at hg
        exact a.dis i1 i2 f g hf hg hne s off l c e
  · have hq':=a.lok q hq
    refine hq'.move ?_ (Nat.le_of_lt l2);rw [zH,if_neg (a.lne q hq).1,o2 _ hq'.2.2.2 ((a.lne q hq).2 _ hm)]
  · rcases hmem f hf with rfl | ⟨i,hi,he⟩
    · exact n2 _ (a.lok q hq).2.2.2
    · exact(a.lne q hq).2 f (List.mem_of_getElem? he)
end
end Go.Proofs
namespace Go.Grp
open Go.Lie Go.Ab
variable {O:List Int} {P:List (List Int)} {C:List (List (List Int))}
end Go.Grp
namespace Go.Proofs
open Go.Ab Go.Lie Go.Grp
variable {σ H h:PHeap} {K:PV→PHeap→Prop} {n c:Nat} {p:Int} {O:List Int} {P:List (List Int)} {C:List (List (List Int))} {vO vP vC:PV} {s:Nat}
end Go.Proofs
namespace Go.Proofs
open Go.Ab Go.Lie
variable {σ σ0 σ1:PHeap} {K:PV→PHeap→Prop} {vC:PV} {bs:List Int} {s:Nat} {a sd:Int}
def FB (v:PV) (bs:List Int):Prop:=∃w a,v=.fz w a bs.length (bs.map (.int .u8))
structure Byt (bs:List Int):Prop where
 len:bs.length≤1048576
 bd:∀b∈bs,0≤b∧b≤255
abbrev srcC (vC:PV) (a:Nat) (sd:Int):List PV:=[vC,.int .i64 (a:Int),.int .i64 sd]
structure Src (σ:PHeap) (s:Nat) (vC:PV) (bs:List Int) (a:Nat) (sd:Int):Prop where
 obj:σ.obj s=some (srcC vC a sd)
 lt:s<σ.next
 fb:FB vC bs
 byt:Byt bs
 le:a≤bs.length
 sd:0≤sd∧sd<2147483647
theorem FB.one {v:PV} (h:FB v bs):v.one=true:=by obtain⟨w,a,rfl⟩:=h;rfl
theorem FB.cells {v:PV} (h:FB v bs):v.cells=[v]:=by obtain⟨w,a,rfl⟩:=h;rfl
theorem FB.bel {v:PV} (h:FB v bs) (n:Nat):Bel n v:=by obtain⟨w,a,rfl⟩:=h;trivial
theorem FB.bels {v:PV} (h:FB v bs) (n a:Nat) (sd:Int):Bels n (srcC v a sd):=⟨h.bel n,trivial,trivial,trivial⟩
theorem Gh.setS {v:PV} {s:Nat} {c0 c1:List PV} (h0:σ0.obj s=some c0) (hb:Bels 0 c1) (k:Gh (σ0.set s c1) K v σ1):Gh σ0 K v σ1:=fun w ι Z h b r hv h1 h2 h3 h4=>by
 have hs:s<σ0.next:=w.lt h0;have w':PWF (σ0.set s c1):=by
  refine⟨fun t ht=>?_,fun t cs ht=>?_⟩
  ·have ht':σ0.next≤t:=ht
   rw [zH,if_neg (by omega)]
   exact w.wf t ht'
  ·rw [zH]at ht
   split at ht
   ·cases ht
    exact Bels.up (Nat.zero_le _) hb
   ·exact w.bel t cs ht
 obtain⟨v2,σ2,ι2,Z2,g1,g2,g3,g4,g5,g6,g7,g8,g9⟩:=k w' ι Z h b r hv h1 h2 h3 (fun t ht hn=>by
  rw [zH]at hn
  split at hn
  ·cases hn
  ·exact h4 t ht hn)
 refine⟨v2,σ2,ι2,Z2,g1,g2,g3,g4,g5,g6,fun t ht hn=>g7 t ht ?_,g8,g9⟩
 rw [zH,if_neg (by rintro rfl;rw [h0]at hn;cases hn)]
 exact hn
theorem Src.set {σ:PHeap} {a a':Nat} {sd sd':Int} (h:Src σ s vC bs a sd) (ha:a'≤bs.length) (hs:0≤sd'∧sd'<2147483647):Src (σ.set s (srcC vC a' sd')) s vC bs a' sd':=
 ⟨by rw [zH,if_pos rfl],h.lt,h.fb,h.byt,ha,hs⟩
theorem Src.keep {σ σ':PHeap} {a:Nat} {sd:Int} (h:Src σ s vC bs a sd) (k:Keep σ σ'):Src σ' s vC bs a sd:=
 ⟨by rw [k.obj s h.lt];exact h.obj,Nat.lt_of_lt_of_le h.lt k.next,h.fb,h.byt,h.le,h.sd⟩
theorem Src.q {σ:PHeap} {a:Nat} {sd:Int} (h:Src σ s vC bs a sd):σ.rd1 s 0=some vC∧σ.rd1 s 1=some (.int .i64 a)∧σ.rd1 s 2=some (.int .i64 sd):=by
 refine⟨?_,?_,?_⟩<;>(rw [zG h.obj];rfl)
theorem Src.w1 {σ:PHeap} {a:Nat} {sd x:Int} (h:Src σ s vC bs a sd):σ.wr s 1 [.int .i64 x]=some (σ.set s [vC,.int .i64 x,.int .i64 sd]):=by
 rw [qH h.obj,if_pos ⟨by simp,rfl⟩];rfl
theorem Src.w2 {σ:PHeap} {a:Nat} {sd x:Int} (h:Src σ s vC bs a sd):σ.wr s 2 [.int .i64 x]=some (σ.set s (srcC vC a x)):=by
 rw [qH h.obj,if_pos ⟨by simp,rfl⟩];rfl
theorem zEU (σ:PHeap) (s:Nat) (x y:List PV):(σ.set s x).set s y=σ.set s y:=by
 simp only [PHeap.set]
 congr 1
 funext t
 split<;>rfl
theorem zKF {j:Nat} (hB:Byt bs) (hj:j<bs.length):(bs.map (PV.int .u8))[j]? = some (.int .u8 (bs.getD j 0))∧0≤bs.getD j 0∧bs.getD j 0≤255:=by
 have e:bs.getD j 0=bs[j]:=by simp [List.getD_eq_getElem?_getD,List.getElem?_eq_getElem hj]
 rw [e];exact⟨by rw [List.getElem?_map,List.getElem?_eq_getElem hj];rfl,hB.bd _ (List.getElem_mem hj)⟩
def Nx (n x:Int):Prop:=0≤x∧(n≤1→x=0)∧(1<n→x<n)
theorem Nx.lt {n x:Int} (h:Nx n x) (hn:1≤n):x<n:=by
 obtain⟨h0,h1,h2⟩:=h;rcases Int.lt_or_le 1 n with g|g
 ·exact h2 g
 ·have:=h1 g;omega
theorem zJn {n x:Int} (hn:1<n) (hx:0≤x):Nx n (x.tmod n):=by
 rw [Int.tmod_eq_emod_of_nonneg hx];have h1:=Int.emod_nonneg x (show n≠0 by omega)
 have h2:=Int.emod_lt_of_pos x (show 0<n by omega)
 exact⟨h1,fun h=>by omega,fun _=>h2⟩
theorem zIg (hb:FB vC bs) (hB:Byt bs) (hk:∀sd,0≤sd∧sd<2147483647→K (.ptr σ.next 0) (σ.new (srcC vC 0 sd))):zA Tryz.prog 34 [vC] σ K:=by
 obtain⟨w,av,rfl⟩:=hb;have hl:=hB.len;refine zD mix Tryz.func34 ?_;simp only [pwA,seval,-iQ0];generalize hC:(PV.fz w av bs.length (bs.map (.int .u8)))=vC at *
 refine zF (fun m vs h'=>∃(i:Nat) (sd:Int),i≤bs.length∧m=bs.length-i∧vs=[vC,.ptr σ.next 0,.int .i64 i]∧σ.new (srcC vC 0 sd)=h'∧0≤sd∧sd<2147483647) bs.length ?_ ?_
 ·exact⟨0,76001,by omega,by omega,rfl,rfl,by omega,by omega⟩
 rintro m vs h' ⟨i,sd,hi,rfl,rfl,rfl,h0,h1⟩
 have hlen:pLen vC=some (.int .i64 bs.length):=by rw [←hC];rfl
 have wi1:IntKind.i64.wrap ((i:Int)+1)=((i+1:Nat):Int):=by rw [wrap64 (by omega) (by omega)];omega
 have out:K (.ptr σ.next 0) (σ.new (srcC vC 0 sd)):=hk sd ⟨h0,h1⟩;simp only [pwA,seval,-iQ0,hlen]
 by_cases hlt:i<bs.length
 rotate_left
 ·simp only [pwA,seval,-iQ0,hlt,decide_false]
  exact out
 obtain⟨b1,b2,b3⟩:=zKF hB hlt
 by_cases h64:i<64
 rotate_left
 ·have h64':¬(i:Int)<64:=by omega
  simp only [pwA,seval,-iQ0,hlt,h64',decide_true,decide_false];exact out
 have h64':(i:Int)<64:=by omega
 generalize bs.getD i 0=b at b1 b2 b3
 have e1:IntKind.i64.wrap (sd*71)=sd*71:=wrap64 (by omega) (by omega)
 have e2:IntKind.i64.wrap b=b:=wrap64 (by omega) (by omega)
 have e3:IntKind.i64.wrap (sd*71+b)=sd*71+b:=wrap64 (by omega) (by omega)
 have e4:(sd*71+b).tmod 2147483647=(sd*71+b) % 2147483647:=Int.tmod_eq_emod_of_nonneg (by omega)
 subst hC;simp only [pwA,seval,-iQ0,hlt,h64',decide_true,b1,e1,e2,e3,e4,wi1];exact⟨_,by omega,i+1,_,by omega,rfl,rfl,rfl,by omega,by omega⟩
theorem zIf {a:Nat} {sd n:Int} (S:Src σ s vC bs a sd) (hn:n≤4611686018427387904) (hk:∀x a' sd',Nx n x→a'≤bs.length→0≤sd'∧sd'<2147483647→K (.int .i64 x) (σ.set s (srcC vC a' sd'))):zA Tryz.prog 36 [.ptr s 0,.int .i64 n] σ K:=by
 have hl:=S.byt.len;have hsd:=S.sd;have ha:=S.le;obtain⟨w,av,rfl⟩:=S.fb;obtain⟨q0,q1,q2⟩:=S.q;have e1:IntKind.i64.wrap (sd*48271)=sd*48271:=wrap64 (by omega) (by omega)
 have e2:IntKind.i64.wrap (sd*48271+71)=sd*48271+71:=wrap64 (by omega) (by omega)
 have e4:(sd*48271+71).tmod 2147483647=(sd*48271+71) % 2147483647:=Int.tmod_eq_emod_of_nonneg (by omega)
 refine zD mix Tryz.func36 ?_;simp only [pwA,seval,-iQ0,q2,e1,e2,e4,S.w2];refine iteI (fun hlt=>?_) fun hge=>?_
 ·have:=hk 0 a sd ⟨Int.le_refl _,fun _=>rfl,fun h=>by omega⟩ ha hsd
  rw [zCs S.obj]at this
  exact this
 have hsd1:0≤(sd*48271+71) % 2147483647∧(sd*48271+71) % 2147483647<2147483647:=by omega
 generalize (sd*48271+71) % 2147483647=sd1 at *
 have S1:=S.set (sd':=sd1) ha hsd1;obtain⟨p0,p1,p2⟩:=S1.q;obtain⟨x0,e5,hx0⟩:∃x0,IntKind.i64.wrap (sd1.tdiv 47)=x0∧0≤x0∧x0≤2147483647:=by
  have d1:sd1.tdiv 47=sd1 / 47:=Int.tdiv_eq_ediv_of_nonneg (by omega)
  exact⟨sd1 / 47,by rw [d1];exact wrap64 (by omega) (by omega),by omega,by omega⟩
 have hn0:n≠0:=by omega
 generalize hs1:σ.set s (srcC (PV.fz w av bs.length (bs.map (.int .u8))) a sd1)=σ1 at *
 have hT:∀(a':Nat) (sd':Int),σ1.set s (srcC (PV.fz w av bs.length (bs.map (.int .u8))) a' sd')=σ.set s (srcC (PV.fz w av bs.length (bs.map (.int .u8))) a' sd'):=fun a' sd'=>by rw [←hs1];exact zEU _ _ _ _
 simp only [pwA,seval,-iQ0,p0,p1,p2,e5]
 by_cases hlt':a<bs.length
 rotate_left
 ·simp only [pwA,seval,-iQ0,hlt',decide_false]
  have:=hk _ a sd1 (zJn (by omega) hx0.1) ha hsd1
  rw [hs1]at this
  simp only [pwA,seval,-iQ0,hn0,e5];exact this
 obtain⟨b1,b2,b3⟩:=zKF S.byt hlt';generalize bs.getD a 0=b at b1 b2 b3
 have e6:IntKind.i64.wrap b=b:=wrap64 (by omega) (by omega)
 have e7:IntKind.i64.wrap (x0+b)=x0+b:=wrap64 (by omega) (by omega)
 have wi1:IntKind.i64.wrap ((a:Int)+1)=((a+1:Nat):Int):=by rw [wrap64 (by omega) (by omega)];omega
 simp only [pwA,seval,-iQ0,hlt',decide_true,p0,p1,b1,e5,e6,e7,S1.w1,wi1];have Sb:=S1.set (a':=a+1) (sd':=sd1) (by omega) hsd1
 obtain⟨r0,r1,r2⟩:=Sb.q;generalize hs2:σ1.set s (srcC (PV.fz w av bs.length (bs.map (.int .u8))) (a+1) sd1)=σ2 at *
 have tm:((a+1:Nat):Int).tmod 2=((a+1:Nat):Int) % 2:=Int.tmod_eq_emod_of_nonneg (by omega)
 have wi2:IntKind.i64.wrap (((a+1:Nat):Int)-1)=(a:Int):=by rw [wrap64 (by omega) (by omega)];omega
 have fin:∀x:Int,0≤x→K (.int .i64 (x.tmod n)) σ2:=fun x hx=>by
  have:=hk _ (a+1) sd1 (zJn (by omega) hx) (by omega) hsd1
  rw [←hs2,hT];exact this
 by_cases hn256:n≤256
 rotate_left
 ·simp only [pwA,seval,-iQ0,hn256,decide_false,hn0,e5,e6,e7]
  exact fin _ (by omega)
 by_cases hev:((a+1:Nat):Int) % 2=0
 rotate_left
 ·simp only [pwA,seval,-iQ0,hn256,decide_true,r1,tm,hev,decide_false,hn0,e5,e6,e7]
  exact fin _ (by omega)
 simp only [pwA,seval,-iQ0,hn256,decide_true,r0,r1,tm,hev,wi2,hlt',b1,hn0,e5,e6,e7];exact fin _ (by omega)
end Go.Proofs
namespace Go.Proofs
open Go.Ab Go.Lie
variable {σ σ0 σ1 h h':PHeap} {K:PV→PHeap→Prop} {vC:PV} {bs:List Int} {s:Nat}
def So (σ:PHeap) (s:Nat) (vC:PV) (bs:List Int):Prop:=∃a sd,Src σ s vC bs a sd
def Mv (σ:PHeap) (s:Nat) (σ':PHeap):Prop:=∃c0 c1,σ.obj s=some c0∧Bels 0 c1∧σ'=σ.set s c1
def KM (σ:PHeap) (s:Nat) (h:PHeap):Prop:=∃σ',Mv σ s σ'∧Keep σ' h
theorem Mv.next (m:Mv σ s h):h.next=σ.next:=by obtain⟨_,_,_,_,rfl⟩:=m;rfl
theorem Mv.obj (m:Mv σ s h) {t:Nat} (ht:t≠s):h.obj t=σ.obj t:=by obtain⟨_,_,_,_,rfl⟩:=m;rw [zH,if_neg ht]
theorem Mv.trans (m:Mv σ s h) (m':Mv h s h'):Mv σ s h':=by
 obtain⟨c0,c1,h0,h1,rfl⟩:=m;obtain⟨d0,d1,g0,g1,rfl⟩:=m';exact⟨c0,d1,h0,g1,zEU _ _ _ _⟩
theorem So.lt (k:So σ s vC bs):s<σ.next:=by obtain⟨_,_,k⟩:=k;exact k.lt
theorem So.mv (k:So σ s vC bs) {a:Nat} {sd:Int} (ha:a≤bs.length) (hs:0≤sd∧sd<2147483647):Mv σ s (σ.set s (srcC vC a sd))∧So (σ.set s (srcC vC a sd)) s vC bs:=by
 obtain⟨a0,sd0,k⟩:=k;exact⟨⟨_,_,k.obj,k.fb.bels _ _ _,rfl⟩,a,sd,k.set ha hs⟩
theorem So.mv0 (k:So σ s vC bs):Mv σ s σ:=by
 obtain⟨a0,sd0,k⟩:=k;exact⟨_,_,k.obj,k.fb.bels _ _ _,(zCs k.obj).symm⟩
theorem So.keep (k:So σ s vC bs) (hk:Keep σ h):So h s vC bs:=by
 obtain⟨a0,sd0,k⟩:=k;exact⟨_,_,k.keep hk⟩
theorem So.set (k:So σ s vC bs) {t:Nat} (ht:s≠t) (cs:List PV):So (σ.set t cs) s vC bs:=by
 obtain⟨a0,sd0,k⟩:=k;exact⟨a0,sd0,by rw [zH,if_neg ht];exact k.obj,k.lt,k.fb,k.byt,k.le,k.sd⟩
theorem KM.keep (k:KM σ s h) (hk:Keep h h'):KM σ s h':=by
 obtain⟨σ',m,q⟩:=k;exact⟨σ',m,q.trans hk⟩
theorem KM.next (k:KM σ s h):σ.next≤h.next:=by
 obtain⟨σ',m,q⟩:=k;rw [←m.next];exact q.next
theorem KM.obj (k:KM σ s h) {t:Nat} (ht:t<σ.next) (hn:t≠s):h.obj t=σ.obj t:=by
 obtain⟨σ',m,q⟩:=k;rw [q.obj t (by rw [m.next];exact ht),m.obj hn]
theorem So.km (k:So σ s vC bs):KM σ s σ:=⟨σ,k.mv0,Keep.refl _⟩
theorem So.kmK (k:So σ s vC bs) (hk:Keep σ h):KM σ s h:=⟨σ,k.mv0,hk⟩
theorem KM.new (k:KM σ s h) (cs:List PV):KM σ s (h.new cs):=k.keep (zC h cs)
theorem KM.set (k:KM σ s h) {t:Nat} (ht:σ.next≤t) (cs:List PV):KM σ s (h.set t cs):=by
 obtain⟨σ',m,q⟩:=k;exact⟨σ',m,q.set (by rw [m.next];exact ht) cs⟩
theorem KM.mv (k:KM σ s h) (hs:s<σ.next) (m':Mv h s h'):KM σ s h':=by
 obtain⟨σ',⟨c0,c1,h0,h1,rfl⟩,q⟩:=k;obtain⟨d0,d1,g0,g1,rfl⟩:=m';refine⟨σ.set s d1,⟨c0,d1,h0,g1,rfl⟩,q.next,q.top,fun t ht=>?_⟩
 rw [zH,zH]
 split
 ·rfl
 ·rename_i e
  rw [q.obj t ht,zH,if_neg e]
theorem KM.trans (k:KM σ s h) (hs:s<σ.next) (k':KM h s h'):KM σ s h':=by
 obtain⟨σ',m,q⟩:=k';exact(k.mv hs m).keep q
theorem Gh.km {v:PV} (k:KM σ s h) (so:So h s vC bs) (hs:s<σ.next) (c:∀σ',Mv σ s σ'→So σ' s vC bs→Keep σ' h→Gh σ' K v h):Gh σ K v h:=by
 obtain⟨σ',m,q⟩:=k;obtain⟨c0,c1,h0,h1,e⟩:=m;obtain⟨a,sd,S⟩:=so;have hs':s<σ'.next:=by rw [e];exact hs
 have so':So σ' s vC bs:=⟨a,sd,by rw [←q.obj s hs'];exact S.obj,hs',S.fb,S.byt,S.le,S.sd⟩
 have:=c σ' ⟨c0,c1,h0,h1,e⟩ so' q
 rw [e]at this
 exact Gh.setS h0 h1 this
theorem ze {n:Int} (so:So σ s vC bs) (hn:n≤4611686018427387904) (hk:∀x h,Nx n x→Mv σ s h→So h s vC bs→K (.int .i64 x) h):zA Tryz.prog 36 [.ptr s 0,.int .i64 n] σ K:=by
 obtain⟨a,sd,S⟩:=so;refine zIf S hn fun x a' sd' hx ha hs=>?_
 obtain⟨m1,m2⟩:=So.mv ⟨a,sd,S⟩ ha hs;exact hk x _ hx m1 m2
theorem zDc {p:Int} {n:Nat} {vP vB:PV} (g1:vP.one=true) (g2:vB.one=true) (gl:pLen vP=some (.int .i64 n)) (hn:n≤1048576) (hk:∀cap,full 1 cap n→K (.sl σ.next 0 n cap) (σ.new (pis (List.replicate n 0)))):zA Tryz.prog 39 [.agg [.int .i64 p,vP,vB]] σ K:=by
 refine zA.gh ?_;refine zD mix Tryz.func39 ?_;simp only [pwA,seval,-iQ0,g1,g2,gl,ZB,mk8 (n:=n) (by omega),mkL (n:=n) (by omega)]
 exact Gh.finS (s:=σ.next+1) ((zC σ _).new _) (by simp only [pwA,seval,-iQ0]) (by omega) (zZ _ _) (hk _ (.inr rfl))
theorem Zq {p:Int} {n k:Nat} {vP vB:PV} (g1:vP.one=true) (g2:vB.one=true) (gl:pLen vP=some (.int .i64 n)) (hn:n≤1048576) (hkn:k<n) (hk:∀v,FI v (unitL n k)→K v σ):zA Tryz.prog 40 [.agg [.int .i64 p,vP,vB],.int .i64 k] σ K:=by
 refine zA.gh ?_;refine zD mix Tryz.func40 ?_;simp only [pwA,seval,-iQ0,g1,g2];refine zDc g1 g2 gl hn fun cap hc=>?_
 simp only [pwA,seval,-iQ0,hkn,zY,List.length_replicate,Nat.succ_le_of_lt hkn];rw [qM (by simpa using hkn)]
 exact Gh.finF (s:=σ.next+1) ((zC σ _).new _) (by simp only [pwA,seval,-iQ0];rfl) (by omega) (zZ _ _) hc.ok fun _=>hk _ ⟨_,_,by rw [zk];rfl⟩
theorem zFy {n:Nat} (so:So σ s vC bs) (hn:n≤6) (hk:∀p h,isP p→ipow p n≤729→Mv σ s h→So h s vC bs→K (.int .i64 p) h):zA Tryz.prog 130 [.ptr s 0,.int .i64 n] σ K:=by
 have hlt:=so.lt;refine zA.gh ?_;refine zD mix Tryz.func130 ?_;simp only [pwA,seval,-iQ0];refine ze (so.keep (zC _ _)) (by decide) fun x h1 hx m1 so1=>?_
 have hxl:=hx.lt (by decide)
 have hx0:=hx.1;have ob:h1.obj σ.next=some (pis [2,3,3,5,7,2]):=by rw [m1.obj (by omega)];simp only [pwA,seval,-iQ0];rfl
 obtain⟨k,rfl⟩:∃k:Nat,x=k:=⟨x.toNat,by omega⟩
 have hk6:k<6:=by omega
 obtain⟨p0,hp0,hr⟩:∃p0,isP p0∧h1.rd1 σ.next k=some (.int .i64 p0):=by
  have e:k=0∨k=1∨k=2∨k=3∨k=4∨k=5:=by omega
  rcases e with rfl|rfl|rfl|rfl|rfl|rfl
  ·exact⟨2,.inl rfl,by rw [zG ob];rfl⟩
  ·exact⟨3,.inr (.inl rfl),by rw [zG ob];rfl⟩
  ·exact⟨3,.inr (.inl rfl),by rw [zG ob];rfl⟩
  ·exact⟨5,.inr (.inr (.inl rfl)),by rw [zG ob];rfl⟩
  ·exact⟨7,.inr (.inr (.inr rfl)),by rw [zG ob];rfl⟩
  ·exact⟨2,.inl rfl,by rw [zG ob];rfl⟩
 simp only [pwA,seval,-iQ0,hr,hk6];have hnc:n=0∨n=1∨n=2∨n=3∨n=4∨n=5∨n=6:=by omega
 have big:∀q:Int,isP q→¬ipow q n≤729→q=5∨q=7:=fun q hq hb=>by
  rcases hq with rfl|rfl|rfl|rfl
  ·exact absurd (by rcases hnc with rfl | rfl | rfl | rfl | rfl | rfl | rfl<;>decide) hb
  ·exact absurd (by rcases hnc with rfl | rfl | rfl | rfl | rfl | rfl | rfl<;>decide) hb
  ·exact .inl rfl
  ·exact .inr rfl
 refine zF (fun m vs h=>∃q:Int,isP q∧m=q.toNat∧vs=[.int .i64 n,.int .i64 q]∧KM σ s h∧So h s vC bs) p0.toNat ?_ ?_
 ·exact⟨p0,hp0,rfl,rfl,(so.km.new _).mv hlt m1,so1⟩
 rintro m vs h2 ⟨q,hq,rfl,rfl,km,so2⟩
 simp only [pwA,seval,-iQ0];refine zBG (p:=q) (n:=n) (by rcases hq with rfl | rfl | rfl | rfl<;>decide) hn fun k k1 k2 k3 k4=>?_
 by_cases hk9:k≤729
 ·have hk9':¬k > 729:=by omega
  simp only [pwA,seval,-iQ0,hk9',decide_false];exact Gh.km km so2 hlt fun σ' m' so' kp=>Gh.fin0 kp trivial (hk q σ' hq (k1.1 hk9) m' so')
 ·have hk9':k > 729:=by omega
  rcases big q hq (fun e=>hk9 (k1.2 e))with rfl|rfl
  ·simp only [pwA,seval,-iQ0,hk9',decide_true,show((5:Int)<((8:Nat):Int)) by decide]
   exact⟨_,by decide,3,.inr (.inl rfl),rfl,rfl,km.new _,so2.keep (zC _ _)⟩
  ·simp only [pwA,seval,-iQ0,hk9',decide_true,show((7:Int)<((8:Nat):Int)) by decide]
   exact⟨_,by decide,5,.inr (.inr (.inl rfl)),rfl,rfl,km.new _,so2.keep (zC _ _)⟩
structure TailI (σ h:PHeap) (s:Nat) (vC:PV) (bs:List Int) (p:Int) (n k:Nat) (vP vB:PV) (x:List Int):Prop where
 km:KM σ s h
 so:So h s vC bs
 o1:h.obj σ.next=some [.int .i64 p,vP,vB]
 o2:h.obj (σ.next+1)=some (pis x)
 lt:σ.next+1<h.next
 el:El p n x
 z:∀j,j<k→at_ x j=0
theorem zDd {n k:Nat} {p:Int} {vP vB:PV} (so:So σ s vC bs) (hp:2≤p∧p≤7) (g1:vP.one=true) (g2:vB.one=true) (gl:pLen vP=some (.int .i64 n)) (hn:n≤1048576) (hkn:k≤n)
  (hk:∀x h cap,El p n x→(∀j,j<k→at_ x j=0)→full 1 cap n→Mv σ s h→So h s vC bs→K (.sl σ.next 0 n cap) (h.new (pis x))):zA Tryz.prog 122 [.ptr s 0,.agg [.int .i64 p,vP,vB],.int .i64 k] σ K:=by
 have hlt:=so.lt;refine zA.gh ?_;refine zD mix Tryz.func122 ?_;simp only [pwA,seval,-iQ0,g1,g2];refine zDc g1 g2 gl hn fun cap hc=>?_
 simp only [pwA,seval,-iQ0];generalize hH:(σ.new [.int .i64 p,vP,vB])=H;have hkH:Keep σ H:=by rw [←hH];exact zC _ _
 have hHn:H.next=σ.next+1:=by rw [←hH];rfl
 have obR:H.obj σ.next=some [.int .i64 p,vP,vB]:=by rw [←hH];simp only [pwA,seval,-iQ0]
 refine zF (fun m vs h=>∃(i:Nat) (x:List Int),k≤i∧i≤n∧m=n-i∧vs=[.ptr s 0,.ptr σ.next 0,.sl (σ.next+1) 0 n cap,.int .i64 i]∧TailI σ h s vC bs p n k vP vB x) (n-k) ?_ ?_
 ·refine⟨k,List.replicate n 0,Nat.le_refl _,hkn,rfl,rfl,⟨(so.kmK hkH).new _,(so.keep hkH).keep (zC _ _),by rw [zP,if_neg (by omega)];exact obR,by rw [zP,if_pos hHn.symm],by show _<H.next+1;omega,⟨by simp,fun y hy=>by rw [List.eq_of_mem_replicate hy];omega⟩,fun j _=>qR _ _⟩⟩
 rintro m vs h ⟨i,x,hki,hin,rfl,rfl,⟨km,so2,o1,o2,hl2,hx,hz⟩⟩
 have hxl:=hx.1;simp only [pwA,seval,-iQ0];refine iteI (fun hilt=>?_) fun hige=>?_
 rotate_left
 ·have e:i=n:=by omega
  refine Gh.km km so2 hlt fun σ' m' so' kp=>?_
  have hnx:=m'.next;rw [←hnx];refine Gh.finS (s:=σ'.next+1) kp (by rw [hnx];exact o2) (by omega) (zZ _ _) ?_
  have:=hk x σ' cap hx hz hc m' so'
  rw [hnx];exact this
 have r0:h.rd1 σ.next 0=some (.int .i64 p):=by rw [zG o1];rfl
 simp only [pwA,seval,-iQ0,r0];refine ze so2 (by omega) fun y h3 hy m3 so3=>?_
 have hyl:=hy.lt (by omega)
 have hy0:=hy.1;have hilt':i<n:=by omega
 have o3:h3.obj (σ.next+1)=some (pis x):=by rw [m3.obj (by omega)];exact o2
 have w3:h3.wr (σ.next+1) i [.int .i64 y]=some (h3.set (σ.next+1) (pis (x.set i y))):=by
  rw [qH o3,if_pos ⟨by rw [zY,hxl];simp;omega,rfl⟩]
  congr 2
  exact qM (by omega)
 have wi:IntKind.i64.wrap ((i:Int)+1)=((i+1:Nat):Int):=by rw [wrap64 (by omega) (by omega)];omega
 simp only [pwA,seval,-iQ0,hilt',w3,wi];refine⟨_,?_,i+1,x.set i y,by omega,by omega,rfl,rfl,⟨(km.mv hlt m3).set (by omega) _,so3.set (by omega) _,by rw [zH,if_neg (by omega),m3.obj (by omega)];exact o1,by rw [zH,if_pos rfl],by show _<h3.next;rw [m3.next];exact hl2,⟨by rw [List.length_set];exact hxl,fun z hzz=>?_⟩,fun j hj=>?_⟩⟩
 ·omega
 ·rcases List.mem_or_eq_of_mem_set hzz with e | e
  ·exact hx.2 z e
  ·omega
 ·rw [at_set (by omega),if_neg (by omega)]
  exact hz j hj
theorem qF {n k:Nat} {p:Int} {vP vB:PV} (so:So σ s vC bs) (hp:2≤p∧p≤7) (g1:vP.one=true) (g2:vB.one=true) (gl:pLen vP=some (.int .i64 n)) (hn:n≤1048576) (hkn:k≤n)
  (hk:∀v x h,El p n x→(∀j,j<k→at_ x j=0)→FI v x→Mv σ s h→So h s vC bs→K v h):zA Tryz.prog 122 [.ptr s 0,.agg [.int .i64 p,vP,vB],.int .i64 k] σ K:=by
 refine zA.gh (zDd so hp g1 g2 gl hn hkn fun x h cap hx hz hc m so2=>?_)
 refine Gh.km (so.km.mv so.lt m |>.new _) (so2.keep (zC _ _)) so.lt fun σ' m' so' kp=>?_
 have hxl:=hx.1;subst hxl;exact Gh.finF (s:=σ.next) kp (by rw [zP,if_pos m.next.symm]) (by rw [m'.next];exact Nat.le_refl _) (zZ _ _) hc.ok fun o=>hk _ x σ' hx hz ⟨_,_,rfl⟩ m' so'
end Go.Proofs
set_option linter.unusedSectionVars false
namespace Go.Proofs
open Go.Ab Go.Lie
variable {σ σ0 h h':PHeap} {K:PV→PHeap→Prop} {vC:PV} {bs:List Int} {s b n:Nat} {p:Int} {RP R:PV→List Int→Prop} {sP sB:Nat} {capP capB:Cap} {cs:List PV} {ls:List LS} {W:List (List Int)} {B:List (List (List Int))}
def RowsG (R:PV→List Int→Prop) (ls:List LS) (B:List (List (List Int))):Prop:=All2 (fun(q:LS) (M:List (List Int))=>All2 R q.cs M) ls B
structure RS (RP R:PV→List Int→Prop) (b:Nat) (h:PHeap) (n sP:Nat) (capP:Cap) (cs:List PV) (sB:Nat) (capB:Cap) (ls:List LS) (W:List (List Int)) (B:List (List (List Int))):Prop where
 P:full 1 capP n∧h.obj sP=some cs∧b≤sP∧sP<h.next
 Q:full 1 capB n∧h.obj sB=some (ls.map LS.pv)∧b≤sB∧sB<h.next
 ne:sP≠sB
 lok:∀q∈ls,q.ok h b
 lne:∀q∈ls,q.s≠sP∧q.s≠sB
 nd:(ls.map LS.s).Nodup
 aP:All2 RP cs W
 aB:RowsG R ls B
 lW:W.length=n
 lB:B.length=n
theorem RS.move (a:RS RP R b h n sP capP cs sB capB ls W B) (ho:∀t,(t=sP∨t=sB∨∃q∈ls,q.s=t)→h'.obj t=h.obj t) (hn:h.next≤h'.next):RS RP R b h' n sP capP cs sB capB ls W B:=by
 obtain⟨p1,p2,p3,p4⟩:=a.P;obtain⟨q1,q2,q3,q4⟩:=a.Q;exact⟨⟨p1,by rw [ho _ (.inl rfl)];exact p2,p3,by omega⟩,⟨q1,by rw [ho _ (.inr (.inl rfl))];exact q2,q3,by omega⟩,a.ne,fun q hq=>(a.lok q hq).move (ho _ (.inr (.inr ⟨q,hq,rfl⟩))) hn,a.lne,a.nd,a.aP,a.aB,a.lW,a.lB⟩
theorem RS.lt (a:RS RP R b h n sP capP cs sB capB ls W B) {t:Nat} (ht:t=sP∨t=sB∨∃q∈ls,q.s=t):b≤t∧t<h.next:=by
 rcases ht with rfl|rfl|⟨q,hq,rfl⟩
 ·exact a.P.2.2
 ·exact a.Q.2.2
 ·exact(a.lok q hq).2.2
theorem RS.keep (a:RS RP R b h n sP capP cs sB capB ls W B) (k:Keep h h'):RS RP R b h' n sP capP cs sB capB ls W B:=a.move (fun t ht=>k.obj t (a.lt ht).2) k.next
theorem RS.new (a:RS RP R b h n sP capP cs sB capB ls W B) (xs:List PV):RS RP R b (h.new xs) n sP capP cs sB capB ls W B:=a.keep (zC h xs)
theorem RS.mv (a:RS RP R b h n sP capP cs sB capB ls W B) (hs:s<b) (m:Mv h s h'):RS RP R b h' n sP capP cs sB capB ls W B:=a.move (fun t ht=>m.obj (by have:=(a.lt ht).1;omega)) (by rw [m.next];exact Nat.le_refl _)
theorem RS.low {b':Nat} (a:RS RP R b h n sP capP cs sB capB ls W B) (hb:b'≤b):RS RP R b' h n sP capP cs sB capB ls W B:=
 ⟨⟨a.P.1,a.P.2.1,by have:=a.P.2.2.1;omega,a.P.2.2.2⟩,⟨a.Q.1,a.Q.2.1,by have:=a.Q.2.2.1;omega,a.Q.2.2.2⟩,a.ne,fun q hq=>⟨(a.lok q hq).1,(a.lok q hq).2.1,by have:=(a.lok q hq).2.2.1;omega,(a.lok q hq).2.2.2⟩,a.lne,a.nd,a.aP,a.aB,a.lW,a.lB⟩
theorem RS.csl (a:RS RP R b h n sP capP cs sB capB ls W B):cs.length=n:=a.aP.1.trans a.lW
theorem RS.lsl (a:RS RP R b h n sP capP cs sB capB ls W B):ls.length=n:=a.aB.1.trans a.lB
theorem RS.rdB (a:RS RP R b h n sP capP cs sB capB ls W B) {i:Nat} (hi:i<n):∃q,ls[i]? = some q∧h.rd1 sB i=some q.pv∧q.cs.length=(B.getD i []).length:=by
 have hl:=a.lsl;refine⟨ls[i]'(by omega),List.getElem?_eq_getElem (by omega),?_,?_⟩
 ·rw [zG a.Q.2.1,List.getElem?_map,List.getElem?_eq_getElem (by omega)];rfl
 ·have hB:=a.lB
  have:=a.aB.2 i _ _ (List.getElem?_eq_getElem (by omega)) (List.getElem?_eq_getElem (by omega))
  rw [this.1,List.getD_eq_getElem?_getD,List.getElem?_eq_getElem (by omega)]
  rfl
theorem zDD {α β:Type} {R:α→β→Prop} {xs:List α} {ys:List β} (k:All2 R xs ys) {i:Nat} {a:α} {b:β} (hr:R a b):All2 R (xs.set i a) (ys.set i b):=by
 refine⟨by rw [List.length_set,List.length_set];exact k.1,fun j x y hx hy=>?_⟩
 rw [List.getElem?_set]at hx hy
 by_cases e:i=j
 ·rw [if_pos e]at hx hy
  split at hx
  ·split at hy
   ·cases hx;cases hy;exact hr
   ·cases hy
  ·cases hx
 ·rw [if_neg e]at hx hy
  exact k.2 j x y hx hy
theorem Qh {h:PHeap} {t i:Nat} {cs:List PV} {v:PV} (ho:h.obj t=some cs) (hi:i<cs.length) (hv:v.one=true):h.wr t i [v]=some (h.set t (cs.set i v)):=by
 rw [qH ho,if_pos ⟨by simp;omega,by simp [hv]⟩]
 congr 2
 rw [List.append_assoc];exact take_set cs hi v
theorem RS.putP (a:RS RP R b h n sP capP cs sB capB ls W B) {i:Nat} {v:PV} {w:List Int} (hi:i<n) (hv:RP v w) (ho:v.one=true):
  h.wr sP i [v]=some (h.set sP (cs.set i v))∧RS RP R b (h.set sP (cs.set i v)) n sP capP (cs.set i v) sB capB ls (W.set i w) B:=by
 obtain⟨p1,p2,p3,p4⟩:=a.P;obtain⟨q1,q2,q3,q4⟩:=a.Q;refine⟨Qh p2 (by rw [a.csl];exact hi) ho,⟨p1,by rw [zH,if_pos rfl],p3,p4⟩,⟨q1,by rw [zH,if_neg (Ne.symm a.ne)];exact q2,q3,q4⟩,a.ne,fun q hq=>(a.lok q hq).move (by rw [zH,if_neg (a.lne q hq).1]) (Nat.le_refl _),a.lne,a.nd,zDD a.aP hv,a.aB,by rw [List.length_set];exact a.lW,a.lB⟩
theorem zBk {α β:Type} (f:α→β) {xs:List α} {i:Nat} {x y:α} (hx:xs[i]? = some x) (e:f y=f x):(xs.set i y).map f=xs.map f:=by
 rw [List.map_set,e];refine List.ext_getElem? fun j=>?_
 rw [List.getElem?_set]
 split
 ·rename_i e2
  subst e2;rw [List.getElem?_map,hx]
  split
  ·rfl
  ·rename_i e3
   have:=(List.getElem?_eq_some_iff.1 hx).1
   simp only [List.length_map]at e3
   omega
 ·rfl
theorem RS.putB (a:RS RP R b h n sP capP cs sB capB ls W B) {i k:Nat} {q:LS} {v:PV} {w:List Int} (hq:ls[i]? = some q) (hk:k<q.cs.length) (hv:R v w) (ho:v.one=true):
    h.wr q.s k [v]=some (h.set q.s (q.cs.set k v))∧RS RP R b (h.set q.s (q.cs.set k v)) n sP capP cs sB capB (ls.set i ⟨q.s,q.cap,q.cs.set k v⟩) W (B.set i ((B.getD i []).set k w)):=by
  obtain⟨p1,p2,p3,p4⟩:=a.P;obtain⟨q1,q2,q3,q4⟩:=a.Q;have hm:=List.mem_of_getElem? hq;obtain⟨g1,g2,g3,g4⟩:=a.lok q hm;obtain⟨hil,hie⟩:=List.getElem?_eq_some_iff.1 hq;have hn:=a.lne q hm;have epv:LS.pv ⟨q.s,q.cap,q.cs.set k v⟩=q.pv:=by simp [LS.pv]
  have hmem:∀q',q'∈ls.set i ⟨q.s,q.cap,q.cs.set k v⟩→q'=⟨q.s,q.cap,q.cs.set k v⟩∨(q'∈ls∧q'.s≠q.s):=fun q' hq'=>by
    obtain⟨j,hj⟩:=List.getElem?_of_mem hq';rw [List.getElem?_set]at hj
    split at hj
    · first
      | (cases hj;exact .inl rfl)
      | (split at hj
         · cases hj;exact .inl rfl
         · cases hj)
    · rename_i e
      refine .inr ⟨List.mem_of_getElem? hj,fun e2=>e ?_⟩
      obtain⟨hjl,hje⟩:=List.getElem?_eq_some_iff.1 hj
      have:=(List.getElem_inj (xs:=ls.map LS.s) (i:=i) (j:=j) (h₀:=by rw [List.length_map];exact hil) (h₁:=by rw [List.length_map];exact hjl) a.nd).1 (by rw [List.getElem_map,List.getElem_map,hie,hje,e2])
      exact this
  refine⟨Qh g2 hk ho,⟨p1,by rw [zH,if_neg (Ne.symm hn.1)];exact p2,p3,p4⟩,⟨q1,by rw [zH,if_neg (Ne.symm hn.2),zBk LS.pv hq epv];exact q2,q3,q4⟩,a.ne,fun q' hq'=>?_,fun q' hq'=>?_,?_,a.aP,?_,a.lW,by rw [List.length_set];exact a.lB⟩
  · rcases hmem q' hq' with rfl | ⟨h1,h2⟩
    · exact⟨by show full 1 q.cap (q.cs.set k v).length;rw [List.length_set];exact g1,by rw [zH,if_pos rfl],g3,g4⟩
    · exact(a.lok q' h1).move (by rw [zH,if_neg h2]) (Nat.le_refl _)
  · rcases hmem q' hq' with rfl | ⟨h1,h2⟩
    · exact hn
    · exact a.lne q' h1
  · rw [zBk LS.s (y:=⟨q.s,q.cap,q.cs.set k v⟩) hq rfl]
    exact a.nd
  · have hB:=a.lB
    have hl:=a.lsl;refine zDD a.aB (zDD ?_ hv)
    have:=a.aB.2 i _ _ hq (List.getElem?_eq_getElem (by omega))
    rw [List.getD_eq_getElem?_getD,List.getElem?_eq_getElem (by omega)]
    exact this
theorem RS.imp {RP' R':PV→List Int→Prop} (a:RS RP R b h n sP capP cs sB capB ls W B) (h1:All2 RP' cs W) (h2:RowsG R' ls B):RS RP' R' b h n sP capP cs sB capB ls W B:=⟨a.P,a.Q,a.ne,a.lok,a.lne,a.nd,h1,h2,a.lW,a.lB⟩
theorem zD6 {t o:Nat} {xs:List PV}:∀vs:List PV,sbs t o xs vs=vs.map (sb t o xs)
 | []=>rfl
 | v::vs=>by simp only [sbs,List.map_cons,zD6 vs]
theorem Zo {t o u:Nat} {xs ds:List PV} (hne:u≠t) (ho:h.obj u=some ds):((h.kill t).sub t o xs).obj u=some (sbs t o xs ds):=by
 show(((h.kill t).obj u).map (sbs t o xs))=_
 rw [zEZ,if_neg hne,ho];rfl
def LS.fr (t o:Nat) (xs:List PV) (q:LS):LS:=⟨q.s,q.cap,sbs t o xs q.cs⟩
theorem LS.fr_pv {t o:Nat} {xs:List PV} (q:LS):(LS.fr t o xs q).pv=q.pv:=by simp [LS.fr,LS.pv,qg]
theorem LS.sbs_pv {t o:Nat} {xs:List PV}:∀{ls:List LS},(∀q∈ls,q.s≠t)→sbs t o xs (ls.map LS.pv)=ls.map LS.pv
 | [],_=>rfl
 | q::ls,hn=>by
  have:=hn q (List.mem_cons_self ..)
  simp only [List.map_cons,sbs,LS.sbs_pv fun q' hq=>hn q' (List.mem_cons_of_mem _ hq)]
  simp only [LS.pv,sb,this,false_and,if_false]
theorem LS.fr_ok {t o:Nat} {xs:List PV} {q:LS} (a:q.ok h b) (hn:q.s≠t):(LS.fr t o xs q).ok ((h.kill t).sub t o xs) b:=by
 obtain⟨h1,h2,h3,h4⟩:=a;exact⟨by show full 1 q.cap (sbs t o xs q.cs).length;rw [qg];exact h1,Zo hn h2,h3,h4⟩
theorem LS.fr_same {t o:Nat} {xs:List PV} {ls:List LS} (hb:∀q∈ls,Bels 0 q.cs):ls.map (LS.fr t o xs)=ls:=by
 conv=>rhs;rw [←List.map_id ls]
 refine List.map_congr_left fun q hq=>?_
 show(⟨q.s,q.cap,sbs t o xs q.cs⟩:LS)=q
 rw [Zp (Nat.zero_le _) (hb q hq)]
theorem RS.fzh {RP' R':PV→List Int→Prop} {t o:Nat} {xs:List PV} (a:RS RP R b h n sP capP cs sB capB ls W B) (hn:t≠sP∧t≠sB∧∀q∈ls,q.s≠t) (hP:∀v w,RP v w→RP' (sb t o xs v) w) (hR:∀v w,R v w→R' (sb t o xs v) w):
  RS RP' R' b ((h.kill t).sub t o xs) n sP capP (sbs t o xs cs) sB capB (ls.map (LS.fr t o xs)) W B:=by
 obtain⟨p1,p2,p3,p4⟩:=a.P;obtain⟨q1,q2,q3,q4⟩:=a.Q;have e1:(ls.map (LS.fr t o xs)).map LS.pv=ls.map LS.pv:=by rw [List.map_map];exact List.map_congr_left fun q _=>LS.fr_pv q
 have e2:(ls.map (LS.fr t o xs)).map LS.s=ls.map LS.s:=by rw [List.map_map];exact List.map_congr_left fun q _=>rfl
 have a2:∀{S S':PV→List Int→Prop} {vs:List PV} {ws:List (List Int)},(∀v w,S v w→S' (sb t o xs v) w)→All2 S vs ws→All2 S' (sbs t o xs vs) ws:=fun hS k=>by
  refine⟨by rw [qg];exact k.1,fun j x y hx hy=>?_⟩
  rw [zD6,List.getElem?_map]at hx
  obtain⟨v,hv,rfl⟩:=Option.map_eq_some_iff.1 hx;exact hS _ _ (k.2 j v y hv hy)
 refine⟨⟨p1,Zo (Ne.symm hn.1) p2,p3,p4⟩,⟨q1,by rw [e1,Zo (Ne.symm hn.2.1) q2,LS.sbs_pv hn.2.2],q3,q4⟩,a.ne,fun q hq=>?_,fun q hq=>?_,by rw [e2];exact a.nd,a2 hP a.aP,⟨by rw [List.length_map];exact a.aB.1,fun j x y hx hy=>?_⟩,a.lW,a.lB⟩
 ·obtain⟨q',hq',rfl⟩:=List.mem_map.1 hq
  exact LS.fr_ok (a.lok q' hq') (hn.2.2 q' hq')
 ·obtain⟨q',hq',rfl⟩:=List.mem_map.1 hq
  exact a.lne q' hq'
 ·rw [List.getElem?_map]at hx
  obtain⟨q',hq',rfl⟩:=Option.map_eq_some_iff.1 hx;exact a2 hR (a.aB.2 j q' y hq' hy)
theorem RS.fin (a:RS FI FI b h n sP capP cs sB capB ls W B) (hk:Keep σ h) (hb:σ.next≤b) (k:∀vP vB,IsR vP vB W B→K (.agg [.int .i64 p,vP,vB]) σ):Gh σ K (.agg [.int .i64 p,.sl sP 0 n capP,.sl sB 0 n capB]) h:=by
 obtain⟨p1,p2,p3,p4⟩:=a.P;obtain⟨q1,q2,q3,q4⟩:=a.Q;have e1:=a.csl;have e2:=a.lsl;have et:(TR.agg [.leaf (.int .i64 p),.lst sP capP (cs.map TR.leaf),.lst sB capB (ls.map LS.tr)]).pv=.agg [.int .i64 p,.sl sP 0 n capP,.sl sB 0 n capB]:=by
  simp only [TR.pv,TR.pvs,List.length_map];rw [e1,e2]
 rw [←et];refine Gh.treeF hk ⟨trivial,⟨⟨by rw [List.length_map,e1];exact p1,by rw [zAb];exact p2,by omega,p4⟩,zAc (a.aP.bI 0)⟩,⟨⟨by rw [List.length_map,e2];exact q1,by rw [LS.tr_pvs];exact q2,by omega,q4⟩,LS.trs_okF fun q hq=>?_⟩,trivial⟩ fun aa=>k _ _ ⟨⟨true,.sl (aa sP) 0 cs.length capP,cs,?_,a.aP⟩,⟨true,.sl (aa sB) 0 ls.length capB,TR.fzs aa (ls.map LS.tr),?_,zCQ a.aB⟩⟩
 ·obtain⟨g1,g2,g3,g4⟩:=a.lok q hq
  refine⟨⟨g1,g2,by omega,g4⟩,?_⟩
  obtain⟨k,hk9,rfl⟩:=List.mem_iff_getElem.1 hq;exact(a.aB.2 k _ _ (List.getElem?_eq_getElem hk9) (List.getElem?_eq_getElem (by rw [←a.aB.1];exact hk9))).bI 0
 ·simp only [TR.fz,zAd,List.length_map];rw [e1,a.lW]
 ·simp only [TR.fz,List.length_map];rw [e2,a.lB]
theorem SU.fzh {T:PHeap} {p0 t o:Nat} {v0:PV} {fs:List (PV×List PV)} {xs:List PV} (w:PWF T) (a:SU T h p0 v0 fs ls) (ht:T.next≤t) (hp:t≠p0) (hv:sb t o xs v0=v0) (hf:∀f∈fs,∀off l c,f.1≠.sl t off l c) (hl:∀q∈ls,q.s≠t):
  SU T ((h.kill t).sub t o xs) p0 v0 (fs.map fun f=>(f.1,sbs t o xs f.2)) (ls.map (LS.fr t o xs)):=by
 have hsame:∀f∈fs,sb t o xs f.1=f.1:=fun f hm=>by
  obtain⟨s,cap,e,_⟩:=a.acc f hm;rw [e]
  have:s≠t:=fun e2=>hf f hm 0 f.2.length cap (by rw [e,e2])
  simp only [sb,this,false_and,if_false]
 have hmem:∀{f:PV×List PV},f∈fs.map (fun f=>(f.1,sbs t o xs f.2))→∃f',f'∈fs∧f=(f'.1,sbs t o xs f'.2):=fun hm=>by
  obtain⟨f',h1,h2⟩:=List.mem_map.1 hm;exact⟨f',h1,h2.symm⟩
 have hfst:(fs.map fun f=>(f.1,sbs t o xs f.2)).map Prod.fst=fs.map Prod.fst:=by rw [List.map_map];exact List.map_congr_left fun f _=>rfl
 refine⟨(a.keep.kill ht).sub w ht,?_,a.p0b,fun f hm=>?_,fun f hm=>?_,fun i j f g hi hj hne s off l c e=>?_,fun q hq=>?_,fun q hq=>?_⟩
 ·rw [hfst,Zo (Ne.symm hp) a.obj]
  simp only [sbs,hv]
  congr 2
  rw [zD6,List.map_map];exact List.map_congr_left fun f hm=>hsame f hm
 ·obtain⟨f',h1,rfl⟩:=hmem hm
  obtain⟨s,cap,e,g1,g2,g3,g4,g5⟩:=a.acc f' h1
  have:s≠t:=fun e2=>hf f' h1 0 f'.2.length cap (by rw [e,e2])
  exact⟨s,cap,by show f'.1=_;rw [e,qg],by show full 1 cap (sbs t o xs f'.2).length;rw [qg];exact g1,Zo this g2,by show(sbs t o xs f'.2).length=(sbs t o xs f'.2).length*1;rw [Nat.mul_one],g4,g5⟩
 ·obtain⟨f',h1,rfl⟩:=hmem hm
  exact a.ne f' h1
 ·rw [List.getElem?_map]at hi hj
  obtain⟨f',h1,rfl⟩:=Option.map_eq_some_iff.1 hi;obtain⟨g',h2,rfl⟩:=Option.map_eq_some_iff.1 hj;exact a.dis i j f' g' h1 h2 hne s off l c e
 ·obtain⟨q',h1,rfl⟩:=List.mem_map.1 hq
  exact LS.fr_ok (a.lok q' h1) (hl q' h1)
 ·obtain⟨q',h1,rfl⟩:=List.mem_map.1 hq
  refine⟨(a.lne q' h1).1,fun f hm=>?_⟩
  obtain⟨f',h2,rfl⟩:=hmem hm;exact(a.lne q' h1).2 f' h2
theorem SU.move {T h2:PHeap} {p0:Nat} {v0:PV} {fs:List (PV×List PV)} (a:SU T h p0 v0 fs ls) (kT:Keep T h2) (hn:h.next≤h2.next) (ho:∀t,(t=p0∨(∃f∈fs,∃off l c,f.1=.sl t off l c)∨∃q∈ls,q.s=t)→h2.obj t=h.obj t):SU T h2 p0 v0 fs ls:=
 ⟨kT,by rw [ho _ (.inl rfl)];exact a.obj,⟨a.p0b.1,by have:=a.p0b.2;omega⟩,fun f hf=>zA8 (a.acc f hf) (fun s off l c e=>ho _ (.inr (.inl ⟨f,hf,off,l,c,e⟩))) hn,a.ne,a.dis,fun q hq=>(a.lok q hq).move (ho _ (.inr (.inr ⟨q,hq,rfl⟩))) hn,a.lne⟩
theorem SU.rs {T:PHeap} {p0:Nat} {v0 vP vB:PV} {cC:List PV} (a:SU T h p0 v0 [(vP,cs),(vB,cC)] ls) (hC:cC=ls.map LS.pv) (nd:(ls.map LS.s).Nodup) (hP:All2 RP cs W) (hB:RowsG R ls B) (lW:W.length=n) (lB:B.length=n):
  ∃sP capP sB capB,vP=.sl sP 0 n capP∧vB=.sl sB 0 n capB∧RS RP R T.next h n sP capP cs sB capB ls W B:=by
 have hcl:cs.length=n:=hP.1.trans lW;have hll:cC.length=n:=by rw [hC,List.length_map];exact hB.1.trans lB
 obtain⟨sP,capP,e1,p1,p2,p3,p4,p5⟩:=a.acc (vP,cs) (by simp)
 obtain⟨sB,capB,e2,q1,q2,q3,q4,q5⟩:=a.acc (vB,cC) (by simp)
 dsimp only at e1 p1 p2 p3 e2 q1 q2 q3
 rw [hcl]at e1 p1
 rw [hll]at e2 q1
 refine⟨sP,capP,sB,capB,e1,e2,⟨p1,p2,p4,p5⟩,⟨q1,by rw [←hC];exact q2,q4,q5⟩,fun e=>?_,a.lok,fun q hq=>⟨fun e=>?_,fun e=>?_⟩,nd,hP,hB,lW,lB⟩
 ·exact a.dis 0 1 (vP,cs) (vB,cC) rfl rfl (by omega) sP 0 n capP e1 0 n capB (by rw [e2,e])
 ·exact(a.lne q hq).2 (vP,cs) (by simp) 0 n capP (by rw [e];exact e1)
 ·exact(a.lne q hq).2 (vB,cC) (by simp) 0 n capB (by rw [e];exact e2)
theorem res3 {g:PHeap} {r:Nat} {u0 u1 u2 a0 a1 a2:PV} (z0:u0.one=true) (z1:u1.one=true) (z2:u2.one=true) (o:g.obj r=some [a0,a1,a2]):g.wr r 0 [u0,u1,u2]=some (g.set r [u0,u1,u2])∧(g.set r [u0,u1,u2]).rd r 0 3=some [u0,u1,u2]:=
 ⟨by rw [qH o,if_pos ⟨by simp,by simp only [List.all_cons,List.all_nil,z0,z1,z2];rfl⟩];rfl,by rw [qO,if_pos rfl];rfl⟩
end Go.Proofs
namespace Go.Proofs
open Go.Ab Go.Lie
variable {σ σ0 h h':PHeap} {K:PV→PHeap→Prop} {vC:PV} {bs:List Int} {s b n:Nat} {p:Int} {sP sB:Nat} {capP capB:Cap} {cs:List PV} {ls:List LS} {W:List (List Int)} {B:List (List (List Int))}
abbrev zrow (n:Nat):List Int:=List.replicate n 0
def zB (n i:Nat):List (List (List Int)):=(List.range i).map fun j=>List.replicate (n-1-j) (zrow n)
def Any (_:PV) (_:List Int):Prop:=True
theorem zHR (n i:Nat):zB n (i+1)=zB n i++[List.replicate (n-1-i) (zrow n)]:=by unfold zB;rw [List.range_succ,List.map_append];rfl
theorem zAU (n i:Nat):(zB n i).length=i:=by simp [zB]
theorem zLe {vs:List PV} {ws:List (List Int)} (e:vs.length=ws.length):All2 Any vs ws:=⟨e,fun _ _ _ _ _=>trivial⟩
theorem zGR {α β:Type} {R:α→β→Prop} {xs:List α} {y:β} {k:Nat} (a:All2 R xs (List.replicate k y)) {x:α} (hx:R x y):All2 R (xs++[x]) (List.replicate (k+1) y):=by
 rw [List.replicate_succ'];exact a.snoc hx
structure CycI (T h:PHeap) (m p0 n q:Nat) (p:Int) (v3 vB:PV) (cP cC:List PV) (ls:List LS) (vR:PV) (cells:List PV):Prop where
 su:SU T h p0 (.int .i64 p) [(v3,cP),(vB,cC)] ls
 row:PSl m 1 h vR q cells
 all:All2 FI cells (List.replicate q (zrow n))
 le:m≤h.next
 lo:∀t,(t=p0∨(∃f∈[(v3,cP),(vB,cC)],∃off l c,f.1=.sl t off l c)∨∃q∈ls,q.s=t)→t<m
theorem zFz (hn1:1≤n) (hn6:n≤6)
  (hk:∀sP capP cs sB capB ls h,Keep σ h→RS Any FI σ.next h n sP capP cs sB capB ls (List.replicate n []) (zB n n)→K (.agg [.int .i64 p,.sl sP 0 n capP,.sl sB 0 n capB]) h):
  zA Tryz.prog 103 [.int .i64 p,.int .i64 n] σ K:=by
 refine zA.pwf fun w=>?_
 generalize hT:σ.new [.int .i64 0,.fz true .nils 0 [],.fz true .nils 0 []]=T;have hTn:T.next=σ.next+1:=by rw [←hT];rfl
 have hkT:Keep σ T:=by rw [←hT];exact zC σ _
 have wT:PWF T:=by rw [←hT];exact w.newB ⟨trivial,trivial,trivial,trivial⟩
 have hres:∀{g:PHeap} {u0 u1 u2:PV},Keep T g→u0.one=true→u1.one=true→u2.one=true→g.wr σ.next 0 [u0,u1,u2]=some (g.set σ.next [u0,u1,u2])∧(g.set σ.next [u0,u1,u2]).rd σ.next 0 3=some [u0,u1,u2]:=fun {g u0 u1 u2} k z0 z1 z2=>by
  have hres:g.obj σ.next=some [.int .i64 0,.fz true .nils 0 [],.fz true .nils 0 []]:=by rw [k.obj _ (by omega),←hT];simp only [pwA,seval,-iQ0]
  exact⟨by rw [qH hres,if_pos ⟨by simp,by simp only [List.all_cons,List.all_nil,z0,z1,z2];rfl⟩];rfl,by rw [qO,if_pos rfl];rfl⟩
 refine zD mix Tryz.func103 ?_;simp only [pwA,seval,-iQ0];rw [hT];refine zF (fun m us h=>∃(i:Nat) (vQ vB:PV) (cP cC:List PV) (ls:List LS),i≤n∧m=n-i∧us=[.int .i64 n,.ptr σ.next 0,.ptr (σ.next+3) 0,.int .i64 i]∧SU T h (σ.next+3) (.int .i64 p) [(vQ,cP),(vB,cC)] ls∧cP.length=i∧cC=ls.map LS.pv∧(ls.map LS.s).Nodup∧RowsG FI ls (zB n i)) n ?_ ?_
 ·refine⟨0,.sl (σ.next+1) 0 0 (.known 0),.sl (σ.next+2) 0 0 (.known 0),[],[],[],by omega,by omega,rfl,⟨((zC T _).new _).new _,by simp only [pwA,seval,-iQ0,hTn],⟨by omega,by first | (simp only [pwA,seval,-iQ0,hTn];done) | (simp only [pwA,seval,-iQ0,hTn];omega)⟩,fun f hf=>?_,fun f hf off l c e=>?_,fun i j f g hf hg hne s off l c e off' l' c' e'=>?_,fun q hq=>(by cases hq),fun q hq=>(by cases hq)⟩,rfl,rfl,List.nodup_nil,All2.nil _⟩
  ·simp only [List.mem_cons,List.not_mem_nil,or_false]at hf
   rcases hf with rfl|rfl
   ·exact PSl.own (.inr rfl) (by simp only [pwA,seval,-iQ0,hTn]) rfl (by omega) (by first | (simp only [pwA,seval,-iQ0,hTn];done) | (simp only [pwA,seval,-iQ0,hTn];omega))
   ·exact PSl.own (.inr rfl) (by simp only [pwA,seval,-iQ0,hTn]) rfl (by omega) (by first | (simp only [pwA,seval,-iQ0,hTn];done) | (simp only [pwA,seval,-iQ0,hTn];omega))
  ·simp only [List.mem_cons,List.not_mem_nil,or_false]at hf
   rcases hf with rfl|rfl<;>(simp only [PV.sl.injEq]at e;omega)
  ·match i,j with
   | 0,0=>exact hne rfl
   | 1,1=>exact hne rfl
   | 0,1 | 1,0=>cases hf;cases hg;simp only [PV.sl.injEq]at e e';omega
   | i+2,_=>simp at hf
   | 0,j+2 | 1,j+2=>simp at hg
 as_aux_lemma=>
 rintro m us h ⟨i,vQ,vB,cP,cC,ls,hi,rfl,rfl,a,hcP,hcC,hnd,hcR⟩
 have aP:=a.acc (vQ,cP) (by simp)
 have aC:=a.acc (vB,cC) (by simp)
 have f3:h.rd (σ.next+3) 0 3=some [.int .i64 p,vQ,vB]:=by rw [zf a.obj];rfl
 have f1:h.rd1 (σ.next+3) 1=some vQ:=by rw [zG a.obj];rfl
 simp only [pwA,seval,-iQ0];refine iteI (fun hlt=>?_) fun hge=>?_
 rotate_left
 ·as_aux_lemma=>
  have hie:i=n:=by omega
  subst hie;obtain⟨g1,g2⟩:=hres a.keep (u0:=.int .i64 p) rfl aP.one aC.one;simp only [pwA,seval,-iQ0,f3,g1,g2];obtain⟨sP,capP,sB,capB,e1,e2,rs⟩:=a.rs (n:=i) (RP:=Any) (R:=FI) (W:=List.replicate i []) (B:=zB i i) hcC hnd (zLe (by rw [hcP];simp)) hcR (by simp) (zAU i i)
  subst e1 e2;exact hk sP capP cP sB capB ls _ ((hkT.trans a.keep).set (Nat.le_refl _) _) ((rs.low (by omega)).move (fun t ht=>by
   have:=(rs.lt ht).1
   rw [zH,if_neg (by omega)]) (Nat.le_refl _))
 have hlt':i<n:=by omega
 have wi1:IntKind.i64.wrap ((i:Int)+1)=((i+1:Nat):Int):=wrapS hlt' (by omega)
 have hn3:¬σ.next+3=h.next:=by have:=a.p0b.2;omega
 have hone1:∀f,f∈[(vQ,cP),(vB,cC)]→f.1.one=true:=fun f hf=>(a.acc f hf).one
 simp only [pwA,seval,-iQ0,mk8 (n:=n) (by omega),mkL (n:=n) (by omega),ZB,wi1]
 refine iteI (fun h1=>?_) fun h1=>?_
 rotate_left
 ·generalize hX:(List.replicate n (PV.int .i64 0))=X
  clear hX;simp only [pwA,seval,-iQ0,hn3,f1];refine SU.push (a.keepI (zC h X)) (j:=0) (bytes:=24) rfl (by omega) (by omega) hone1 fun v3 h3 z4 z5 z6 a3=>?_
  simp only [List.set_cons_zero,List.set_cons_succ,List.map_cons,List.map_nil]at z6 a3
  generalize h3.set (σ.next+3) [.int .i64 p,v3,vB]=h4 at *
  simp only [pwA,seval,-iQ0,z4,z5,z6,wi1];clear z4 z5 z6 f1 f3;have lo4:∀t,(t=σ.next+3∨(∃f∈[(v3,cP++[PV.sl h.next 0 n (.known n)]),(vB,cC)],∃off l c,f.1=.sl t off l c)∨∃q∈ls,q.s=t)→t<h4.next:=fun t ht=>by
   rcases ht with rfl|⟨f,hf,off,l,c,e⟩|⟨q,hq,rfl⟩
   ·exact a3.p0b.2
   ·exact zAH (a3.acc f hf) e
   ·exact(a3.lok q hq).2.2.2
  refine Zx (fun m us h=>∃(q:Nat) (vR:PV) (cP' cells:List PV),i+(1+q)≤n∧m=n-(i+(1+q))∧us=[.int .i64 n,.ptr σ.next 0,.ptr (σ.next+3) 0,.int .i64 i,vR,.int .i64 ((i+(1+q):Nat):Int)]∧CycI T h h4.next (σ.next+3) n q p v3 vB cP' cC ls vR cells∧cP'.length=i+1) (n-(i+1)) (.here ⟨0,.sl h4.next 0 0 (.known 0),_,[],by omega,rfl,rfl,⟨a3.keepI (zC _ _),PSl.new _ 1 rfl (Nat.le_refl _),All2.nil _,Nat.le_succ _,lo4⟩,by rw [List.length_append];simp;omega⟩) ?_
  rintro m us h7 ⟨q,vR,cP',cells,hq,rfl,rfl,c,hcP'⟩
  simp only [pwA,seval,-iQ0];refine iteI (fun hltq=>?_) fun hgeq=>?_
  rotate_left
  ·have hqe:q=n-1-i:=by omega
   subst hqe;obtain⟨su,row,all,le,lo⟩:=c;obtain⟨t,cap,rfl,hf,q2,q3,q4,q5⟩:=row;have f2:h7.rd1 (σ.next+3) 2=some vB:=by rw [zG su.obj];rfl
   have hn9:¬σ.next+3=h7.next:=by have:=su.p0b.2;omega
   have hone3:∀f,f∈[(v3,cP'),(vB,cC)]→f.1.one=true:=fun f hf=>(su.acc f hf).one
   have hct:cells.length=n-1-i:=by omega
   have hfr:∀u,(u=σ.next+3∨(∃f∈[(v3,cP'),(vB,cC)],∃off l c,f.1=.sl u off l c)∨∃q∈ls,q.s=u)→t≠u:=fun u hu e=>by have:=lo u hu;omega
   have a10:=SU.more (q:=⟨t,cap,cells⟩) su ⟨by rw [hct];exact hf,q2,by have:=a3.keep.next;show T.next≤t;omega,q5⟩ ⟨hfr _ (.inl rfl),fun f hf off l c e=>hfr t (.inr (.inl ⟨f,hf,off,l,c,e⟩)) rfl⟩
   simp only [pwA,seval,-iQ0,f2,hn9];refine SU.push a10 (j:=1) (bytes:=24) rfl (by rw [hcC,List.length_map,hcR.1,zAU];omega) (by omega) hone3 fun v5 h5 z1 z2 z3 a5=>?_
   simp only [List.set_cons_zero,List.set_cons_succ,List.map_cons,List.map_nil]at z3 a5
   generalize h5.set (σ.next+3) [.int .i64 p,v3,v5]=h6 at *
   simp only [pwA,seval,-iQ0,z1,z2,z3,wi1];refine⟨_,by omega,i+1,v3,v5,cP',_,ls++[⟨t,cap,cells⟩],by omega,rfl,rfl,a5,hcP',?_,?_,?_⟩
   ·rw [hcC,List.map_append];simp only [List.map_cons,List.map_nil,LS.pv];rw [hct]
   ·rw [List.map_append,List.nodup_append]
    refine⟨hnd,by simp,fun x hx y hy e=>?_⟩
    simp only [List.map_cons,List.map_nil,List.mem_singleton]at hy
    obtain⟨q',hq',rfl⟩:=List.mem_map.1 hx;exact hfr q'.s (.inr (.inr ⟨q',hq',rfl⟩)) (by rw [e,hy])
   ·rw [zHR]
    exact All2.snoc hcR all
  have hq':i+(1+q)<n:=by omega
  have e5:IntKind.i64.wrap (((i+(1+q):Nat):Int)+1)=((i+(1+(q+1)):Nat):Int):=by rw [wrap64 (by omega) (by omega)];omega
  obtain⟨su,row,all,le,lo⟩:=c;simp only [pwA,seval,-iQ0,mk8 (n:=n) (by omega),mkL (n:=n) (by omega),ZB]
  refine PAcc.pushS (σb:=T) (bytes:=24) (su.keep.new _) ((row.acc.keep (zC _ _)).low (by have:=a3.keep.next;omega)) rfl (by omega) (by omega) fun v9 h8 k8 p8 o8 n8 l8=>?_
  have hnx:(h7.new (pis (List.replicate n 0))).next=h7.next+1:=rfl;rw [hnx]at o8 n8 l8
  simp only [pwA,seval,-iQ0,e5];have hrR:∀t,t<h4.next→∀off l c,vR≠.sl t off l c:=fun t ht off l c e=>by
   obtain⟨s',cap',e',_,_,_,g4,_⟩:=row;rw [e']at e
   cases e;omega
  have su8:SU T h8 (σ.next+3) (.int .i64 p) [(v3,cP'),(vB,cC)] ls:=su.move k8 (by omega) fun t ht=>by
   have:=lo t ht
   rw [o8 t (by omega) (hrR t this),zP,if_neg (by omega)]
  have hnew:h8.obj h7.next=some (pis (zrow n)):=by
   rw [o8 _ (by omega) (fun off l c e=>by have:=zAH row e;omega),zP,if_pos rfl]
  have hT7:T.next≤h7.next:=su.keep.next;refine⟨n-(i+(1+(q+1))),by omega,.fzh h7.next (pis (zrow n)) hnew (zZ _ _) fun o1=>.here ⟨q+1,v9,sbs h7.next o1 (pis (zrow n)) cP',cells++[.fz true (.sl o1 0 n (.known n)) n (pis (zrow n))],by omega,rfl,?_,?_,by rw [qg];exact hcP'⟩⟩
  ·have:sb h7.next o1 (pis (zrow n)) v9=v9:=by
    obtain⟨s',cap',e',_,_,_,g4,_⟩:=p8
    have:s'≠h7.next:=fun e=>n8 h7.next (by omega) 0 (q+1) cap' (by rw [e',e])
    rw [e'];simp only [sb,this,false_and,if_false]
   simp only [sbs,sb,this]
  have hbel:∀q∈ls,Bels 0 q.cs:=fun q hq=>by
   obtain⟨k,hk9,rfl⟩:=List.mem_iff_getElem.1 hq;exact(hcR.2 k _ _ (List.getElem?_eq_getElem hk9) (List.getElem?_eq_getElem (by rw [←hcR.1];exact hk9))).bI 0
  have hls:∀q∈ls,q.s≠h7.next:=fun q hq e=>by have:=lo _ (.inr (.inr ⟨q,hq,e⟩));omega
  have su9:=SU.fzh (o:=o1) (xs:=pis (zrow n)) wT su8 hT7 (by have:=lo _ (.inl rfl);omega) rfl (fun f hf off l c e=>by have:=lo _ (.inr (.inl ⟨f,hf,off,l,c,e⟩));omega) hls
  rw [LS.fr_same hbel]at su9
  simp only [List.map_cons,List.map_nil]at su9
  rw [hcC,LS.sbs_pv hls,←hcC]at su9
  refine⟨su9,?_,?_,by show h4.next≤h8.next;omega,fun t ht=>lo t ?_⟩
  ·obtain⟨s',cap',e',g1,g2,g3,g4,g5⟩:=p8
   have hne:s'≠h7.next:=fun e=>n8 h7.next (by omega) 0 (q+1) cap' (by rw [e',e])
   refine⟨s',cap',e',g1,?_,?_,?_,g5⟩
   ·rw [Zo hne g2,zD5 (all.bI 0) (by simp [capOK])]
   ·rw [List.length_append]at g3 ⊢;exact g3
   ·rcases Nat.lt_or_ge s' h4.next with g | g
    ·exact absurd e' (n8 s' (by omega) 0 (q+1) cap')
    ·exact g
  ·exact zGR all ⟨true,_,by rw [List.length_replicate]⟩
  ·rcases ht with e | ⟨f,hf,off,l,c,e⟩ | e
   ·exact .inl e
   ·simp only [List.mem_cons,List.not_mem_nil,or_false]at hf
    rcases hf with rfl|rfl
    ·exact .inr (.inl ⟨(v3,cP'),by simp,off,l,c,e⟩)
    ·exact .inr (.inl ⟨(vB,cC),by simp,off,l,c,e⟩)
   ·exact .inr (.inr e)
 ·have h1':i+1<n:=by omega
  simp only [pwA,seval,-iQ0,h1',List.length_replicate,zY,Nat.succ_le_of_lt h1'];generalize hX:(List.take (i+1) (List.replicate n (PV.int .i64 0))++[PV.int IntKind.i64 1]++List.drop (i+2) (List.replicate n (PV.int .i64 0)))=X;clear hX;simp only [pwA,seval,-iQ0,hn3,f1];refine SU.push (a.keepI (zC h X)) (j:=0) (bytes:=24) rfl (by omega) (by omega) hone1 fun v3 h3 z4 z5 z6 a3=>?_
  simp only [List.set_cons_zero,List.set_cons_succ,List.map_cons,List.map_nil]at z6 a3
  generalize h3.set (σ.next+3) [.int .i64 p,v3,vB]=h4 at *
  simp only [pwA,seval,-iQ0,z4,z5,z6,wi1];clear z4 z5 z6 f1 f3;have lo4:∀t,(t=σ.next+3∨(∃f∈[(v3,cP++[PV.sl h.next 0 n (.known n)]),(vB,cC)],∃off l c,f.1=.sl t off l c)∨∃q∈ls,q.s=t)→t<h4.next:=fun t ht=>by
   rcases ht with rfl|⟨f,hf,off,l,c,e⟩|⟨q,hq,rfl⟩
   ·exact a3.p0b.2
   ·exact zAH (a3.acc f hf) e
   ·exact(a3.lok q hq).2.2.2
  refine Zx (fun m us h=>∃(q:Nat) (vR:PV) (cP' cells:List PV),i+(1+q)≤n∧m=n-(i+(1+q))∧us=[.int .i64 n,.ptr σ.next 0,.ptr (σ.next+3) 0,.int .i64 i,vR,.int .i64 ((i+(1+q):Nat):Int)]∧CycI T h h4.next (σ.next+3) n q p v3 vB cP' cC ls vR cells∧cP'.length=i+1) (n-(i+1)) (.here ⟨0,.sl h4.next 0 0 (.known 0),_,[],by omega,rfl,rfl,⟨a3.keepI (zC _ _),PSl.new _ 1 rfl (Nat.le_refl _),All2.nil _,Nat.le_succ _,lo4⟩,by rw [List.length_append];simp;omega⟩) ?_
  rintro m us h7 ⟨q,vR,cP',cells,hq,rfl,rfl,c,hcP'⟩
  simp only [pwA,seval,-iQ0];refine iteI (fun hltq=>?_) fun hgeq=>?_
  rotate_left
  ·have hqe:q=n-1-i:=by omega
   subst hqe;obtain⟨su,row,all,le,lo⟩:=c;obtain⟨t,cap,rfl,hf,q2,q3,q4,q5⟩:=row;have f2:h7.rd1 (σ.next+3) 2=some vB:=by rw [zG su.obj];rfl
   have hn9:¬σ.next+3=h7.next:=by have:=su.p0b.2;omega
   have hone3:∀f,f∈[(v3,cP'),(vB,cC)]→f.1.one=true:=fun f hf=>(su.acc f hf).one
   have hct:cells.length=n-1-i:=by omega
   have hfr:∀u,(u=σ.next+3∨(∃f∈[(v3,cP'),(vB,cC)],∃off l c,f.1=.sl u off l c)∨∃q∈ls,q.s=u)→t≠u:=fun u hu e=>by have:=lo u hu;omega
   have a10:=SU.more (q:=⟨t,cap,cells⟩) su ⟨by rw [hct];exact hf,q2,by have:=a3.keep.next;show T.next≤t;omega,q5⟩ ⟨hfr _ (.inl rfl),fun f hf off l c e=>hfr t (.inr (.inl ⟨f,hf,off,l,c,e⟩)) rfl⟩
   simp only [pwA,seval,-iQ0,f2,hn9];refine SU.push a10 (j:=1) (bytes:=24) rfl (by rw [hcC,List.length_map,hcR.1,zAU];omega) (by omega) hone3 fun v5 h5 z1 z2 z3 a5=>?_
   simp only [List.set_cons_zero,List.set_cons_succ,List.map_cons,List.map_nil]at z3 a5
   generalize h5.set (σ.next+3) [.int .i64 p,v3,v5]=h6 at *
   simp only [pwA,seval,-iQ0,z1,z2,z3,wi1];refine⟨_,by omega,i+1,v3,v5,cP',_,ls++[⟨t,cap,cells⟩],by omega,rfl,rfl,a5,hcP',?_,?_,?_⟩
   ·rw [hcC,List.map_append];simp only [List.map_cons,List.map_nil,LS.pv];rw [hct]
   ·rw [List.map_append,List.nodup_append]
    refine⟨hnd,by simp,fun x hx y hy e=>?_⟩
    simp only [List.map_cons,List.map_nil,List.mem_singleton]at hy
    obtain⟨q',hq',rfl⟩:=List.mem_map.1 hx;exact hfr q'.s (.inr (.inr ⟨q',hq',rfl⟩)) (by rw [e,hy])
   ·rw [zHR]
    exact All2.snoc hcR all
  have hq':i+(1+q)<n:=by omega
  have e5:IntKind.i64.wrap (((i+(1+q):Nat):Int)+1)=((i+(1+(q+1)):Nat):Int):=by rw [wrap64 (by omega) (by omega)];omega
  obtain⟨su,row,all,le,lo⟩:=c;simp only [pwA,seval,-iQ0,mk8 (n:=n) (by omega),mkL (n:=n) (by omega),ZB]
  refine PAcc.pushS (σb:=T) (bytes:=24) (su.keep.new _) ((row.acc.keep (zC _ _)).low (by have:=a3.keep.next;omega)) rfl (by omega) (by omega) fun v9 h8 k8 p8 o8 n8 l8=>?_
  have hnx:(h7.new (pis (List.replicate n 0))).next=h7.next+1:=rfl;rw [hnx]at o8 n8 l8
  simp only [pwA,seval,-iQ0,e5];have hrR:∀t,t<h4.next→∀off l c,vR≠.sl t off l c:=fun t ht off l c e=>by
   obtain⟨s',cap',e',_,_,_,g4,_⟩:=row;rw [e']at e
   cases e;omega
  have su8:SU T h8 (σ.next+3) (.int .i64 p) [(v3,cP'),(vB,cC)] ls:=su.move k8 (by omega) fun t ht=>by
   have:=lo t ht
   rw [o8 t (by omega) (hrR t this),zP,if_neg (by omega)]
  have hnew:h8.obj h7.next=some (pis (zrow n)):=by
   rw [o8 _ (by omega) (fun off l c e=>by have:=zAH row e;omega),zP,if_pos rfl]
  have hT7:T.next≤h7.next:=su.keep.next;refine⟨n-(i+(1+(q+1))),by omega,.fzh h7.next (pis (zrow n)) hnew (zZ _ _) fun o1=>.here ⟨q+1,v9,sbs h7.next o1 (pis (zrow n)) cP',cells++[.fz true (.sl o1 0 n (.known n)) n (pis (zrow n))],by omega,rfl,?_,?_,by rw [qg];exact hcP'⟩⟩
  ·have:sb h7.next o1 (pis (zrow n)) v9=v9:=by
    obtain⟨s',cap',e',_,_,_,g4,_⟩:=p8
    have:s'≠h7.next:=fun e=>n8 h7.next (by omega) 0 (q+1) cap' (by rw [e',e])
    rw [e'];simp only [sb,this,false_and,if_false]
   simp only [sbs,sb,this]
  have hbel:∀q∈ls,Bels 0 q.cs:=fun q hq=>by
   obtain⟨k,hk9,rfl⟩:=List.mem_iff_getElem.1 hq;exact(hcR.2 k _ _ (List.getElem?_eq_getElem hk9) (List.getElem?_eq_getElem (by rw [←hcR.1];exact hk9))).bI 0
  have hls:∀q∈ls,q.s≠h7.next:=fun q hq e=>by have:=lo _ (.inr (.inr ⟨q,hq,e⟩));omega
  have su9:=SU.fzh (o:=o1) (xs:=pis (zrow n)) wT su8 hT7 (by have:=lo _ (.inl rfl);omega) rfl (fun f hf off l c e=>by have:=lo _ (.inr (.inl ⟨f,hf,off,l,c,e⟩));omega) hls
  rw [LS.fr_same hbel]at su9
  simp only [List.map_cons,List.map_nil]at su9
  rw [hcC,LS.sbs_pv hls,←hcC]at su9
  refine⟨su9,?_,?_,by show h4.next≤h8.next;omega,fun t ht=>lo t ?_⟩
  ·obtain⟨s',cap',e',g1,g2,g3,g4,g5⟩:=p8
   have hne:s'≠h7.next:=fun e=>n8 h7.next (by omega) 0 (q+1) cap' (by rw [e',e])
   refine⟨s',cap',e',g1,?_,?_,?_,g5⟩
   ·rw [Zo hne g2,zD5 (all.bI 0) (by simp [capOK])]
   ·rw [List.length_append]at g3 ⊢;exact g3
   ·rcases Nat.lt_or_ge s' h4.next with g | g
    ·exact absurd e' (n8 s' (by omega) 0 (q+1) cap')
    ·exact g
  ·exact zGR all ⟨true,_,by rw [List.length_replicate]⟩
  ·rcases ht with e | ⟨f,hf,off,l,c,e⟩ | e
   ·exact .inl e
   ·simp only [List.mem_cons,List.not_mem_nil,or_false]at hf
    rcases hf with rfl|rfl
    ·exact .inr (.inl ⟨(v3,cP'),by simp,off,l,c,e⟩)
    ·exact .inr (.inl ⟨(vB,cC),by simp,off,l,c,e⟩)
   ·exact .inr (.inr e)
def FI0 (v:PV) (w:List Int):Prop:=w=[]∨FI v w
def FI1 (t n:Nat) (v:PV) (w:List Int):Prop:=w=[]∨FI v w∨(v=.sl t 0 n (.known n)∧w=zrow n)
def zW (n i:Nat):List (List Int):=List.replicate i (zrow n)++List.replicate (n-i) []
theorem zMe {i:Nat} (hi:i<n):(zW n i).set i (zrow n)=zW n (i+1):=by
 unfold zW;rw [List.set_append_right _ _ (by simp),List.length_replicate,Nat.sub_self,show n-i=(n-(i+1))+1 by omega,List.replicate_succ,List.set_cons_zero,List.replicate_succ',List.append_assoc]
 rfl
theorem zML {t:Nat} (X Y:List PV) (ht:t≠h.next):(h.new X).set t Y=(h.set t Y).new X:=by
 have e:∀u,((h.new X).set t Y).obj u=((h.set t Y).new X).obj u:=fun u=>by
  rw [zH,zP,zP,zH]
  show(if u=t then some Y else if u=h.next then some X else h.obj u)=(if u=h.next then some X else if u=t then some Y else h.obj u)
  by_cases e1:u=t
  ·by_cases e2:u=h.next
   ·exact absurd (e1.symm.trans e2) ht
   ·simp [e1,ht]
  ·simp [e1]
 show(⟨h.next+1,h.top,((h.new X).set t Y).obj⟩:PHeap)=⟨h.next+1,h.top,((h.set t Y).new X).obj⟩
 rw [funext e]
structure FlatI (T h:PHeap) (p0 n i:Nat) (p:Int) (sP:Nat) (capP:Cap) (cs:List PV) (sB:Nat) (capB:Cap) (ls:List LS):Prop where
 keep:Keep T h
 obj:h.obj p0=some [.int .i64 p,.sl sP 0 n capP,.sl sB 0 n capB]
 lt:p0<h.next
 ge:T.next≤p0
 ne:∀t,(t=sP∨t=sB∨∃q∈ls,q.s=t)→p0≠t
 rs:RS FI0 FI T.next h n sP capP cs sB capB ls (zW n i) (zB n n)
theorem zBH (hn1:1≤n) (hn6:n≤6)
  (hk:∀sP capP cs sB capB ls h,Keep σ h→RS FI FI σ.next h n sP capP cs sB capB ls (List.replicate n (zrow n)) (zB n n)→K (.agg [.int .i64 p,.sl sP 0 n capP,.sl sB 0 n capB]) h):
  zA Tryz.prog 77 [.int .i64 p,.int .i64 n] σ K:=by
 refine zA.pwf fun w=>?_
 generalize hT:σ.new [.int .i64 0,.fz true .nils 0 [],.fz true .nils 0 []]=T;have hTn:T.next=σ.next+1:=by rw [←hT];rfl
 have hkT:Keep σ T:=by rw [←hT];exact zC σ _
 have wT:PWF T:=by rw [←hT];exact w.newB ⟨trivial,trivial,trivial,trivial⟩
 have hres:∀{g:PHeap} {u0 u1 u2:PV},Keep T g→u0.one=true→u1.one=true→u2.one=true→g.wr σ.next 0 [u0,u1,u2]=some (g.set σ.next [u0,u1,u2])∧(g.set σ.next [u0,u1,u2]).rd σ.next 0 3=some [u0,u1,u2]:=fun {g u0 u1 u2} k z0 z1 z2=>by
  have hres:g.obj σ.next=some [.int .i64 0,.fz true .nils 0 [],.fz true .nils 0 []]:=by rw [k.obj _ (by omega),←hT];simp only [pwA,seval,-iQ0]
  exact⟨by rw [qH hres,if_pos ⟨by simp,by simp only [List.all_cons,List.all_nil,z0,z1,z2];rfl⟩];rfl,by rw [qO,if_pos rfl];rfl⟩
 refine zD mix Tryz.func77 ?_;simp only [pwA,seval,-iQ0];rw [hT];refine zFz hn1 hn6 fun sP capP cs sB capB ls h1 k1 rs1=>?_
 have hn1':=k1.next;simp only [pwA,seval,-iQ0];refine Zx (fun m us h=>∃(i:Nat) (cs:List PV) (ls:List LS),i≤n∧m=n-i∧us=[.int .i64 n,.ptr σ.next 0,.ptr h1.next 0,.int .i64 i]∧FlatI T h h1.next n i p sP capP cs sB capB ls) n (.here ⟨0,cs,ls,by omega,by omega,rfl,⟨k1.new _,by simp only [pwA,seval,-iQ0],by show _<h1.next+1;omega,hn1',fun t ht e=>by have:=(rs1.lt ht).2;omega,?_⟩⟩) ?_
 ·rw [show zW n 0=List.replicate n [] by simp [zW]]
  exact(rs1.imp (RP':=FI0) ⟨by rw [rs1.csl];simp,fun j x y hx hy=>.inl (List.eq_of_mem_replicate (List.mem_of_getElem? hy))⟩ rs1.aB).new _
 rintro m us h2 ⟨i,cs,ls,hi,rfl,rfl,⟨keep,obj,lt,ge,ne,rs⟩⟩
 have f3:h2.rd h1.next 0 3=some [.int .i64 p,.sl sP 0 n capP,.sl sB 0 n capB]:=by rw [zf obj];rfl
 have f1:h2.rd1 h1.next 1=some (.sl sP 0 n capP):=by rw [zG obj];rfl
 simp only [pwA,seval,-iQ0];refine iteI (fun hlt=>?_) fun hge=>?_
 rotate_left
 ·have hie:i=n:=by omega
  subst hie;obtain⟨g1,g2⟩:=hres (u0:=.int .i64 p) (u1:=.sl sP 0 i capP) (u2:=.sl sB 0 i capB) keep rfl rfl rfl;simp only [pwA,seval,-iQ0,f3,g1,g2];have e0:zW i i=List.replicate i (zrow i):=by simp [zW]
  rw [e0]at rs
  have rs':RS FI FI T.next h2 i sP capP cs sB capB ls (List.replicate i (zrow i)) (zB i i):=rs.imp ⟨rs.aP.1,fun j x y hx hy=>(rs.aP.2 j x y hx hy).resolve_left fun e=>by
   have:=List.eq_of_mem_replicate (List.mem_of_getElem? hy)
   rw [this]at e
   have:=congrArg List.length e
   simp at this
   omega⟩ rs.aB
  exact hk sP capP cs sB capB ls _ ((hkT.trans keep).set (Nat.le_refl _) _) ((rs'.low (by omega)).move (fun t ht=>by
   have:=(rs'.lt ht).1
   rw [zH,if_neg (by omega)]) (Nat.le_refl _))
 have hlt':i<n:=by omega
 have hT2:=keep.next;have hn3:¬h1.next=h2.next:=by omega
 have wi1:IntKind.i64.wrap ((i:Int)+1)=((i+1:Nat):Int):=wrapS hlt' (by omega)
 have hneP:¬sP=h2.next:=fun e=>by have:=(rs.lt (.inl e.symm)).2;omega
 have hslt:∀t,(t=sP∨t=sB∨∃q∈ls,q.s=t)→t<h2.next:=fun t ht=>(rs.lt ht).2
 have rs2:=(rs.imp (RP':=FI1 h2.next n) ⟨rs.aP.1,fun j x y hx hy=>(rs.aP.2 j x y hx hy).imp id .inl⟩ rs.aB).new (pis (zrow n))
 obtain⟨w1,rs3⟩:=rs2.putP (i:=i) (v:=.sl h2.next 0 n (.known n)) (w:=zrow n) hlt' (.inr (.inr ⟨rfl,rfl⟩)) rfl;rw [zMe hlt']at rs3
 simp only [pwA,seval,-iQ0,f1,mk8 (n:=n) (by omega),mkL (n:=n) (by omega),ZB,hlt',w1,wi1,hn3,hneP]
 rw [zML _ _ hneP]at rs3
 refine⟨n-(i+1),by omega,.fzh h2.next (pis (zrow n)) (by rw [zP];exact if_pos rfl) (zZ _ _) fun o1=>.here ⟨i+1,sbs h2.next o1 (pis (zrow n)) (cs.set i (.sl h2.next 0 n (.known n))),ls.map (LS.fr h2.next o1 (pis (zrow n))),by omega,rfl,by simp only [sbs,sb],?_⟩⟩
 have hsne:∀t,(t=sP∨t=sB∨∃q∈ls,q.s=t)→t≠h2.next:=fun t ht e=>by have:=hslt t ht;omega
 have rs4:=rs3.fzh (RP':=FI0) (R':=FI) (t:=h2.next) (o:=o1) (xs:=pis (zrow n)) ⟨Ne.symm (hsne _ (.inl rfl)),Ne.symm (hsne _ (.inr (.inl rfl))),fun q hq=>hsne _ (.inr (.inr ⟨q,hq,rfl⟩))⟩ (fun v w hv=>?_) (fun v w hv=>by rw [hv.sb];exact hv)
 ·refine⟨((keep.set (by have:=rs.P.2.2.1;omega) _).new _ |>.kill (by omega)).sub wT (by omega),?_,?_,ge,fun t ht=>ne t ?_,rs4⟩
  ·rw [Zo hn3 (by rw [zP,if_neg (by exact hn3),zH,if_neg (ne _ (.inl rfl))];exact obj)]
   simp only [sbs,sb,hneP,Ne.symm (hsne _ (.inr (.inl rfl))),hsne _ (.inr (.inl rfl)),false_and,if_false]
  ·show h1.next<h2.next+1;omega
  ·rcases ht with e | e | ⟨q,hq,e⟩
   ·exact .inl e
   ·exact .inr (.inl e)
   ·obtain⟨q',hq',rfl⟩:=List.mem_map.1 hq
    exact .inr (.inr ⟨q',hq',e⟩)
 ·rcases hv with e | e | ⟨e,e2⟩
  ·exact .inl e
  ·exact .inr (by rw [e.sb];exact e)
  ·refine .inr ?_
   rw [e,e2];simp only [sb,capOK,and_self,if_true,Nat.le_refl,decide_true];exact⟨true,_,by rw [List.length_replicate]⟩
end Go.Proofs
namespace Go.Proofs
open Go.Ab Go.Lie
variable {σ σ0 h h':PHeap} {K:PV→PHeap→Prop} {vC:PV} {bs:List Int} {s b n r0:Nat} {p:Int} {sP sB:Nat} {capP capB:Cap} {cs:List PV} {ls:List LS} {W:List (List Int)} {B:List (List (List Int))} {R:PV→List Int→Prop} {F F':List (List Int)→List (List (List Int))→Prop}
structure OkF (p:Int) (n:Nat) (W:List (List Int)) (B:List (List (List Int))):Prop where
 w:OkW p n W
 b:OkB p n B
theorem OkF.zero (hp:okp p) (hn:n≤6):OkF p n (List.replicate n (zrow n)) (zB n n):=by
 have hz:El p n (zrow n):=⟨by simp,fun y hy=>by rw [List.eq_of_mem_replicate hy];have:=hp.1;omega⟩
 refine⟨⟨hp,hn,by simp,fun i hi=>?_⟩,⟨zAU n n,fun i hi=>by simp [zB],fun i hi k hk=>?_⟩⟩
 ·rw [List.getElem_replicate]
  exact⟨hz.1,hz.2,fun j _=>qR _ _⟩
 ·simp only [zB,List.getElem_map,List.getElem_range,List.getElem_replicate]
  exact⟨hz,fun j _=>qR _ _⟩
theorem OkF.setP (a:OkF p n W B) {i:Nat} {w:List Int} (hw:El p n w) (hz:∀j,j≤i→at_ w j=0):OkF p n (W.set i w) B:=by
 refine⟨⟨a.w.pr,a.w.le,by rw [List.length_set];exact a.w.len,fun j hj=>?_⟩,a.b⟩
 rw [List.getElem_set]
 split
 ·rename_i e;subst e;exact⟨hw.1,hw.2,hz⟩
 ·exact a.w.row j (by rw [List.length_set]at hj;exact hj)
theorem OkF.setB (a:OkF p n W B) {i k:Nat} {w:List Int} (hi:i<n) (hw:El p n w) (hz:∀j,j≤i+k+1→at_ w j=0):OkF p n W (B.set i ((B.getD i []).set k w)):=by
 have hiB:i<B.length:=by rw [a.b.len];exact hi
 refine⟨a.w,⟨by rw [List.length_set];exact a.b.len,fun j hj=>?_,fun j hj m hm=>?_⟩⟩
 ·rw [List.getElem_set]
  split
  ·rename_i e;subst e
   rw [List.length_set,zI hiB];exact a.b.row i hiB
  ·exact a.b.row j (by rw [List.length_set]at hj;exact hj)
 ·rw [List.length_set]at hj
  by_cases e:i=j
  ·subst e
   have e2:(B.set i ((B.getD i []).set k w))[i]'(by rw [List.length_set];exact hj)=(B.getD i []).set k w:=by simp
   simp only [e2]at hm ⊢
   rw [List.getElem_set];rw [List.length_set,zI hiB]at hm
   split
   ·rename_i e3;subst e3;exact⟨hw,hz⟩
   ·have:=a.b.ent i hj m hm
    simp only [zI hiB];exact this
  ·have e2:(B.set i ((B.getD i []).set k w))[j]'(by rw [List.length_set];exact hj)=B[j]:=by simp [e]
   simp only [e2]at hm ⊢
   exact a.b.ent j hj m hm
structure SmF (W:List (List Int)) (B:List (List (List Int))):Prop where
 w:∀r∈W,r.length≤6
 bl:∀q∈B,q.length≤6
 b:∀q∈B,∀r∈q,r.length≤6
theorem OkF.sm (a:OkF p n W B):SmF W B:=by
 have hn:=a.w.le;refine⟨fun r hr=>?_,fun q hq=>?_,fun q hq r hr=>?_⟩
 ·obtain⟨i,hi,rfl⟩:=List.mem_iff_getElem.1 hr
  rw [(a.w.row i hi).1];exact hn
 ·obtain⟨i,hi,rfl⟩:=List.mem_iff_getElem.1 hq
  rw [a.b.row i hi];omega
 ·obtain⟨i,hi,rfl⟩:=List.mem_iff_getElem.1 hq
  obtain⟨k,hk,rfl⟩:=List.mem_iff_getElem.1 hr;rw [(a.b.ent i hi k hk).1.1];exact hn
theorem SmF.setP (a:SmF W B) {i:Nat} {w:List Int} (hw:w.length≤6):SmF (W.set i w) B:=⟨fun r hr=>by
 rcases List.mem_or_eq_of_mem_set hr with e|e
 ·exact a.w r e
 ·rw [e];exact hw,a.bl,a.b⟩
theorem SmF.setB (a:SmF W B) {i k:Nat} {w:List Int} (hi:i<B.length) (hw:w.length≤6):SmF W (B.set i ((B.getD i []).set k w)):=by
 have hm:B.getD i []∈B:=by rw [zI hi];exact List.getElem_mem hi
 refine⟨a.w,fun q hq=>?_,fun q hq r hr=>?_⟩
 ·rcases List.mem_or_eq_of_mem_set hq with e | e
  ·exact a.bl q e
  ·rw [e,List.length_set];exact a.bl _ hm
 ·rcases List.mem_or_eq_of_mem_set hq with e | e
  ·exact a.b q e r hr
  ·rw [e]at hr
   rcases List.mem_or_eq_of_mem_set hr with e2|e2
   ·exact a.b _ hm r e2
   ·rw [e2];exact hw
structure GS (E:Nat→List Int→Prop) (R:PV→List Int→Prop) (F:List (List Int)→List (List (List Int))→Prop) (σ h:PHeap) (s:Nat) (vC:PV) (bs:List Int) (r0:Nat) (p:Int) (n sP:Nat) (capP:Cap) (sB:Nat) (capB:Cap):Prop where
 km:KM σ s h
 so:So h s vC bs
 sl:s<σ.next
 obj:h.obj r0=some [.int .i64 p,.sl sP 0 n capP,.sl sB 0 n capB]
 r0b:σ.next≤r0∧r0<h.next
 rs:∃cs ls W B,RS FI R σ.next h n sP capP cs sB capB ls W B∧F W B∧(∀t,(t=sP∨t=sB∨∃q∈ls,q.s=t)→r0≠t)∧∀u x,E u x→∀t,(t=sP∨t=sB∨∃q∈ls,q.s=t)→u≠t
 ex:∀u x,E u x→h.obj u=some (pis x)∧σ.next≤u∧u<h.next∧u≠r0
def E0 (_:Nat) (_:List Int):Prop:=False
variable {E:Nat→List Int→Prop}
theorem GS.rd (a:GS E R F σ h s vC bs r0 p n sP capP sB capB):h.rd r0 0 3=some [.int .i64 p,.sl sP 0 n capP,.sl sB 0 n capB]∧h.rd1 r0 0=some (.int .i64 p)∧h.rd1 r0 1=some (.sl sP 0 n capP)∧h.rd1 r0 2=some (.sl sB 0 n capB):=by
 refine⟨by rw [zf a.obj];rfl,?_,?_,?_⟩<;>(rw [zG a.obj];rfl)
theorem GS.mv (a:GS E R F σ h s vC bs r0 p n sP capP sB capB) (m:Mv h s h') (so:So h' s vC bs):GS E R F σ h' s vC bs r0 p n sP capP sB capB:=by
 have hs:=a.sl;obtain⟨cs,ls,W,B,rs,f,ne⟩:=a.rs;exact⟨a.km.mv hs m,so,hs,by rw [m.obj (by have:=a.r0b.1;omega)];exact a.obj,⟨a.r0b.1,by rw [m.next];exact a.r0b.2⟩,⟨cs,ls,W,B,rs.mv hs m,f,ne⟩,fun u x e=>by
  obtain⟨g1,g2,g3,g4⟩:=a.ex u x e;exact⟨by rw [m.obj (by omega)];exact g1,g2,by rw [m.next];exact g3,g4⟩⟩
theorem GS.keep (a:GS E R F σ h s vC bs r0 p n sP capP sB capB) (k:Keep h h'):GS E R F σ h' s vC bs r0 p n sP capP sB capB:=by
 obtain⟨cs,ls,W,B,rs,f,ne⟩:=a.rs;exact⟨a.km.keep k,a.so.keep k,a.sl,by rw [k.obj _ a.r0b.2];exact a.obj,⟨a.r0b.1,Nat.lt_of_lt_of_le a.r0b.2 k.next⟩,⟨cs,ls,W,B,rs.keep k,f,ne⟩,fun u x e=>by
  obtain⟨g1,g2,g3,g4⟩:=a.ex u x e;exact⟨by rw [k.obj _ g3];exact g1,g2,Nat.lt_of_lt_of_le g3 k.next,g4⟩⟩
theorem GS.new (a:GS E R F σ h s vC bs r0 p n sP capP sB capB) (xs:List PV):GS E R F σ (h.new xs) s vC bs r0 p n sP capP sB capB:=a.keep (zC h xs)
theorem GS.newE {t:Nat} {x:List Int} (a:GS E0 R F σ h s vC bs r0 p n sP capP sB capB) (ht:t=h.next):GS (fun u y=>u=t∧y=x) R F σ (h.new (pis x)) s vC bs r0 p n sP capP sB capB:=by
 subst ht;have b:=a.new (pis x);obtain⟨cs,ls,W,B,rs,f,ne,_⟩:=b.rs;obtain⟨cs',ls',W',B',rs',f',ne',_⟩:=a.rs;refine⟨b.km,b.so,b.sl,b.obj,b.r0b,⟨cs',ls',W',B',rs'.new _,f',ne',fun u y e t ht e2=>?_⟩,fun u y e=>?_⟩
 ·have:=(rs'.lt ht).2
  omega
 ·obtain⟨rfl,rfl⟩:=e
  exact⟨by rw [zP,if_pos rfl],by have:=a.km.next;omega,Nat.lt_succ_self _,by have:=a.r0b.2;omega⟩
theorem GS.setE {t i:Nat} {x:List Int} {y:Int} (a:GS (fun u y=>u=t∧y=x) R F σ h s vC bs r0 p n sP capP sB capB) (hi:i<x.length):
  ∃h',h.wr t i [.int .i64 y]=some h'∧GS (fun u z=>u=t∧z=x.set i y) R F σ h' s vC bs r0 p n sP capP sB capB:=by
 obtain⟨g1,g2,g3,g4⟩:=a.ex t x ⟨rfl,rfl⟩;obtain⟨cs,ls,W,B,rs,f,ne,nx⟩:=a.rs;have hw:=Qh (v:=.int .i64 y) g1 (by rw [zY];exact hi) rfl
 rw [zB5]at hw
 refine⟨_,hw,a.km.set g2 _,a.so.set (by have:=a.sl;omega) _,a.sl,by rw [zH,if_neg (Ne.symm g4)];exact a.obj,a.r0b,⟨cs,ls,W,B,rs.move (fun u hu=>by rw [zH,if_neg (Ne.symm (nx t x ⟨rfl,rfl⟩ u hu))]) (Nat.le_refl _),f,ne,fun u z e u' hu'=>?_⟩,fun u z e=>?_⟩
 ·obtain⟨rfl,rfl⟩:=e
  exact nx _ x ⟨rfl,rfl⟩ u' hu'
 ·obtain⟨rfl,rfl⟩:=e
  exact⟨by rw [zH,if_pos rfl],g2,g3,g4⟩
theorem GS.putP (a:GS E R F σ h s vC bs r0 p n sP capP sB capB) {i:Nat} {v:PV} {w:List Int} (hi:i<n) (hv:FI v w) (hF:∀W B,F W B→F' (W.set i w) B):
  ∃h',h.wr sP i [v]=some h'∧GS E R F' σ h' s vC bs r0 p n sP capP sB capB:=by
 obtain⟨cs,ls,W,B,rs,f,ne,nx⟩:=a.rs;obtain⟨w1,rs'⟩:=rs.putP hi hv hv.one;have h1:=rs.P.2.2.1;have h2:=ne _ (.inl rfl);refine⟨_,w1,a.km.set h1 _,a.so.set (by have:=a.sl;omega) _,a.sl,by rw [zH,if_neg h2];exact a.obj,a.r0b,⟨_,ls,_,B,rs',hF W B f,ne,nx⟩,fun u x e=>?_⟩
 obtain⟨g1,g2,g3,g4⟩:=a.ex u x e;exact⟨by rw [zH,if_neg (nx u x e _ (.inl rfl))];exact g1,g2,g3,g4⟩
theorem GS.rdB (a:GS E R F σ h s vC bs r0 p n sP capP sB capB) {i:Nat} (hi:i<n) (hF:∀W B,F W B→(B.getD i []).length=n-1-i):∃t cap,h.rd1 sB i=some (.sl t 0 (n-1-i) cap):=by
 obtain⟨cs,ls,W,B,rs,f,ne⟩:=a.rs;obtain⟨q,h1,h2,h3⟩:=rs.rdB hi;rw [hF W B f]at h3
 exact⟨q.s,q.cap,by rw [h2,LS.pv,h3]⟩
theorem GS.putB {R':PV→List Int→Prop} (a:GS E R F σ h s vC bs r0 p n sP capP sB capB) {i k t l:Nat} {cap:Cap} {v:PV} {w:List Int} (hi:i<n) (hr:h.rd1 sB i=some (.sl t 0 l cap)) (hk:k<l) (hR:∀v w,R v w→R' v w) (hv:R' v w) (ho:v.one=true) (hF:∀W B,i<B.length→F W B→F' W (B.set i ((B.getD i []).set k w))):
    ∃h',h.wr t k [v]=some h'∧GS E R' F' σ h' s vC bs r0 p n sP capP sB capB∧h'.rd1 sB i=some (.sl t 0 l cap)∧h'.rd1 t k=some v:=by
  obtain⟨cs,ls,W,B,rs,f,ne,nx⟩:=a.rs;obtain⟨q,h1,h2,h3⟩:=rs.rdB hi;rw [h2,LS.pv,Option.some.injEq,PV.sl.injEq]at hr
  obtain⟨rfl,_,rfl,rfl⟩:=hr;have rs2:RS FI R' σ.next h n sP capP cs sB capB ls W B:=rs.imp rs.aP ⟨rs.aB.1,fun j x y hx hy=>⟨(rs.aB.2 j x y hx hy).1,fun j' x' y' hx' hy'=>hR _ _ ((rs.aB.2 j x y hx hy).2 j' x' y' hx' hy')⟩⟩
  obtain⟨w1,rs'⟩:=rs2.putB h1 hk hv ho;have hm:=List.mem_of_getElem? h1;have g1:=(rs.lok q hm).2.2.1;have g2:=ne _ (.inr (.inr ⟨q,hm,rfl⟩));have g3:=rs.lne q hm;have hlB:i<B.length:=by rw [rs.lB];exact hi
  have cl:∀{X:Nat},(∀t,(t=sP∨t=sB∨∃q∈ls,q.s=t)→X≠t)→∀u,(u=sP∨u=sB∨∃q'∈ls.set i ⟨q.s,q.cap,q.cs.set k v⟩,q'.s=u)→X≠u:=fun ne u hu=>by
    rcases hu with e|e|⟨q',hq',e⟩
    · exact ne u (.inl e)
    · exact ne u (.inr (.inl e))
    · obtain⟨j,hj⟩:=List.getElem?_of_mem hq'
      rw [List.getElem?_set]at hj
      split at hj
      · first
        | (cases hj;exact ne u (.inr (.inr ⟨q,hm,e⟩)))
        | (split at hj
           · cases hj;exact ne u (.inr (.inr ⟨q,hm,e⟩))
           · cases hj)
      · exact ne u (.inr (.inr ⟨q',List.mem_of_getElem? hj,e⟩))
  refine⟨_,w1,⟨a.km.set g1 _,a.so.set (by have:=a.sl;omega) _,a.sl,by rw [zH,if_neg g2];exact a.obj,a.r0b,⟨cs,_,W,_,rs',hF W B hlB f,cl ne,fun u x e=>cl (nx u x e)⟩,fun u x e=>?_⟩,?_,?_⟩
  · obtain⟨y1,y2,y3,y4⟩:=a.ex u x e
    exact⟨by rw [zH,if_neg (nx u x e _ (.inr (.inr ⟨q,hm,rfl⟩)))];exact y1,y2,y3,y4⟩
  · rw [zCw,if_neg (Ne.symm g3.2)];exact h2
  · rw [zCw,if_pos rfl,List.getElem?_set,if_pos rfl,if_pos hk]
theorem GS.sBb {E:Nat→List Int→Prop} (a:GS E R F σ h s vC bs r0 p n sP capP sB capB):σ.next≤sB∧sB<h.next:=by
 obtain⟨cs,ls,W,B,rs,_⟩:=a.rs;exact rs.Q.2.2
theorem Mv.rd1 (m:Mv h s h') {u i:Nat} (hu:u≠s):h'.rd1 u i=h.rd1 u i:=by simp only [PHeap.rd1,m.obj hu]
theorem PWF.setS {c0 c1:List PV} (w:PWF σ) (h0:σ.obj s=some c0) (hb:Bels 0 c1):PWF (σ.set s c1):=by
 have hs:s<σ.next:=w.lt h0;refine⟨fun t ht=>?_,fun t cs ht=>?_⟩
 ·have ht':σ.next≤t:=ht
  rw [zH,if_neg (by omega)]
  exact w.wf t ht'
 ·rw [zH]at ht
  split at ht
  ·cases ht
   exact Bels.up (Nat.zero_le _) hb
  ·exact w.bel t cs ht
theorem KM.fr {t o u:Nat} {xs:List PV} (k:KM σ s h) (w:PWF σ) (ht:σ.next≤t) (hu:h.top≤u):KM σ s (((h.kill t).sub t o xs).up u):=by
 obtain⟨σ',⟨c0,c1,h0,h1,rfl⟩,q⟩:=k;have q2:Keep (σ.set s c1) ((h.kill t).sub t o xs):=(q.kill (s:=t) (by exact ht)).sub (PWF.setS w h0 h1) (by exact ht)
 exact⟨_,⟨c0,c1,h0,h1,rfl⟩,q2.next,Nat.le_trans q.top hu,q2.obj⟩
theorem So.fr {t o u:Nat} {xs:List PV} (k:So h s vC bs) (ht:s≠t):So (((h.kill t).sub t o xs).up u) s vC bs:=by
 obtain⟨a,sd,S⟩:=k;refine⟨a,sd,?_,S.lt,S.fb,S.byt,S.le,S.sd⟩
 have:=Zo (o:=o) (xs:=xs) ht S.obj
 rw [Zp (Nat.zero_le _) (S.fb.bels 0 _ _)]at this
 exact this
def FI2 (t n:Nat) (cap:Cap) (X:List Int) (v:PV) (w:List Int):Prop:=FI v w∨(v=.sl t 0 n cap∧w=X)
theorem GS.setp {E:Nat→List Int→Prop} (a:GS E R F σ h s vC bs r0 p n sP capP sB capB) (q:Int):
  ∃h',h.wr r0 0 [.int .i64 q]=some h'∧GS E R F σ h' s vC bs r0 q n sP capP sB capB:=by
 obtain⟨cs,ls,W,B,rs,f,ne,nx⟩:=a.rs;refine⟨_,Qh a.obj (by simp) rfl,a.km.set a.r0b.1 _,a.so.set (by have:=a.sl;have:=a.r0b.1;omega) _,a.sl,by rw [zH,if_pos rfl];rfl,a.r0b,⟨cs,ls,W,B,rs.move (fun t ht=>by rw [zH,if_neg (Ne.symm (ne t ht))]) (Nat.le_refl _),f,ne,nx⟩,fun u x e=>?_⟩
 obtain⟨g1,g2,g3,g4⟩:=a.ex u x e;exact⟨by rw [zH,if_neg g4];exact g1,g2,g3,g4⟩
theorem GS.imp {E:Nat→List Int→Prop} (a:GS E R F σ h s vC bs r0 p n sP capP sB capB) (hF:∀W B,F W B→F' W B):GS E R F' σ h s vC bs r0 p n sP capP sB capB:=by
 obtain⟨cs,ls,W,B,rs,f,ne⟩:=a.rs;exact⟨a.km,a.so,a.sl,a.obj,a.r0b,⟨cs,ls,W,B,rs,hF W B f,ne⟩,a.ex⟩
theorem natlt:((0:Int)<((1:Nat):Int))∧((0:Int)<((2:Nat):Int))∧((0:Int)<((3:Nat):Int))∧((0:Int)<((4:Nat):Int))∧((0:Int)<((5:Nat):Int))∧((0:Int)<((6:Nat):Int))∧((1:Int)<((2:Nat):Int))∧((1:Int)<((3:Nat):Int))∧((1:Int)<((4:Nat):Int))∧((1:Int)<((5:Nat):Int))∧((1:Int)<((6:Nat):Int))∧((2:Int)<((3:Nat):Int))∧((2:Int)<((4:Nat):Int))∧((2:Int)<((5:Nat):Int))∧((2:Int)<((6:Nat):Int))∧((3:Int)<((4:Nat):Int))∧((3:Int)<((5:Nat):Int))∧((3:Int)<((6:Nat):Int)):=by decide
theorem ownFI {v:PV} {xs:List Int} (hv:FI v xs) (hb:xs.length≤4294967296) (hk:∀v',FI v' xs→K v' σ):zA Tryz.prog 91 [v] σ K:=by
 obtain⟨w,a,rfl⟩:=hv;exact zEi rfl hb fun v=>hk _ ⟨_,_,rfl⟩
end Go.Proofs
namespace Go.Proofs
open Go.Ab Go.Lie
variable {σ σ0 h h':PHeap} {K:PV→PHeap→Prop} {vC:PV} {bs:List Int} {s b n r0:Nat} {p:Int} {sP sB:Nat} {capP capB:Cap} {cs:List PV} {ls:List LS} {W:List (List Int)} {B:List (List (List Int))} {R:PV→List Int→Prop} {F F':List (List Int)→List (List (List Int))→Prop}
theorem GS.tail {E:Nat→List Int→Prop} {σ h:PHeap} {K:PV→PHeap→Prop} {r0 n:Nat} (a:GS E R (OkF p n) σ h s vC bs r0 p n sP capP sB capB) (hp:2≤p∧p≤7) (i k:Nat) (hn:n≤6) (hik:i<k) (hkn:k≤n)
  (hk:∀v g g',v.cells=[v]→g.rd1 r0 1=some (.sl sP 0 n capP)→g.wr sP i [v]=some g'→GS E R (OkF p n) σ g' s vC bs r0 p n sP capP sB capB→K v g):
  zA Tryz.prog 122 [.ptr s 0,.agg [.int .i64 p,.sl sP 0 n capP,.sl sB 0 n capB],.int .i64 k] h K:=
 qF (n:=n) (k:=k) a.so hp rfl rfl rfl (by omega) hkn fun v x g hx hz hv m so=>by
  obtain⟨_,_,p1,_⟩:=(a.mv m so).rd;obtain⟨g',w,gs⟩:=(a.mv m so).putP (F':=OkF p n) (i:=i) (w:=x) (by omega) hv (fun W B q=>q.setP hx fun j hj=>hz j (by omega))
  exact hk v g g' hv.cells p1 w gs
theorem GS.unitB {E:Nat→List Int→Prop} {σ h:PHeap} {v:PV} {r0 n m i k t l:Nat} {cap:Cap} (a:GS E FI (OkF p n) σ h s vC bs r0 p n sP capP sB capB) (hr:h.rd1 sB i=some (.sl t 0 l cap)) (hv:FI v (unitL n m)) (q:i+k+1<m∧m<n∧k<l):
  ∃h',h.wr t k [v]=some h'∧GS E FI (OkF p n) σ h' s vC bs r0 p n sP capP sB capB:=by
 obtain⟨h',w,g,_⟩:=a.putB (F':=OkF p n) (i:=i) (k:=k) (by omega) hr (by omega) (fun _ _ h=>h) hv hv.one (fun W B _ q=>q.setB (by omega) (qV q.w.pr (by omega)) (fun j hj=>by rw [zy (by omega),if_neg (by omega)]))
 exact⟨h',w,g⟩
theorem zDe (so:So σ s vC bs)
  (hk:∀p n sP capP cs sB capB ls h W B,isP p→1≤n→ipow p n≤729→OkF p n W B→KM σ s h→So h s vC bs→RS FI FI σ.next h n sP capP cs sB capB ls W B→K (.agg [.int .i64 p,.sl sP 0 n capP,.sl sB 0 n capB]) h):
  zA Tryz.prog 121 [.ptr s 0] σ K:=by
 refine zA.pwf fun w=>?_
 have hsl:=so.lt;refine zA.gh ?_;generalize hT:σ.new [.int .i64 0,.fz true .nils 0 [],.fz true .nils 0 []]=T;have hTn:T.next=σ.next+1:=by rw [←hT];rfl
 have hkT:Keep σ T:=by rw [←hT];exact zC σ _
 have soT:So T s vC bs:=so.keep hkT;have hsT:s<T.next:=soT.lt;have obT:T.obj σ.next=some [.int .i64 0,.fz true .nils 0 [],.fz true .nils 0 []]:=by rw [←hT];simp only [pwA,seval,-iQ0]
 refine zD mix Tryz.func121 ?_;simp only [pwA,seval,-iQ0];rw [hT];refine ze soT (by decide) fun kd h1 hkd m1 so1=>?_
 have kd0:=hkd.1;have kd8:=hkd.lt (by decide)
 simp only [pwA,seval,-iQ0];refine ze so1 (by decide) fun x h2 hx m2 so2=>?_
 have x0:=hx.1;have x4:=hx.lt (by decide)
 have wx:IntKind.i64.wrap (1+x)=1+x:=wrap64 (by omega) (by omega)
 obtain⟨n,hn1,hn6,hnr,hnc⟩:∃n:Nat,1≤n∧n≤6∧([1+x,3,4,4,5,5,6,3]:List Int)[kd.toNat]? = some (n:Int)∧(kd=0∨(kd=1∧n=3)∨(kd=2∧n=4)∨(kd=3∧n=4)∨(kd=4∧n=5)∨(kd=5∧n=5)∨(kd=6∧n=6)∨(kd=7∧n=3)):=by
  have e:kd=0∨kd=1∨kd=2∨kd=3∨kd=4∨kd=5∨kd=6∨kd=7:=by omega
  rcases e with rfl|rfl|rfl|rfl|rfl|rfl|rfl|rfl
  ·exact⟨(1+x).toNat,by omega,by omega,by simp;omega,.inl rfl⟩
  ·exact⟨3,by omega,by omega,rfl,by simp⟩
  ·exact⟨4,by omega,by omega,rfl,by simp⟩
  ·exact⟨4,by omega,by omega,rfl,by simp⟩
  ·exact⟨5,by omega,by omega,rfl,by simp⟩
  ·exact⟨5,by omega,by omega,rfl,by simp⟩
  ·exact⟨6,by omega,by omega,rfl,by simp⟩
  ·exact⟨3,by omega,by omega,rfl,by simp⟩
 have hread:([PV.int .i64 (1+x),.int .i64 3,.int .i64 4,.int .i64 4,.int .i64 5,.int .i64 5,.int .i64 6,.int .i64 3]:List PV)[kd.toNat]? = some (.int .i64 (n:Int)):=by
  have:=congrArg (Option.map (PV.int .i64)) hnr
  rw [←List.getElem?_map]at this
  exact this
 have hkd8:0≤kd∧kd<((8:Nat):Int):=⟨kd0,kd8⟩;simp only [pwA,seval,-iQ0,wx,hread,hkd8];have so3:So (h2.new [PV.int .i64 (1+x),.int .i64 3,.int .i64 4,.int .i64 4,.int .i64 5,.int .i64 5,.int .i64 6,.int .i64 3]) s vC bs:=so2.keep (zC _ _);have km3:KM T s (h2.new [PV.int .i64 (1+x),.int .i64 3,.int .i64 4,.int .i64 4,.int .i64 5,.int .i64 5,.int .i64 6,.int .i64 3]):=((soT.km.mv hsT m1).mv hsT m2).new _;generalize h2.new [PV.int .i64 (1+x),.int .i64 3,.int .i64 4,.int .i64 4,.int .i64 5,.int .i64 5,.int .i64 6,.int .i64 3]=h3 at *
 clear hnr hread;refine zFy so3 hn6 fun p h4 hp hpow m4 so4=>?_
 have km4:=km3.mv hsT m4;have hpb:=hp.bd;have hp27:2≤p∧p≤7:=by omega
 simp only [pwA,seval,-iQ0];refine zBH hn1 hn6 fun sP capP cs sB capB ls h5 k5 rs5=>?_
 have so5:=so4.keep k5;have km5:=km4.keep k5;have h45:=k5.next;have h04:=km4.next;have wn1:IntKind.i64.wrap ((n:Int)-1)=((n-1:Nat):Int):=by rw [wrap64 (by omega) (by omega)];omega
 have okp0:okp p:=hpb;have gs:GS E0 FI (OkF p n) T (h5.new [.int .i64 p,.sl sP 0 n capP,.sl sB 0 n capB]) s vC bs h5.next p n sP capP sB capB:=
  ⟨km5.new _,so5.keep (zC _ _),hsT,by rw [zP,if_pos rfl],⟨by omega,Nat.lt_succ_self _⟩,⟨cs,ls,_,_,(rs5.low h04).new _,OkF.zero okp0 hn6,fun t ht e=>by have:=(rs5.lt ht).2;omega,fun u x e=>e.elim⟩,fun u x e=>e.elim⟩
 clear rs5;have fin:∀{g:PHeap},GS E0 FI (OkF p n) T g s vC bs h5.next p n sP capP sB capB→g.rd h5.next 0 3=some [.int .i64 p,.sl sP 0 n capP,.sl sB 0 n capB]∧g.wr σ.next 0 [.int .i64 p,.sl sP 0 n capP,.sl sB 0 n capB]=some (g.set σ.next [.int .i64 p,.sl sP 0 n capP,.sl sB 0 n capB])
   ∧(g.set σ.next [.int .i64 p,.sl sP 0 n capP,.sl sB 0 n capB]).rd σ.next 0 3=some [.int .i64 p,.sl sP 0 n capP,.sl sB 0 n capB]∧Gh σ K (.agg [.int .i64 p,.sl sP 0 n capP,.sl sB 0 n capB]) (g.set σ.next [.int .i64 p,.sl sP 0 n capP,.sl sB 0 n capB]):=fun {g} a=>by
  have hres:g.obj σ.next=some [.int .i64 0,.fz true .nils 0 [],.fz true .nils 0 []]:=by rw [a.km.obj (by omega) (by omega)];exact obT
  obtain⟨cs,ls,W,B,rs,f,ne,_⟩:=a.rs;refine⟨a.rd.1,by rw [qH hres,if_pos ⟨by simp,by rfl⟩];rfl,by rw [qO,if_pos rfl];rfl,Gh.ret (hk p n sP capP cs sB capB ls _ W B hp hn1 hpow f ?_ (a.so.set (by omega) _) ((rs.low (by omega)).move (fun t ht=>?_) (Nat.le_refl _)))⟩
  ·exact((so.kmK hkT).trans hsl a.km).set (Nat.le_refl _) _
  ·have:=(rs.lt ht).1
   rw [zH,if_neg (by omega)]
 have rowB:∀{W:List (List Int)} {B:List (List (List Int))} {i:Nat},OkF p n W B→i<n→(B.getD i []).length=n-1-i:=fun {W B i} q hi=>by
  have h1:i<B.length:=by rw [q.b.len];exact hi
  rw [zI h1];exact q.b.row i h1
 have hle:El p n (unitL n (n-1)):=qV okp0 (by omega)
 simp only [pwA,seval,-iQ0,wn1];refine Zq (n:=n) (k:=n-1) rfl rfl rfl (by omega) (by omega) fun vl hlv=>?_
 generalize h5.new [PV.int .i64 p,.sl sP 0 n capP,.sl sB 0 n capB]=g5 at *
 generalize h5.next=r0 at *
 clear m1 m2 m4 so1 so2 so3 so4 so5 km3 km4 km5 k5 h45 h04;rcases hnc with rfl|⟨rfl,rfl⟩|⟨rfl,rfl⟩|⟨rfl,rfl⟩|⟨rfl,rfl⟩|⟨rfl,rfl⟩|⟨rfl,rfl⟩|⟨rfl,rfl⟩
 ·as_aux_lemma=>
  simp only [pwA,seval,-iQ0];refine zF (fun m us g=>∃i:Nat,i≤n∧m=n-i∧us=[.ptr s 0,.ptr σ.next 0,.int .i64 n,.ptr r0 0,.int .i64 i]∧GS E0 FI (OkF p n) T g s vC bs r0 p n sP capP sB capB) n ⟨0,by omega,by omega,rfl,gs⟩ ?_
  rintro m us g ⟨i,hi,rfl,rfl,a⟩
  simp only [pwA,seval,-iQ0];refine iteI (fun hlt=>?_) fun hge=>?_
  rotate_left
  ·obtain⟨e1,e2,e3,e4⟩:=fin a
   simp only [pwA,seval,-iQ0,e1,e2,e3];exact e4
  have hlt':i<n:=by omega
  have wi1:IntKind.i64.wrap ((i:Int)+1)=((i+1:Nat):Int):=wrapS hlt' (by omega)
  obtain⟨f3,f0,f1,f2⟩:=a.rd;simp only [pwA,seval,-iQ0,f3,f1,wi1];refine qF (vP:=.sl sP 0 n capP) (vB:=.sl sB 0 n capB) (n:=n) (k:=i+1) a.so hp27 rfl rfl rfl (by omega) (by omega) fun v x k hx hz hv m so=>?_
  have gt:=a.mv m so;obtain⟨p3,p0,p1,p2⟩:=gt.rd;obtain⟨h9,w9,gs9⟩:=gt.putP (F':=OkF p n) (i:=i) (w:=x) hlt' hv (fun W B q=>q.setP hx (fun j hj=>hz j (by omega)))
  simp only [pwA,seval,-iQ0,p1,w9,hv.cells,hlt',wi1];exact⟨_,by omega,i+1,by omega,rfl,rfl,gs9⟩
 ·as_aux_lemma=>
  simp only [pwA,seval,-iQ0];obtain⟨f3_1,f0_1,f1_1,f2_1⟩:=gs.rd;obtain⟨t_1,c_1,rB_1⟩:=gs.rdB (i:=0) (by omega) (fun W B q=>rowB q (by omega))
  obtain⟨h_1,w_1,gs_1⟩:=gs.unitB (k:=0) rB_1 hlv (by omega)
  simp only [pwA,seval,-iQ0,f2_1,rB_1,w_1,natlt,hlv.cells];obtain⟨f3_2,f0_2,f1_2,f2_2⟩:=gs_1.rd;simp only [pwA,seval,-iQ0,f3_2,f1_2,natlt];refine gs_1.tail hp27 0 2 (by omega) (by omega) (by omega) fun v_2 k_2 h_2 c_hv_2 p1_2 w_2 gs_2=>?_
  simp only [pwA,seval,-iQ0,p1_2,w_2,natlt,c_hv_2];obtain⟨f3_3,f0_3,f1_3,f2_3⟩:=gs_2.rd;simp only [pwA,seval,-iQ0,f3_3,f1_3,natlt];refine gs_2.tail hp27 1 2 (by omega) (by omega) (by omega) fun v_3 k_3 h_3 c_hv_3 p1_3 w_3 gs_3=>?_
  simp only [pwA,seval,-iQ0,p1_3,w_3,natlt,c_hv_3];obtain⟨e1,e2,e3,e4⟩:=fin gs_3;simp only [pwA,seval,-iQ0,e1,e2,e3];exact e4
 ·as_aux_lemma=>
  simp only [pwA,seval,-iQ0];obtain⟨f3,f0,f1,f2⟩:=gs.rd;obtain⟨t,c,rB⟩:=gs.rdB (i:=0) (by omega) (fun W B q=>rowB q (by omega))
  have hsB:=gs.sBb;simp only [pwA,seval,-iQ0,f3,f2,rB,natlt];refine zDd (vP:=.sl sP 0 4 capP) (vB:=.sl sB 0 4 capB) (n:=4) (k:=2) gs.so hp27 rfl rfl rfl (by omega) (by omega) fun x k cap hx hz hcap m soK=>?_
  have gt:=(gs.mv m soK).newE (t:=g5.next) (x:=x) m.next.symm;obtain⟨p3,p0,p1,p2⟩:=gt.rd;have rB':(k.new (pis x)).rd1 sB 0=some (.sl t 0 (4-1-0) c):=by rw [zFc,if_neg (by rw [m.next];omega),m.rd1 (by omega)];exact rB
  have hxl:=hx.1;have hX:El p 4 (x.set 2 1):=⟨by rw [List.length_set];exact hxl,fun z hzz=>by
   rcases List.mem_or_eq_of_mem_set hzz with e|e
   ·exact hx.2 z e
   ·omega⟩
  have hXl:=hX.1;obtain⟨h_1,w_1,gs_1,q1,q2⟩:=gt.putB (R':=FI2 g5.next 4 cap (x.set 2 1)) (F':=OkF p 4) (i:=0) (k:=0) (w:=x.set 2 1) (v:=.sl g5.next 0 4 cap) (by omega) rB' (by omega) (fun _ _ h=>.inl h) (.inr ⟨rfl,rfl⟩) rfl (fun W B _ q=>q.setB (by omega) hX (fun j hj=>by rw [at_set (by omega),if_neg (by omega)];exact hz j (by omega)))
  generalize g5.next=t0 at *
  generalize k.new (pis x)=g6 at *
  simp only [pwA,seval,-iQ0,p2,rB',natlt,w_1];clear f3 f0 f1 f2 rB p3 p0 p1 p2 rB' w_1;obtain⟨f3,f0,f1,f2⟩:=gs_1.rd;obtain⟨h_2,w_2,gs_2⟩:=gs_1.setE (i:=2) (y:=1) (by omega)
  simp only [pwA,seval,-iQ0,f2,q1,q2,natlt,w_2];clear f3 f0 f1 f2 q1 q2 w_2;obtain⟨f3,f0,f1,f2⟩:=gs_2.rd;obtain⟨t3,c3,rB⟩:=gs_2.rdB (i:=0) (by omega) (fun W B q=>rowB q (by omega))
  obtain⟨h_3,w_3,gs_3,_⟩:=gs_2.putB (R':=FI2 t0 4 cap (x.set 2 1)) (F':=OkF p 4) (i:=0) (k:=1) (by omega) rB (by omega) (fun _ _ h=>h) (.inl hlv) hlv.one (fun W B _ q=>q.setB (by omega) hle (fun j hj=>by rw [zy (by omega),if_neg (by omega)]))
  simp only [pwA,seval,-iQ0,f2,rB,w_3,natlt,hlv.cells];clear f3 f0 f1 f2 rB w_3;obtain⟨f3,f0,f1,f2⟩:=gs_3.rd;simp only [pwA,seval,-iQ0,f3,f1,natlt];refine gs_3.tail hp27 0 3 (by omega) (by omega) (by omega) fun v4 k4 h_4 c_hv4 p1 w_4 gs_4=>?_
  simp only [pwA,seval,-iQ0,p1,w_4,natlt,c_hv4];clear f3 f0 f1 f2 p1 w_4;obtain⟨f3,f0,f1,f2⟩:=gs_4.rd;simp only [pwA,seval,-iQ0,f3,f1,natlt];refine gs_4.tail hp27 1 3 (by omega) (by omega) (by omega) fun v5 k5 h_5 c_hv5 p1 w_5 a=>?_
  have hres:h_5.obj σ.next=some [.int .i64 0,.fz true .nils 0 [],.fz true .nils 0 []]:=by rw [a.km.obj (by omega) (by omega)];exact obT
  have u1:h_5.wr σ.next 0 [.int .i64 p,.sl sP 0 4 capP,.sl sB 0 4 capB]=some (h_5.set σ.next [.int .i64 p,.sl sP 0 4 capP,.sl sB 0 4 capB]):=by rw [qH hres,if_pos ⟨by simp,by rfl⟩];rfl
  have u2:(h_5.set σ.next [.int .i64 p,.sl sP 0 4 capP,.sl sB 0 4 capB]).rd σ.next 0 3=some [.int .i64 p,.sl sP 0 4 capP,.sl sB 0 4 capB]:=by rw [qO,if_pos rfl];rfl
  obtain⟨y3,y0,y1,y2⟩:=a.rd;simp only [pwA,seval,-iQ0,p1,w_5,natlt,c_hv5,y3,u1,u2];obtain⟨cs,ls,W,B,rs,f,ne,nx⟩:=a.rs;obtain⟨z1,z2,z3,z4⟩:=a.ex t0 _ ⟨rfl,rfl⟩;have nx':=nx t0 _ ⟨rfl,rfl⟩;have rs6:RS FI (FI2 t0 4 cap (x.set 2 1)) T.next (h_5.set σ.next [.int .i64 p,.sl sP 0 4 capP,.sl sB 0 4 capB]) 4 sP capP cs sB capB ls W B:=rs.move (fun t ht=>by
   have:=(rs.lt ht).1
   rw [zH,if_neg (by omega)]) (Nat.le_refl _)
  have km6:KM σ s (h_5.set σ.next [.int .i64 p,.sl sP 0 4 capP,.sl sB 0 4 capB]):=((so.kmK hkT).trans hsl a.km).set (Nat.le_refl _) _;have so6:So (h_5.set σ.next [.int .i64 p,.sl sP 0 4 capP,.sl sB 0 4 capB]) s vC bs:=a.so.set (by omega) _
  refine Gh.freezeH (s:=t0) (cs:=pis (x.set 2 1)) (by rw [zH,if_neg (by omega)];exact z1) (by omega) (zZ _ _) fun o1 g1 g2 g3=>?_
  have n1:sP≠t0:=Ne.symm (nx' _ (.inl rfl));have n2:sB≠t0:=Ne.symm (nx' _ (.inr (.inl rfl)));have rs7:=rs6.fzh (RP':=FI) (R':=FI) (t:=t0) (o:=o1) (xs:=pis (x.set 2 1)) ⟨nx' _ (.inl rfl),nx' _ (.inr (.inl rfl)),fun q hq=>Ne.symm (nx' _ (.inr (.inr ⟨q,hq,rfl⟩)))⟩ (fun v w hv=>by rw [hv.sb];exact hv) (fun v w hv=>by
   rcases hv with e|⟨e,e2⟩
   ·rw [e.sb];exact e
   ·rw [e,e2]
    simp only [sb,hcap.ok,and_self,if_true];exact⟨true,_,by rw [hXl]⟩)
  simp only [sb,sbs,n1,n2,false_and,if_false];exact Gh.ret (hk p 4 sP capP _ sB capB _ _ W B hp (by omega) hpow f (km6.fr w (by omega) (by show _≤max _ _;omega)) (so6.fr (by omega)) ((rs7.low (by omega)).move (fun _ _=>rfl) (Nat.le_refl _)))
 ·as_aux_lemma=>
  simp only [pwA,seval,-iQ0];obtain⟨f3_4,f0_4,f1_4,f2_4⟩:=gs.rd;obtain⟨t_4,c_4,rB_4⟩:=gs.rdB (i:=0) (by omega) (fun W B q=>rowB q (by omega))
  obtain⟨h_4,w_4,gs_4⟩:=gs.unitB (k:=0) rB_4 hlv (by omega)
  simp only [pwA,seval,-iQ0,f2_4,rB_4,w_4,natlt,hlv.cells];obtain⟨f3_5,f0_5,f1_5,f2_5⟩:=gs_4.rd;simp only [pwA,seval,-iQ0,f3_5,f1_5,natlt];refine gs_4.tail hp27 0 2 (by omega) (by omega) (by omega) fun v_5 k_5 h_5 c_hv_5 p1_5 w_5 gs_5=>?_
  simp only [pwA,seval,-iQ0,p1_5,w_5,natlt,c_hv_5];obtain⟨f3_6,f0_6,f1_6,f2_6⟩:=gs_5.rd;simp only [pwA,seval,-iQ0,f3_6,f1_6,natlt];refine gs_5.tail hp27 1 2 (by omega) (by omega) (by omega) fun v_6 k_6 h_6 c_hv_6 p1_6 w_6 gs_6=>?_
  simp only [pwA,seval,-iQ0,p1_6,w_6,natlt,c_hv_6];obtain⟨f3_7,f0_7,f1_7,f2_7⟩:=gs_6.rd;simp only [pwA,seval,-iQ0,f3_7,f1_7,natlt];refine gs_6.tail hp27 2 3 (by omega) (by omega) (by omega) fun v_7 k_7 h_7 c_hv_7 p1_7 w_7 gs_7=>?_
  simp only [pwA,seval,-iQ0,p1_7,w_7,natlt,c_hv_7];obtain⟨e1,e2,e3,e4⟩:=fin gs_7;simp only [pwA,seval,-iQ0,e1,e2,e3];exact e4
 ·as_aux_lemma=>
  simp only [pwA,seval,-iQ0];obtain⟨f3_8,f0_8,f1_8,f2_8⟩:=gs.rd;obtain⟨t_8,c_8,rB_8⟩:=gs.rdB (i:=0) (by omega) (fun W B q=>rowB q (by omega))
  obtain⟨h_8,w_8,gs_8⟩:=gs.unitB (k:=0) rB_8 hlv (by omega)
  simp only [pwA,seval,-iQ0,f2_8,rB_8,w_8,natlt,hlv.cells];obtain⟨f3_9,f0_9,f1_9,f2_9⟩:=gs_8.rd;obtain⟨t_9,c_9,rB_9⟩:=gs_8.rdB (i:=2) (by omega) (fun W B q=>rowB q (by omega))
  simp only [pwA,seval,-iQ0,f2_9,rB_9,natlt];refine ownFI hlv (by rw [zk];omega) fun v_9 hv_9=>?_
  obtain⟨h_9,w_9,gs_9⟩:=gs_8.unitB (k:=0) rB_9 hv_9 (by omega)
  simp only [pwA,seval,-iQ0,f2_9,rB_9,w_9,natlt,hv_9.cells];obtain⟨f3_10,f0_10,f1_10,f2_10⟩:=gs_9.rd;simp only [pwA,seval,-iQ0,f3_10,f1_10,natlt];refine gs_9.tail hp27 0 4 (by omega) (by omega) (by omega) fun v_10 k_10 h_10 c_hv_10 p1_10 w_10 gs_10=>?_
  simp only [pwA,seval,-iQ0,p1_10,w_10,natlt,c_hv_10];obtain⟨e1,e2,e3,e4⟩:=fin gs_10;simp only [pwA,seval,-iQ0,e1,e2,e3];exact e4
 ·as_aux_lemma=>
  simp only [pwA,seval,-iQ0];obtain⟨f3_11,f0_11,f1_11,f2_11⟩:=gs.rd;obtain⟨t_11,c_11,rB_11⟩:=gs.rdB (i:=0) (by omega) (fun W B q=>rowB q (by omega))
  simp only [pwA,seval,-iQ0,f3_11,f2_11,rB_11,natlt];refine Zq (vP:=.sl sP 0 5 capP) (vB:=.sl sB 0 5 capB) (n:=5) (k:=3) rfl rfl rfl (by omega) (by omega) fun v_11 hv_11=>?_
  obtain⟨h_11,w_11,gs_11⟩:=gs.unitB (k:=0) rB_11 hv_11 (by omega)
  simp only [pwA,seval,-iQ0,f2_11,rB_11,w_11,natlt,hv_11.cells];obtain⟨f3_12,f0_12,f1_12,f2_12⟩:=gs_11.rd;obtain⟨t_12,c_12,rB_12⟩:=gs_11.rdB (i:=0) (by omega) (fun W B q=>rowB q (by omega))
  obtain⟨h_12,w_12,gs_12⟩:=gs_11.unitB (k:=1) rB_12 hlv (by omega)
  simp only [pwA,seval,-iQ0,f2_12,rB_12,w_12,natlt,hlv.cells];obtain⟨f3_13,f0_13,f1_13,f2_13⟩:=gs_12.rd;simp only [pwA,seval,-iQ0,f3_13,f1_13,natlt];refine gs_12.tail hp27 1 3 (by omega) (by omega) (by omega) fun v_13 k_13 h_13 c_hv_13 p1_13 w_13 gs_13=>?_
  simp only [pwA,seval,-iQ0,p1_13,w_13,natlt,c_hv_13];obtain⟨f3_14,f0_14,f1_14,f2_14⟩:=gs_13.rd;simp only [pwA,seval,-iQ0,f3_14,f1_14,natlt];refine gs_13.tail hp27 0 3 (by omega) (by omega) (by omega) fun v_14 k_14 h_14 c_hv_14 p1_14 w_14 gs_14=>?_
  simp only [pwA,seval,-iQ0,p1_14,w_14,natlt,c_hv_14];obtain⟨e1,e2,e3,e4⟩:=fin gs_14;simp only [pwA,seval,-iQ0,e1,e2,e3];exact e4
 ·as_aux_lemma=>
  simp only [pwA,seval,-iQ0];obtain⟨f3_15,f0_15,f1_15,f2_15⟩:=gs.rd;obtain⟨t_15,c_15,rB_15⟩:=gs.rdB (i:=0) (by omega) (fun W B q=>rowB q (by omega))
  simp only [pwA,seval,-iQ0,f3_15,f2_15,rB_15,natlt];refine Zq (vP:=.sl sP 0 6 capP) (vB:=.sl sB 0 6 capB) (n:=6) (k:=3) rfl rfl rfl (by omega) (by omega) fun v_15 hv_15=>?_
  obtain⟨h_15,w_15,gs_15⟩:=gs.unitB (k:=0) rB_15 hv_15 (by omega)
  simp only [pwA,seval,-iQ0,f2_15,rB_15,w_15,natlt,hv_15.cells];obtain⟨f3_16,f0_16,f1_16,f2_16⟩:=gs_15.rd;obtain⟨t_16,c_16,rB_16⟩:=gs_15.rdB (i:=0) (by omega) (fun W B q=>rowB q (by omega))
  simp only [pwA,seval,-iQ0,f3_16,f2_16,rB_16,natlt];refine Zq (vP:=.sl sP 0 6 capP) (vB:=.sl sB 0 6 capB) (n:=6) (k:=4) rfl rfl rfl (by omega) (by omega) fun v_16 hv_16=>?_
  obtain⟨h_16,w_16,gs_16⟩:=gs_15.unitB (k:=1) rB_16 hv_16 (by omega)
  simp only [pwA,seval,-iQ0,f2_16,rB_16,w_16,natlt,hv_16.cells];obtain⟨f3_17,f0_17,f1_17,f2_17⟩:=gs_16.rd;obtain⟨t_17,c_17,rB_17⟩:=gs_16.rdB (i:=1) (by omega) (fun W B q=>rowB q (by omega))
  obtain⟨h_17,w_17,gs_17⟩:=gs_16.unitB (k:=0) rB_17 hlv (by omega)
  simp only [pwA,seval,-iQ0,f2_17,rB_17,w_17,natlt,hlv.cells];obtain⟨e1,e2,e3,e4⟩:=fin gs_17;simp only [pwA,seval,-iQ0,e1,e2,e3];exact e4
 ·as_aux_lemma=>
  simp only [pwA,seval,-iQ0];obtain⟨f3_18,f0_18,f1_18,f2_18⟩:=gs.rd;obtain⟨t_18,c_18,rB_18⟩:=gs.rdB (i:=0) (by omega) (fun W B q=>rowB q (by omega))
  obtain⟨h_18,w_18,gs_18⟩:=gs.unitB (k:=0) rB_18 hlv (by omega)
  simp only [pwA,seval,-iQ0,f2_18,rB_18,w_18,natlt,hlv.cells];obtain⟨f3_19,f0_19,f1_19,f2_19⟩:=gs_18.rd;simp only [pwA,seval,-iQ0,f3_19,f1_19,natlt];refine gs_18.tail hp27 0 2 (by omega) (by omega) (by omega) fun v_19 k_19 h_19 c_hv_19 p1_19 w_19 gs_19=>?_
  simp only [pwA,seval,-iQ0,p1_19,w_19,natlt,c_hv_19];obtain⟨f3_20,f0_20,f1_20,f2_20⟩:=gs_19.rd;simp only [pwA,seval,-iQ0,f3_20,f1_20,natlt];refine gs_19.tail hp27 1 2 (by omega) (by omega) (by omega) fun v_20 k_20 h_20 c_hv_20 p1_20 w_20 gs_20=>?_
  simp only [pwA,seval,-iQ0,p1_20,w_20,natlt,c_hv_20];obtain⟨e1,e2,e3,e4⟩:=fin gs_20;simp only [pwA,seval,-iQ0,e1,e2,e3];exact e4
end Go.Proofs
namespace Go.Proofs
open Go.Ab Go.Lie
variable {σ σ0 h h':PHeap} {K:PV→PHeap→Prop} {vC vP vB:PV} {bs:List Int} {s b n r0:Nat} {p:Int} {W:List (List Int)} {B:List (List (List Int))}
theorem zAt {b e m:Nat} {v:PV} {cs:List PV} (a:PSl b e h v m cs) (hs:s<b) (mv:Mv h s h'):PSl b e h' v m cs:=zA8 a (fun t off l c e=>mv.obj (by
 obtain⟨s',cap,rfl,_,_,_,h4,_⟩:=a;cases e;omega)) (by rw [mv.next];exact Nat.le_refl _)
theorem zHX {T h:PHeap} {bytes n:Nat} {v x:PV} {cs:List PV} {K:PV×PHeap→Prop} (so:So h s vC bs) (hs:s<T.next) (km:KM T s h) (a:PSl T.next 1 h v n cs)
  (h1:(n+1)*bytes≤140737488355328) (h2:n+1≤4611686018427387904) (k:∀v' h',KM T s h'→So h' s vC bs→PSl T.next 1 h' v' (n+1) (cs++[x])→K (v',h')):optK (qP 1 bytes (h.new [x]) v (.sl h.next 0 1 (.known 1))) K:=by
 obtain⟨σ',m,q⟩:=km;have hn:=m.next;have so':So σ' s vC bs:=by
  obtain⟨a0,sd0,S⟩:=so;exact⟨a0,sd0,by rw [←q.obj s (by omega)];exact S.obj,by omega,S.fb,S.byt,S.le,S.sd⟩
 refine PSl.push (σb:=σ') (bytes:=bytes) q (by rw [hn];exact a) h1 h2 fun v' h' k1 k2=>k v' h' ⟨σ',m,k1⟩ (so'.keep k1) (by rw [←hn];exact k2)
structure ElI (T h:PHeap) (s:Nat) (vC:PV) (bs:List Int) (v:PV) (x:List Int):Prop where
 km:KM T s h
 so:So h s vC bs
 ps:PSl T.next 1 h v x.length (pis x)
theorem zE9 (so:So σ s vC bs) (hR:IsR vP vB W B) (hp:-4611686018427387904≤p∧p≤4611686018427387904) (hl:W.length≤1048576)
  (hk:∀x h cap,full 1 cap x.length→x.length≤W.length+1→Mv σ s h→So h s vC bs→K (.sl σ.next 0 x.length cap) (h.new (pis x))):zA Tryz.prog 42 [.ptr s 0,.agg [.int .i64 p,vP,vB]] σ K:=by
 have g1:=hR.P.one;have g2:=hR.B.one;obtain⟨⟨wp,ap,rp,rfl,hrp⟩,hB⟩:=hR;have hsl:=so.lt;refine zA.gh ?_;generalize hT:σ.new [.int .i64 p,.fz wp ap W.length rp,vB]=T;have hTn:T.next=σ.next+1:=by rw [←hT];rfl
 have hkT:Keep σ T:=by rw [←hT];exact zC σ _
 have soT:So T s vC bs:=so.keep hkT;have hsT:s<T.next:=soT.lt;have obT:T.obj σ.next=some [.int .i64 p,.fz wp ap W.length rp,vB]:=by rw [←hT];simp only [pwA,seval,-iQ0]
 have rdT:∀{g:PHeap},KM T s g→g.rd1 σ.next 0=some (.int .i64 p)∧g.rd1 σ.next 1=some (.fz wp ap W.length rp):=fun {g} k=>by
  have ob:=k.obj (t:=σ.next) (by omega) (by omega)
  rw [obT]at ob
  exact⟨by rw [zG ob];rfl,by rw [zG ob];rfl⟩
 have fin:∀{g v x},ElI T g s vC bs v x→x.length≤W.length+1→Gh σ K v g:=fun {g v x} a hx=>by
  refine Gh.km ((so.kmK hkT).trans hsl a.km) a.so hsl fun σ' m' so' kp=>?_
  obtain⟨t,cap,rfl,hc,q2,q3,q4,q5⟩:=a.ps;refine Gh.finS (s:=t) kp q2 (by rw [m'.next];omega) (zZ _ _) ?_
  rw [m'.next];exact hk x σ' cap hc hx m' so'
 refine zD mix Tryz.func42 ?_;simp only [pwA,seval,-iQ0,g1,g2];rw [hT];refine zF (fun m us h=>∃(i:Nat) (v:PV) (x:List Int),i≤W.length∧m=W.length-i∧us=[.ptr s 0,.ptr σ.next 0,v,.int .i64 i]∧x.length=i∧ElI T h s vC bs v x) W.length ⟨0,.sl T.next 0 0 (.known 0),[],by omega,by omega,by first | (rw [hTn];rfl) | rfl,rfl,⟨soT.kmK (zC _ _),soT.keep (zC _ _),PSl.new _ 1 rfl (Nat.le_refl _)⟩⟩ ?_
 rintro m us h ⟨i,v,x,hi,rfl,rfl,hx,a⟩
 obtain⟨r0_,r1_⟩:=rdT a.km;simp only [pwA,seval,-iQ0,r1_];refine iteI (fun hlt=>?_) fun hge=>?_
 ·have hlt':i<W.length:=by omega
  have wi1:IntKind.i64.wrap ((i:Int)+1)=((i+1:Nat):Int):=wrapS hlt' (by omega)
  simp only [pwA,seval,-iQ0,r0_];refine ze a.so (by omega) fun y h3 hy m3 so3=>?_
  simp only [pwA,seval,-iQ0];refine zHX (bytes:=8) so3 hsT (a.km.mv hsT m3) (zAt a.ps hsT m3) (by omega) (by omega) fun v' h4 k4 so4 p4=>?_
  simp only [pwA,seval,-iQ0,wi1];exact⟨_,by omega,i+1,v',x++[y],by omega,rfl,rfl,by simp;omega,k4,so4,by rw [←zBA,List.length_append];exact p4⟩
 have hie:i=W.length:=by omega
 simp only [pwA,seval,-iQ0];refine ze a.so (by decide) fun y h3 hy m3 so3=>?_
 have a3:ElI T h3 s vC bs v x:=⟨a.km.mv hsT m3,so3,zAt a.ps hsT m3⟩
 by_cases hy0:y=0
 ·have hy0':y=0:=hy0
  simp only [pwA,seval,-iQ0,hy0',decide_true];refine zHX (bytes:=8) a3.so hsT a3.km a3.ps (by omega) (by omega) fun v' h4 k4 so4 p4=>?_
  have a4:ElI T h4 s vC bs v' (x++[0]):=⟨k4,so4,by rw [←zBA,List.length_append];exact p4⟩
  simp only [pwA,seval,-iQ0];refine ze a4.so (by decide) fun z h5 hz m5 so5=>?_
  have a5:ElI T h5 s vC bs v' (x++[0]):=⟨a4.km.mv hsT m5,so5,zAt a4.ps hsT m5⟩;obtain⟨r0_,r1_⟩:=rdT a5.km;obtain⟨t,cap,ev,q1,q2,q3,q4,q5⟩:=a5.ps;have hlv:pLen v'=some (.int .i64 (x++[0]).length):=by rw [ev];rfl
  by_cases hz0:z=0
  ·have hz0':z=0:=hz0
   by_cases hx0:0<(x++[0]).length
   ·have hx0':((x++[0]).length:Int) > 0:=by omega
    have hw:=Qh (v:=.int .i64 p) (i:=0) q2 (by rw [zY];exact hx0) rfl
    rw [zB5]at hw
    have a6:ElI T (h5.set t (pis ((x++[0]).set 0 p))) s vC bs v' ((x++[0]).set 0 p):=⟨a5.km.set (by omega) _,a5.so.set (by omega) _,t,cap,by rw [List.length_set];exact ev,by rw [List.length_set];exact q1,by rw [zH,if_pos rfl],by rw [zY,Nat.mul_one],q4,q5⟩
    subst ev;have hx0'':(0:Int)<((x++[0]).length:Int):=by omega
    simp only [pwA,seval,-iQ0,hz0',decide_true,hx0',hx0'',r0_,hw];exact fin a6 (by rw [List.length_set];simp;omega)
   ·have hx0':¬((x++[0]).length:Int) > 0:=by omega
    simp only [pwA,seval,-iQ0,hz0',decide_true,hlv,hx0',decide_false];exact fin a5 (by simp;omega)
  ·have hz0':¬z=0:=hz0
   simp only [pwA,seval,-iQ0,hz0',decide_false];exact fin a5 (by simp;omega)
 ·have hy0':¬y=0:=hy0
  simp only [pwA,seval,-iQ0,hy0',decide_false];refine ze a3.so (by decide) fun z h5 hz m5 so5=>?_
  have a5:ElI T h5 s vC bs v x:=⟨a3.km.mv hsT m5,so5,zAt a3.ps hsT m5⟩;obtain⟨r0_,r1_⟩:=rdT a5.km;obtain⟨t,cap,ev,q1,q2,q3,q4,q5⟩:=a5.ps;have hlv:pLen v=some (.int .i64 (x).length):=by rw [ev];rfl
  by_cases hz0:z=0
  ·have hz0':z=0:=hz0
   by_cases hx0:0<(x).length
   ·have hx0':((x).length:Int) > 0:=by omega
    have hw:=Qh (v:=.int .i64 p) (i:=0) q2 (by rw [zY];exact hx0) rfl
    rw [zB5]at hw
    have a6:ElI T (h5.set t (pis ((x).set 0 p))) s vC bs v ((x).set 0 p):=⟨a5.km.set (by omega) _,a5.so.set (by omega) _,t,cap,by rw [List.length_set];exact ev,by rw [List.length_set];exact q1,by rw [zH,if_pos rfl],by rw [zY,Nat.mul_one],q4,q5⟩
    subst ev;have hx0'':(0:Int)<((x).length:Int):=by omega
    simp only [pwA,seval,-iQ0,hz0',decide_true,hx0',hx0'',r0_,hw];exact fin a6 (by rw [List.length_set];omega)
   ·have hx0':¬((x).length:Int) > 0:=by omega
    simp only [pwA,seval,-iQ0,hz0',decide_true,hlv,hx0',decide_false];exact fin a5 (by omega)
  ·have hz0':¬z=0:=hz0
   simp only [pwA,seval,-iQ0,hz0',decide_false];exact fin a5 (by omega)
theorem zFA (so:So σ s vC bs) (hR:IsR vP vB W B) (hp:-4611686018427387904≤p∧p≤4611686018427387904) (hl:W.length≤1048576)
  (hk:∀v x h,FI v x→x.length≤W.length+1→Mv σ s h→So h s vC bs→K v h):zA Tryz.prog 42 [.ptr s 0,.agg [.int .i64 p,vP,vB]] σ K:=by
 refine zA.gh (zE9 so hR hp hl fun x h cap hc hx m so2=>?_)
 refine Gh.km (so.km.mv so.lt m |>.new _) (so2.keep (zC _ _)) so.lt fun σ' m' so' kp=>?_
 exact Gh.finF (s:=σ.next) kp (by rw [zP,if_pos m.next.symm]) (by rw [m'.next];exact Nat.le_refl _) (zZ _ _) hc.ok fun o=>hk _ x σ' ⟨_,_,rfl⟩ hx m' so'
end Go.Proofs
namespace Go.Proofs
open Go.Ab Go.Lie
variable {σ σ0 h h':PHeap} {K:PV→PHeap→Prop} {vC vP vB:PV} {bs:List Int} {s b n r0:Nat} {p:Int} {sP sB:Nat} {capP capB:Cap} {W:List (List Int)} {B:List (List (List Int))}
structure DrR (p:Int) (W:List (List Int)) (B:List (List (List Int))):Prop where
 p:1≤p∧p≤11
 wl:W.length≤6
 bl:B.length≤6
 sm:SmF W B
theorem DrR.sz (a:DrR p W B):SzR W B:=⟨by have:=a.wl;omega,fun r hr=>by have:=a.sm.w r hr;omega,by have:=a.bl;omega,fun q hq=>by have:=a.sm.bl q hq;omega,fun q hq r hr=>by have:=a.sm.b q hq r hr;omega⟩
theorem zH9 {cap:Cap} (hc:full 1 cap n) (hn:1≤n):∃off cap',QH 1 (.sl s 0 n cap) (some (.int .i64 1)) none none=some (.sl s off (n-1) cap')∧(off=1∨(off=0∧n=1))∧∀c,cap'=.known c→n-1≤c:=by
 have h1:(0:Int)≤1∧(1:Int)≤(n:Int):=by omega
 rcases hc with rfl|rfl
 ·refine⟨1,.grown 1,?_,.inl rfl,fun c e=>by cases e⟩
  rw [zBd];simp [zU,ZJ,h1]
 ·rw [zBc]
  by_cases e:n=1
  ·subst e
   exact⟨0,.known 0,by simp [zU,ZJ],.inr ⟨rfl,rfl⟩,fun c e=>by omega⟩
  ·refine⟨1,.known (n-1),?_,.inl rfl,fun c e=>by cases e;exact Nat.le_refl _⟩
   simp [zU,ZJ,h1,e]
theorem RS.finCut {off:Nat} {cap:Cap} {cs:List PV} {ls:List LS} (a:RS FI FI b h n sP capP cs sB capB ls W B) (hk:Keep σ h) (hb:σ.next≤b) (hn:1≤n) (hoff:off=1∨(off=0∧n=1)) (hc:∀c,cap=.known c→n-1≤c) (k:∀vP vB,IsR vP vB W (B.drop 1)→K (.agg [.int .i64 p,vP,vB]) σ):Gh σ K (.agg [.int .i64 p,.sl sP 0 n capP,.sl sB off (n-1) cap]) h:=by
 obtain⟨p1,p2,p3,p4⟩:=a.P;obtain⟨q1,q2,q3,q4⟩:=a.Q;have e1:=a.csl;have e2:=a.lsl;have et:(TR.agg [.leaf (.int .i64 p),.lst sP capP (cs.map TR.leaf),.cut sB off (n-1) cap (ls.map LS.tr)]).pv=.agg [.int .i64 p,.sl sP 0 n capP,.sl sB off (n-1) cap]:=by
  simp only [TR.pv,TR.pvs,List.length_map];rw [e1]
 rw [←et];refine Gh.treeF hk ⟨trivial,⟨⟨by rw [List.length_map,e1];exact p1,by rw [zAb];exact p2,by omega,p4⟩,zAc (a.aP.bI 0)⟩,⟨⟨hc,by rw [LS.tr_pvs];exact q2,by omega,q4,by rw [List.length_map,e2];omega⟩,LS.trs_okF fun q hq=>?_⟩,trivial⟩ fun aa=>k _ _ ⟨⟨true,.sl (aa sP) 0 cs.length capP,cs,?_,a.aP⟩,⟨false,.sl (aa sB) off (n-1) cap,((TR.fzs aa (ls.map LS.tr)).drop off).take (n-1),?_,?_⟩⟩
 ·obtain⟨g1,g2,g3,g4⟩:=a.lok q hq
  refine⟨⟨g1,g2,by omega,g4⟩,?_⟩
  obtain⟨k,hk9,rfl⟩:=List.mem_iff_getElem.1 hq;exact(a.aB.2 k _ _ (List.getElem?_eq_getElem hk9) (List.getElem?_eq_getElem (by rw [←a.aB.1];exact hk9))).bI 0
 ·simp only [TR.fz,zAd,List.length_map];rw [e1,a.lW]
 ·simp only [TR.fz,List.length_drop];rw [a.lB]
 ·rcases hoff with rfl | ⟨rfl,rfl⟩
  ·have:=((zCQ (a:=aa) a.aB).drop 1).take (n-1)
   rw [List.take_of_length_le (l:=B.drop 1) (by rw [List.length_drop,a.lB];exact Nat.le_refl _)]at this
   exact this
  ·rw [List.eq_nil_of_length_eq_zero (l:=B.drop 1) (by rw [List.length_drop,a.lB])]
   exact All2.nil _
theorem zIe (so:So σ s vC bs) (hk:∀p vP vB W B h,DrR p W B→IsR vP vB W B→Mv σ s h→So h s vC bs→K (.agg [.int .i64 p,vP,vB]) h):zA Tryz.prog 101 [.ptr s 0] σ K:=by
 have hsl:=so.lt;refine zA.gh ?_;generalize hT:σ.new [.int .i64 0,.fz true .nils 0 [],.fz true .nils 0 []]=T;have hTn:T.next=σ.next+1:=by rw [←hT];rfl
 have hkT:Keep σ T:=by rw [←hT];exact zC σ _
 have soT:So T s vC bs:=so.keep hkT;have hsT:s<T.next:=soT.lt;have obT:T.obj σ.next=some [.int .i64 0,.fz true .nils 0 [],.fz true .nils 0 []]:=by rw [←hT];simp only [pwA,seval,-iQ0]
 have hres:=fun {g:PHeap} {u0 u1 u2:PV} (k:KM T s g) (z0:u0.one=true) (z1:u1.one=true) (z2:u2.one=true)=>res3 z0 z1 z2 ((k.obj (by omega) (by omega)).trans obT)
 refine zD mix Tryz.func101 ?_;simp only [pwA,seval,-iQ0];rw [hT];refine zDe soT fun p n sP capP cs sB capB ls h1 W B hp hn1 hpow hF km1 so1 rs1=>?_
 have hn6:=hF.w.le;have hpb:=hp.bd;have hp27:2≤p∧p≤7:=by omega
 have h01:=km1.next;have gs:GS E0 FI (OkF p n) T (h1.new [.int .i64 p,.sl sP 0 n capP,.sl sB 0 n capB]) s vC bs h1.next p n sP capP sB capB:=
  ⟨km1.new _,so1.keep (zC _ _),hsT,by rw [zP,if_pos rfl],⟨by omega,Nat.lt_succ_self _⟩,⟨cs,ls,W,B,rs1.new _,hF,fun t ht e=>by have:=(rs1.lt ht).2;omega,fun u x e=>e.elim⟩,fun u x e=>e.elim⟩
 clear rs1 hF W B cs ls;have fin:∀{g:PHeap} {q:Int},1≤q∧q≤11→GS E0 FI SmF T g s vC bs h1.next q n sP capP sB capB→g.rd h1.next 0 3=some [.int .i64 q,.sl sP 0 n capP,.sl sB 0 n capB]∧g.wr σ.next 0 [.int .i64 q,.sl sP 0 n capP,.sl sB 0 n capB]=some (g.set σ.next [.int .i64 q,.sl sP 0 n capP,.sl sB 0 n capB])
   ∧(g.set σ.next [.int .i64 q,.sl sP 0 n capP,.sl sB 0 n capB]).rd σ.next 0 3=some [.int .i64 q,.sl sP 0 n capP,.sl sB 0 n capB]∧Gh σ K (.agg [.int .i64 q,.sl sP 0 n capP,.sl sB 0 n capB]) (g.set σ.next [.int .i64 q,.sl sP 0 n capP,.sl sB 0 n capB]):=fun {g q} hq a=>by
  obtain⟨x1,x2⟩:=hres (u0:=.int .i64 q) (u1:=.sl sP 0 n capP) (u2:=.sl sB 0 n capB) a.km rfl rfl rfl;refine⟨a.rd.1,x1,x2,?_⟩;obtain⟨cs,ls,W,B,rs,f,ne,_⟩:=a.rs;refine Gh.km (((so.kmK hkT).trans hsl a.km).set (Nat.le_refl _) _) (a.so.set (by omega) _) hsl fun σ' m' so' kp=>?_
  refine RS.fin ((rs.low (b':=σ'.next) (by rw [m'.next];omega)).move (fun t ht=>?_) (Nat.le_refl _)) kp (Nat.le_refl _) fun vP vB hR=>hk q vP vB W B σ' ⟨hq,by rw [rs.lW];exact hn6,by rw [rs.lB];exact hn6,f⟩ hR m' so'
  have:=(rs.lt ht).1
  rw [zH,if_neg (by omega)]
 have rowB:∀{W:List (List Int)} {B:List (List (List Int))} {i:Nat},OkF p n W B→i<n→(B.getD i []).length=n-1-i:=fun {W B i} q hi=>by
  have h1:i<B.length:=by rw [q.b.len];exact hi
  rw [zI h1];exact q.b.row i h1
 simp only [pwA,seval,-iQ0];generalize h1.new [PV.int .i64 p,.sl sP 0 n capP,.sl sB 0 n capB]=g1 at *
 have h1b:σ.next<h1.next:=by omega
 generalize h1.next=r0 at *
 refine ze gs.so (by omega) fun i0 g2 hi0 m2 so2=>?_
 have gs2:=gs.mv m2 so2;have i00:=hi0.1;have i0n:=hi0.lt (by omega)
 obtain⟨i,rfl⟩:∃i:Nat,i0=i:=⟨i0.toNat,by omega⟩
 have hin:i<n:=by omega
 have wi1:IntKind.i64.wrap ((i:Int)+1)=((i+1:Nat):Int):=by rw [wrap64 (by omega) (by omega)];omega
 have wi2:IntKind.i64.wrap ((i:Int)+2)=((i+2:Nat):Int):=by rw [wrap64 (by omega) (by omega)];omega
 have wi0:IntKind.i64.wrap (i:Int)=(i:Int):=by rw [wrap64 (by omega) (by omega)]
 simp only [pwA,seval,-iQ0,wi0];refine ze gs2.so (by decide) fun kd g3 hkd m3 so3=>?_
 have gs3:=gs2.mv m3 so3;clear gs gs2;have kd0:=hkd.1
 by_cases e0:kd=0
 ·subst e0
  have so4:=gs3.so;simp only [pwA,seval,-iQ0];refine ze (gs3.new _).so (by decide) fun y g4 hy m4 so5=>?_
  have gs4:=(gs3.new _).mv m4 so5;have y0:=hy.1;have y5:=hy.lt (by decide)
  have hT3:=gs3.km.next;have ob:g4.obj g3.next=some (pis [1,4,11,7,2]):=by rw [m4.obj (by omega),zP,if_pos rfl];rfl
  obtain⟨k,rfl⟩:∃k:Nat,y=k:=⟨y.toNat,by omega⟩
  have hk5:k<5:=by omega
  obtain⟨q,hq,hr⟩:∃q:Int,(1≤q∧q≤11)∧g4.rd1 g3.next k=some (.int .i64 q):=by
   have e:k=0∨k=1∨k=2∨k=3∨k=4:=by omega
   rcases e with rfl|rfl|rfl|rfl|rfl
   ·exact⟨1,by decide,by rw [zG ob];rfl⟩
   ·exact⟨4,by decide,by rw [zG ob];rfl⟩
   ·exact⟨11,by decide,by rw [zG ob];rfl⟩
   ·exact⟨7,by decide,by rw [zG ob];rfl⟩
   ·exact⟨2,by decide,by rw [zG ob];rfl⟩
  obtain⟨g5,w5,gs5⟩:=gs4.setp q;have a:=gs5.imp fun W B f=>f.sm
  simp only [pwA,seval,-iQ0,hr,hk5,w5];obtain⟨e1,e2,e3,e4⟩:=fin hq a;simp only [pwA,seval,-iQ0,e1,e2,e3];exact e4
 have hq:1≤p∧p≤11:=by omega
 by_cases e1:kd=1
 ·subst e1
  obtain⟨f3,f0,f1,f2⟩:=gs3.rd;simp only [pwA,seval,-iQ0,f3,f1,wi1];refine qF (vP:=.sl sP 0 n capP) (vB:=.sl sB 0 n capB) (n:=n) (k:=i+1) gs3.so hp27 rfl rfl rfl (by omega) (by omega) fun v x g4 hx hz hv m4 so4=>?_
  have gs4:=gs3.mv m4 so4;obtain⟨p3,p0,p1,p2⟩:=gs4.rd;have hxl:=hx.1;obtain⟨g5,w5,a⟩:=gs4.putP (F':=SmF) (i:=i) (w:=x) hin hv (fun W B q=>q.sm.setP (by omega))
  simp only [pwA,seval,-iQ0,p1,w5,hv.cells,hin,wi1];obtain⟨e1,e2,e3,e4⟩:=fin hq a;simp only [pwA,seval,-iQ0,e1,e2,e3];exact e4
 by_cases e2:kd=2
 ·subst e2
  obtain⟨f3,f0,f1,f2⟩:=gs3.rd;simp only [pwA,seval,-iQ0,f3,f1];refine qF (vP:=.sl sP 0 n capP) (vB:=.sl sB 0 n capB) (n:=n) (k:=i) gs3.so hp27 rfl rfl rfl (by omega) (by omega) fun v x g4 hx hz hv m4 so4=>?_
  have gs4:=gs3.mv m4 so4;obtain⟨p3,p0,p1,p2⟩:=gs4.rd;have hxl:=hx.1;obtain⟨g5,w5,a⟩:=gs4.putP (F':=SmF) (i:=i) (w:=x) hin hv (fun W B q=>q.sm.setP (by omega))
  simp only [pwA,seval,-iQ0,p1,w5,hv.cells,hin];obtain⟨e1,e2,e3,e4⟩:=fin hq a;simp only [pwA,seval,-iQ0,e1,e2,e3];exact e4
 by_cases e3:kd=3
 ·subst e3
  obtain⟨f3,f0,f1,f2⟩:=gs3.rd;obtain⟨t,c,rB⟩:=gs3.rdB hin (fun W B q=>rowB q hin)
  have hsB:=gs3.sBb
  by_cases hl0:0<n-1-i
  ·have hl0':(0:Int)<((n-1-i:Nat):Int):=by omega
   have hl0'':((n-1-i:Nat):Int) > 0:=by omega
   simp only [pwA,seval,-iQ0,f3,f2,rB,hin,hl0',hl0'',decide_true,wi2];refine qF (vP:=.sl sP 0 n capP) (vB:=.sl sB 0 n capB) (n:=n) (k:=i+2) gs3.so hp27 rfl rfl rfl (by omega) (by omega) fun v x g4 hx hz hv m4 so4=>?_
   have gs4:=gs3.mv m4 so4;obtain⟨p3,p0,p1,p2⟩:=gs4.rd;have hxl:=hx.1;have rB':g4.rd1 sB i=some (.sl t 0 (n-1-i) c):=by rw [m4.rd1 (by omega)];exact rB
   obtain⟨g5,w5,a,_⟩:=gs4.putB (F':=SmF) (i:=i) (k:=0) (w:=x) hin rB' hl0 (fun _ _ h=>h) hv hv.one (fun W B hB q=>q.sm.setB hB (by omega))
   simp only [pwA,seval,-iQ0,p2,rB',w5,hv.cells,hin,hl0'];obtain⟨e1,e2,e3,e4⟩:=fin hq a;simp only [pwA,seval,-iQ0,e1,e2,e3];exact e4
  ·have hl0'':¬((n-1-i:Nat):Int) > 0:=by omega
   have a:=gs3.imp fun W B f=>f.sm
   simp only [pwA,seval,-iQ0,f2,rB,hin,hl0'',decide_false];obtain⟨e1,e2,e3,e4⟩:=fin hq a;simp only [pwA,seval,-iQ0,e1,e2,e3];exact e4
 by_cases e4:kd=4
 ·subst e4
  obtain⟨f3,f0,f1,f2⟩:=gs3.rd;obtain⟨cs,ls,W,B,rs,f,ne,_⟩:=gs3.rs;obtain⟨off,cap',z1,z2,z3⟩:=zH9 (s:=sB) rs.Q.1 hn1;have w5:=Qh (v:=.sl sB off (n-1) cap') (i:=2) gs3.obj (by simp) rfl
  simp only [List.set_cons_succ,List.set_cons_zero]at w5
  have hr0:=gs3.r0b;have hsl3:=gs3.sl;have km5:KM T s (g3.set r0 [.int .i64 p,.sl sP 0 n capP,.sl sB off (n-1) cap']):=gs3.km.set gs3.r0b.1 _;obtain⟨x1,x2⟩:=hres (u0:=.int .i64 p) (u1:=.sl sP 0 n capP) (u2:=.sl sB off (n-1) cap') km5 rfl rfl rfl;have x0:(g3.set r0 [.int .i64 p,.sl sP 0 n capP,.sl sB off (n-1) cap']).rd r0 0 3=some [.int .i64 p,.sl sP 0 n capP,.sl sB off (n-1) cap']:=by rw [qO,if_pos rfl];rfl
  have so5:So (g3.set r0 [.int .i64 p,.sl sP 0 n capP,.sl sB off (n-1) cap']) s vC bs:=gs3.so.set (by omega) _
  have rs5:=rs.move (h':=g3.set r0 [.int .i64 p,.sl sP 0 n capP,.sl sB off (n-1) cap']) (fun t ht=>by rw [zH,if_neg (Ne.symm (ne t ht))]) (Nat.le_refl _)
  simp only [pwA,seval,-iQ0,f2,z1,w5];generalize g3.set r0 [.int .i64 p,.sl sP 0 n capP,.sl sB off (n-1) cap']=g5 at *
  simp only [pwA,seval,-iQ0,x0,x1,x2];refine Gh.km (((so.kmK hkT).trans hsl km5).set (Nat.le_refl _) _) (so5.set (by omega) _) hsl fun σ' m' so' kp=>?_
  refine RS.finCut ((rs5.low (b':=σ'.next) (by rw [m'.next];omega)).move (fun t ht=>?_) (Nat.le_refl _)) kp (Nat.le_refl _) hn1 z2 z3 fun vP vB hR=>hk p vP vB W _ σ' ⟨hq,by rw [rs.lW];exact hn6,by rw [List.length_drop,rs.lB];omega,f.sm.w,fun q hq=>f.sm.bl q (List.mem_of_mem_drop hq),fun q hq=>f.sm.b q (List.mem_of_mem_drop hq)⟩ hR m' so'
  have:=(rs5.lt ht).1
  rw [zH,if_neg (by omega)]
 by_cases e5:kd=5
 ·subst e5
  have hr0:=gs3.r0b;have w5:g3.wr r0 0 [.int .i64 3,.fz true .nils 0 [],.fz true .nils 0 []]=some (g3.set r0 [.int .i64 3,.fz true .nils 0 [],.fz true .nils 0 []]):=by rw [qH gs3.obj,if_pos ⟨by simp,by rfl⟩];rfl
  have km5:KM T s (g3.set r0 [.int .i64 3,.fz true .nils 0 [],.fz true .nils 0 []]):=gs3.km.set gs3.r0b.1 _;obtain⟨x1,x2⟩:=hres (u0:=.int .i64 3) (u1:=.fz true .nils 0 []) (u2:=.fz true .nils 0 []) km5 rfl rfl rfl;have x0:(g3.set r0 [.int .i64 3,.fz true .nils 0 [],.fz true .nils 0 []]).rd r0 0 3=some [.int .i64 3,.fz true .nils 0 [],.fz true .nils 0 []]:=by rw [qO,if_pos rfl];rfl
  have so5:So (g3.set r0 [.int .i64 3,.fz true .nils 0 [],.fz true .nils 0 []]) s vC bs:=gs3.so.set (by omega) _
  simp only [pwA,seval,-iQ0,w5];generalize g3.set r0 [.int .i64 3,.fz true .nils 0 [],.fz true .nils 0 []]=g5 at *
  simp only [pwA,seval,-iQ0,x0,x1,x2];refine Gh.km (((so.kmK hkT).trans hsl km5).set (Nat.le_refl _) _) (so5.set (by omega) _) hsl fun σ' m' so' kp=>?_
  exact Gh.fin0 kp ⟨trivial,trivial,trivial,trivial⟩ (hk 3 _ _ [] [] σ' ⟨by decide,by decide,by decide,⟨fun r hr=>(by cases hr),fun r hr=>(by cases hr),fun r hr=>(by cases hr)⟩⟩ ⟨⟨true,.nils,[],rfl,All2.nil _⟩,⟨true,.nils,[],rfl,All2.nil _⟩⟩ m' so')
 have a:=gs3.imp fun W B f=>f.sm
 simp only [pwA,seval,-iQ0,e0,e1,e2,e3,e4,e5];obtain⟨e1,e2,e3,e4⟩:=fin hq a;simp only [pwA,seval,-iQ0,e1,e2,e3];exact e4
end Go.Proofs
