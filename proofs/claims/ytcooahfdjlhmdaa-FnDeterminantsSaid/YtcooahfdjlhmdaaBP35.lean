/- Drawn primes, vectors and rows. -/
import Derived.Test.YtcooahfdjlhmdaaBP28
import Derived.Test.YtcooahfdjlhmdaaBP26
import Derived.Test.YtcooahfdjlhmdaaBAbPz
import Derived.Test.YtcooahfdjlhmdaaBAbPa
import Derived.Test.YtcooahfdjlhmdaaBP30
import Derived.Test.YtcooahfdjlhmdaaBAbPh
import Derived.Test.YtcooahfdjlhmdaaBAbPm
open Int renaming reduceNatCast'→iQ0
set_option maxRecDepth 100000
namespace Go.Grp
end Go.Grp
set_option linter.unusedSimpArgs false
set_option linter.unusedVariables false
namespace Go.Proofs
open Go.Ab Go.Lie Go.Grp Go.Mx
variable {σ:PHeap} {K:PV→PHeap→Prop} {p:Int} {n:Nat} {v w xs ys:List Int} {A M:List (List Int)} {vA vM vv v0:PV}
theorem zAB {α:Type} {a b:List α} {i:Nat} (hl:a.length=b.length) (hi:i<a.length):(a.take i++b.drop i).set i a[i]=a.take (i+1)++b.drop (i+1):=by
 have h1:(a.take i).length=i:=by rw [List.length_take];omega
 rw [List.set_append_right _ _ (by omega),h1,Nat.sub_self,List.drop_eq_getElem_cons (by omega:i<b.length),List.set_cons_zero,List.take_succ_eq_append_getElem hi,List.append_assoc]
 rfl
theorem zBA {α:Type} {a b:List α} {i:Nat} (hl:a.length=b.length) (hi:i<b.length):(a.take i++b.drop i)[i]? = some b[i]:=by
 have h1:(a.take i).length=i:=by rw [List.length_take];omega
 rw [List.getElem?_append_right (by omega),h1,List.getElem?_drop,Nat.sub_self,Nat.add_zero,List.getElem?_eq_getElem hi]
theorem zCA {x:Int} {r out:List Int} (h:r.length=out.length) {j:Nat} (hj:j<out.length):(vstep p x r out)[j]'(by rw [zP h];exact hj)=(out[j] + x*r[j]) % p:=by
 simp [vstep]
def sm9 (x:Int):Prop:=-1000000000≤x∧x≤1000000000
theorem Zy {s s' l l':Nat} {cap cap':Cap} {k:Int} (hp:0<p∧p≤1000) (hs:σ.obj s=some (pis xs)) (hs':σ.obj s'=some (pis ys)) (hne:s'≠s) (hl:l=xs.length) (hl':l'=ys.length) (hle:ys.length=xs.length) (hb:xs.length≤1048576)
  (hsm:∀i (h1:i<xs.length) (h2:i<ys.length),sm9 (k*ys[i])∧sm9 (xs[i])) (hk:K (.tup []) (σ.set s (pis (vstep p k ys xs)))):
  zB Try.prog 106 [.sl s 0 l cap,.sl s' 0 l' cap',.int .i64 k,.int .i64 p] σ K:=by
 subst hl;subst hl';have hvl:=zP (p:=p) (x:=k) hle;have er:∀t,σ.rd1 s' t=(pis ys)[t]?:=fun t=>zK hs' t
 refine zC mix Try.func106 ?_
 conv=>arg 2;cbv
 refine zF rfl ?_;simp only [pwA,seval,-iQ0];refine zM (fun m vs h'=>∃i:Nat,i≤xs.length∧m=xs.length-i∧vs=[.sl s 0 xs.length cap,.sl s' 0 ys.length cap',.int .i64 k,.int .i64 p,.int .i64 xs.length,.int .i64 i]∧h'=σ.set s (pis ((vstep p k ys xs).take i++xs.drop i))) xs.length ?_ ?_
 ·exact⟨0,by omega,by omega,rfl,by rw [List.take_zero,List.drop_zero,List.nil_append,QZ hs]⟩
 rintro m vs h' ⟨i,hi,rfl,rfl,rfl⟩
 simp only [pwA,seval,-iQ0];refine iteI (fun hlt=>?_) fun hge=>?_
 rotate_left
 ·have:i=xs.length:=by omega
  subst this;rw [List.drop_length,List.append_nil,List.take_of_length_le (by omega)]
  exact hk
 have hlt2:i<ys.length:=by omega
 have e1:=zBA hvl hlt;obtain⟨b1,b2⟩:=hsm i hlt hlt2;unfold sm9 at b1 b2
 have hlen:i+1≤((vstep p k ys xs).take i++xs.drop i).length:=by simp;omega
 have ew1:IntKind.i64.wrap (k*ys[i])=k*ys[i]:=wrap64 (by omega) (by omega)
 have ew2:IntKind.i64.wrap (xs[i] + k*ys[i])=xs[i] + k*ys[i]:=wrap64 (by omega) (by omega)
 simp only [pwA,seval,-iQ0,hlt,hlt2,zU,zN,gi hlt2,e1,hlen,ew1,ew2,hne,er];refine zAL hp.1 (by omega) ?_
 simp only [pwA,seval,-iQ0,hlt,hlen,zN,wrapS hlt (by omega:xs.length≤4611686018427387904)]
 refine⟨_,by omega,i+1,by omega,rfl,rfl,?_⟩
 rw [ZO (by simp;omega)]
 have hiv:i<(vstep p k ys xs).length:=by omega
 rw [←zAB hvl hiv,zCA hle hlt]
end Go.Proofs
namespace Go.Grp
end Go.Grp
namespace Go.Proofs
open Go.Ab Go.Lie Go.Grp Go.Mx
variable {σ:PHeap} {K:PV→PHeap→Prop} {p:Int} {n:Nat} {v w x xs ys:List Int} {A M L u:List (List Int)} {vA vM vv vw vx vu v0:PV}
theorem sm7 {a b:Int} (ha:-7≤a∧a≤7) (hb:0≤b∧b≤7):-49≤a*b∧a*b≤49:=by
 have h1:=Int.mul_le_mul_of_nonneg_right ha.1 hb.1;have h2:=Int.mul_le_mul_of_nonneg_right ha.2 hb.1;omega
theorem zBx {c:Int} (hp:2≤p∧p≤7) (hc:-7≤c∧c≤7) (hv:Ve p n v) (hw:Ve p n w) (hn:n≤1048576) (hvv:FI vv v) (hvw:FI vw w) (hk:∀z,FI z (vstep p c w v)→K z σ):
  zB Try.prog 95 [.int .i64 p,vv,.int .i64 c,vw] σ K:=by
 have hvl:=hv.len;have hwl:=hw.len;have hln:(vstep p c w v).length=v.length:=zP (by omega)
 obtain⟨wv,av,rfl⟩:=hvv;obtain⟨ww,aw,rfl⟩:=hvw;refine zB.gh ?_;refine zC mix Try.func95 ?_
 conv=>arg 2;cbv
 refine zF rfl ?_;simp only [pwA,seval,-iQ0];refine Ze rfl (by omega) fun cap hcap=>?_
 simp only [pwA,seval,-iQ0];refine zM (fun m vs h'=>∃i:Nat,i≤v.length∧m=v.length-i∧vs=[.int .i64 p,.int .i64 c,.fz ww aw w.length (pis w),.sl σ.next 0 v.length cap,.int .i64 i]∧h'=σ.new (pis ((vstep p c w v).take i++v.drop i))) v.length ?_ ?_
 ·exact⟨0,by omega,by omega,rfl,by rw [List.take_zero,List.drop_zero,List.nil_append]⟩
 rintro m vs h' ⟨i,hi,rfl,rfl,rfl⟩
 by_cases hlt:i<v.length
 rotate_left
 ·have hie:i=v.length:=by omega
  subst hie;have e0:(vstep p c w v).take v.length++v.drop v.length=vstep p c w v:=by rw [List.drop_length,List.append_nil,List.take_of_length_le (by omega)]
  rw [e0];simp only [pwA,seval,-iQ0,Nat.lt_irrefl];exact Gh.finF (s:=σ.next) (zD σ _) (by simp only [pwA,seval,-iQ0];rfl) (Nat.le_refl _) (zq _ _) hcap.ok fun o=>hk _ ⟨true,.sl o 0 v.length cap,by rw [hln]⟩
 have hlt2:i<w.length:=by omega
 have e1:=zBA hln hlt;have c1:=hw.bd i;have c2:=hv.bd i;rw [at_eq hlt2]at c1
 rw [at_eq hlt]at c2
 have hlen:i+1≤((vstep p c w v).take i++v.drop i).length:=by simp;omega
 have hb:=sm7 (a:=c) (b:=w[i]) hc (by omega)
 have ew1:IntKind.i64.wrap (c*w[i])=c*w[i]:=wrap64 (by omega) (by omega)
 have ew2:IntKind.i64.wrap (v[i] + c*w[i])=v[i] + c*w[i]:=wrap64 (by omega) (by omega)
 simp only [pwA,seval,-iQ0,hlt,hlt2,zU,zN,gi hlt2,e1,hlen,ew1,ew2];refine zAr (by omega) (by omega) ?_
 simp only [pwA,seval,-iQ0,hlt,hlen,zN,wrapS hlt (by omega:v.length≤4611686018427387904)]
 refine⟨_,by omega,i+1,by omega,rfl,rfl,?_⟩
 rw [ZO (by simp;omega)]
 have hiv:i<(vstep p c w v).length:=by omega
 have hget:(vstep p c w v)[i]=(v[i] + c*w[i]) % p:=zCA (by omega) hlt
 rw [←zAB hln hiv,hget]
theorem zFu {c:Int} {v:List Int}:vstep p c v (List.replicate v.length 0)=scl p c v:=by
 refine Qi (by rw [zP (by simp),qR];simp) fun j hj=>?_
 rw [zP (by simp),List.length_replicate]at hj
 rw [zi (by simp) (by simpa using hj),qE,zA2,Int.zero_add,Int.mul_comm]
theorem zBh {c:Int} (hp:2≤p∧p≤7) (hc:-7≤c∧c≤7) (hv:Ve p n v) (hn:n≤1048576) (hvv:FI vv v) (hk:∀z,FI z (scl p c v)→K z σ):
  zB Try.prog 87 [.int .i64 p,.int .i64 c,vv] σ K:=by
 have hvl:=hv.len;have hvv0:=hvv;obtain⟨wv,av,rfl⟩:=hvv;refine zB.gh ?_;refine zC mix Try.func87 ?_
 conv=>arg 2;cbv
 refine zF rfl ?_;simp only [pwA,seval,-iQ0,List.length_replicate,Zv,mk8 (n:=v.length) (by omega),mkL (n:=v.length) (by omega)]
 refine zB.frz (s:=σ.next) (cs:=pis (List.replicate v.length 0)) (by simp only [pwA,seval,-iQ0]) (zq _ _) fun o=>?_
 simp only [sbs,sb,capOK,and_self,if_true,decide_true,Nat.le_refl];refine zBx hp hc (n:=v.length) (v:=List.replicate v.length 0) (w:=v) (zIA (by omega)) (by rw [hvl];exact hv) (by omega) ⟨true,_,by rw [List.length_replicate]⟩ hvv0 fun z hz=>?_
 simp only [pwA,seval,-iQ0];rw [zFu]at hz
 refine Gh.fin0 ?_ (hz.bel _) (hk z hz);exact(zD σ _).kill (Nat.le_refl _)
theorem QQ {l:Nat} {w:Bool} {a:AV} {xs:List Int} (hl:l=xs.length) (hb:xs.length≤1048576) (hk:K (.int .i64 (dep xs)) σ):zB Try.prog 93 [.fz w a l (pis xs)] σ K:=by
 subst hl;refine zC mix Try.func93 ?_
 conv=>arg 2;cbv
 refine zF rfl ?_;simp only [pwA,seval,-iQ0];refine zM (fun m vs h'=>∃i:Nat,i≤dep xs∧m=dep xs-i∧vs=[.fz w a xs.length (pis xs),.int .i64 i]∧σ=h') (dep xs) ?_ ?_
 ·exact⟨0,by omega,by omega,rfl,rfl⟩
 rintro m vs h' ⟨i,hi,rfl,rfl,rfl⟩
 have hdl:=zCk xs
 by_cases hlt:i<xs.length
 ·simp only [pwA,seval,-iQ0,hlt,zU,gi hlt]
  by_cases h0:xs[i]=0
  ·have hid:i<dep xs:=by
    rcases Nat.lt_or_ge i (dep xs)with x|x
    ·exact x
    ·have:i=dep xs:=by omega
     subst this;exact absurd (by rw [at_eq hlt];exact h0) (q9 hlt)
   simp only [pwA,seval,-iQ0,h0,wrapS hlt (by omega:xs.length≤4611686018427387904)]
   exact⟨_,by omega,i+1,by omega,rfl,rfl⟩
  ·have hid:i=dep xs:=by
    rcases Nat.lt_or_ge i (dep xs)with x|x
    ·exact absurd (by rw [←at_eq hlt];exact zX x) h0
    ·omega
   subst hid;simp only [pwA,seval,-iQ0,h0];exact hk
 ·have hid:i=dep xs:=by omega
  have hxe:xs.length=dep xs:=by omega
  simp only [pwA,seval,-iQ0,hlt];rw [hxe];exact hk
theorem zFJ (hp:isP p) (hu:∀r∈u,Led p n r) (hul:u.length≤1048576) (hx:El p n x) (hn:n≤1048576) (hvu:FII vu u) (hvx:FI vx x) (hk:∀z,FI z (redL p (W0 n) u x)→K z σ):
  zB Try.prog 92 [.int .i64 p,vu,vx] σ K:=by
 have hpb:=hp.bd;have o:=W0_ok hpb n;obtain⟨wu,au,ru,rfl,hru⟩:=hvu;have hxl:=hx.1;obtain⟨wx,ax,rfl⟩:=hvx;refine zC mix Try.func92 ?_
 conv=>arg 2;cbv
 refine zF rfl ?_;simp only [pwA,seval,-iQ0];refine zHq rfl (by omega) fun a0=>?_
 simp only [pwA,seval,-iQ0];refine zM (fun m vs h'=>∃(i:Nat) (y:List Int) (vy:PV),i≤u.length∧m=u.length-i∧vs=[.int .i64 p,.fz wu au u.length ru,vy,.int .i64 i]∧σ=h'∧FI vy y∧El p n y∧redL p (W0 n) (u.drop i) y=redL p (W0 n) u x) u.length ?_ ?_
 ·exact⟨0,x,_,by omega,by omega,rfl,rfl,⟨true,a0,rfl⟩,hx,by rw [List.drop_zero]⟩
 rintro m vs h' ⟨i,y,vy,hi,rfl,rfl,rfl,hvy,hy,he⟩
 by_cases hlt:i<u.length
 rotate_left
 ·rw [List.drop_eq_nil_of_le (by omega)]at he
  simp only [pwA,seval,-iQ0,hlt];refine hk _ ?_;rw [←he];exact hvy
 obtain⟨w4,a4,hr⟩:=hru.rowI hlt;have hL:=hu _ (List.getElem_mem hlt);have hd:=hL.2.1;have hrl:=hL.1.1;have hyl:=hy.1;have hvy0:=hvy;obtain⟨wy,ay,rfl⟩:=hvy;rw [List.drop_eq_getElem_cons hlt]at he
 simp only [pwA,seval,-iQ0,hlt,hr];refine QQ rfl (by omega) ?_
 have hdy:dep u[i] < y.length:=by omega
 simp only [pwA,seval,-iQ0,hdy,zU,gi hdy];have hred:red1 p (W0 n) y u[i]=vstep p (p-y[dep u[i]]) u[i] y:=by
  rw [zKJ hpb hyl hrl,at_eq hdy];refine Qi (by rw [zP (by omega),zP (by omega)]) fun j hj=>?_
  rw [zP (by omega)]at hj
  rw [zi (by omega) hj,zi (by omega) hj]
  have:y[dep u[i]] * at_ u[i] j=y[dep u[i]] * at_ u[i] j:=rfl
  rw [show at_ y j+(p-y[dep u[i]])*at_ u[i] j=(at_ y j + -y[dep u[i]] * at_ u[i] j)+p*at_ u[i] j by grind,Int.add_mul_emod_self_left]
 have hyb:=hy.at0 o (dep u[i]);rw [at_eq hdy]at hyb
 by_cases h0:y[dep u[i]]=0
 ·simp only [pwA,seval,-iQ0,h0,wrapS hlt (by omega:u.length≤4611686018427387904)]
  refine⟨_,by omega,i+1,y,_,by omega,rfl,rfl,hvy0,hy,?_⟩
  rw [←he];show _=redL p (W0 n) (u.drop (i+1)) (red1 p (W0 n) y u[i]);rw [zGz o hy hL.1 (by rw [at_eq hdy];exact h0)]
 ·have hw1:IntKind.i64.wrap (p-y[dep u[i]])=p-y[dep u[i]]:=wrap64 (by omega) (by omega)
  simp only [pwA,seval,-iQ0,h0,hlt,hr,hdy,zU,gi hdy,hw1];refine zBx hpb (by omega) (el_ve (by omega) hy) (el_ve (by omega) hL.1) hn hvy0 ⟨w4,a4,rfl⟩ fun z hz=>?_
  simp only [pwA,seval,-iQ0,wrapS hlt (by omega:u.length≤4611686018427387904)]
  refine⟨_,by omega,i+1,_,z,by omega,rfl,rfl,hz,?_,?_⟩
  ·rw [←hred];exact zBD o hy hL.1
  ·rw [←he,←hred];rfl
end Go.Proofs
namespace Go.Grp
end Go.Grp
namespace Go.Proofs
open Go.Ab Go.Lie Go.Grp Go.Mx
variable {σ:PHeap} {K:PV→PHeap→Prop} {p:Int} {n:Nat} {v w x y xs ys:List Int} {A M L u l:List (List Int)} {vA vM vv vw vx vu v0 vL:PV}
theorem zDG:∀{l:List (List Int)} {a y:List Int},(∃o∈l,¬dep o<dep y)→insD (l++[a]) y=insD l y++[a]
 | [],a,y,h=>by obtain⟨o,ho,_⟩:=h;cases ho
 | v::l,a,y,h=>by
  simp only [List.cons_append,insD]
  split
  ·rename_i hv
   obtain⟨o,ho,hn⟩:=h;rcases List.mem_cons.1 ho with rfl|ho
   ·exact absurd hv hn
   ·rw [zDG ⟨o,ho,hn⟩];rfl
  ·rfl
theorem zEI:∀{l:List (List Int)} {y:List Int},(∀o∈l,dep o<dep y)→insD l y=l++[y]
 | [],y,_=>rfl
 | v::l,y,h=>by
  simp only [insD];rw [if_pos (h v (by simp)),zEI fun o ho=>h o (by simp [ho])]
  simp
theorem zDH:∀{l:List (List Int)} {a y:List Int},(∀o∈l,dep o<dep y)→¬dep a<dep y→insD (l++[a]) y=(l++[y])++[a]
 | [],a,y,_,h=>by simp only [List.nil_append,insD];rw [if_neg h];rfl
 | v::l,a,y,hl,h=>by
  simp only [List.cons_append,insD];rw [if_pos (hl v (by simp)),zDH (fun o ho=>hl o (by simp [ho])) h]
def part (g:List (List Int)) (y:List Int) (b:Bool):List (List Int):=if b then insD g y else g
theorem zD3 {g:List (List Int)} {y:List Int} {b:Bool}:(part g y b).length=g.length+b.toNat:=by
 cases b<;>simp [part,Q0]
theorem zEC (hp:isP p) (hL:∀r∈L,El p n r) (hll:L.length≤64) (hn:n≤64) (hvL:FII vL L) (hk:∀z u,FII z u→Canon p n (W0 n) L u→K z σ):
  zB Try.prog 54 [.int .i64 p,vL] σ K:=by
 have hpb:=hp.bd;have o:=W0_ok hpb n;obtain⟨wL,aL,rL,rfl,hrL⟩:=hvL;refine zB.gh ?_;refine zC mix Try.func54 ?_
 conv=>arg 2;cbv
 refine zF rfl ?_;simp only [pwA,seval,-iQ0];refine QV (fun m vs h'=>∃(i:Nat) (u:List (List Int)) (vu:PV),i≤L.length∧m=L.length-i∧vs=[.int .i64 p,.fz wL aL L.length rL,vu,.int .i64 i]∧Keep σ h'∧FII vu u∧Canon p n (W0 n) (L.take i) u) L.length ?_ ?_
 ·refine .fz σ.next [] (by simp only [pwA,seval,-iQ0]) trivial fun o1=>.here ⟨0,[],.fz true (.sl o1 0 0 (.known 0)) 0 [],by omega,by omega,?_,(zD σ _).kill (Nat.le_refl _),⟨_,_,_,rfl,All2.nil _⟩,by rw [List.take_zero];exact zAH⟩
  simp only [pwA,seval,-iQ0];simp only [sbs,sb,capOK,and_self,if_true,decide_true,Nat.le_refl];rfl
 rintro m vs h' ⟨i,u,vu,hi,rfl,rfl,hkp,hu,hc⟩
 simp only [pwA,seval,-iQ0];refine iteI (fun hlt=>?_) fun hge=>?_
 rotate_left
 ·have hie:i=L.length:=by omega
  subst hie;rw [List.take_length]at hc
  exact Gh.fin0 hkp (hu.bel _) (hk _ _ hu hc)
 obtain⟨w4,a4,hr⟩:=hrL.rowI hlt;have hx:=hL _ (List.getElem_mem hlt);have hul:u.length≤64:=by
  have:=hc.len;omega
 have hlp:∀{M:List (List Int)},L.take i++[L[i]]=M→L.take (i+1)=M:=fun h=>by rw [←h,List.take_succ_eq_append_getElem hlt]
 have hll2:(L.length:Int)≤4611686018427387904:=by omega
 simp only [pwA,seval,-iQ0,hlt,hr];refine zFJ hp hc.base.led (by omega) hx (by omega) hu ⟨w4,a4,rfl⟩ fun z hz=>?_
 have hre:=Zu o hc.base.els hx;have hrl:=hre.1;have hput:=fun k=>hc.put hpb hx (k:=k)
 have hskip:=hc.skip0 hpb hx;have hb0:=hre.at0 o;generalize hrr:redL p (W0 n) u L[i]=r at *
 have hz0:=hz;obtain⟨wz,az,rfl⟩:=hz;simp only [pwA,seval,-iQ0];refine QQ rfl (by omega) ?_
 have hdl:=zCk r
 by_cases hd:dep r=r.length
 ·have hd':(dep r:Int)=(r.length:Int):=by omega
  simp only [pwA,seval,-iQ0,hd',wrapS hlt (by omega:L.length≤4611686018427387904)]
  refine⟨_,by omega,.here ⟨i+1,u,_,by omega,rfl,rfl,hkp,hu,?_⟩⟩
  rw [List.take_succ_eq_append_getElem hlt];exact hskip (by omega)
 have hdn:dep r<r.length:=by omega
 have hd':¬(dep r:Int)=(r.length:Int):=by omega
 have hne:=q9 hdn;have hbd:=hb0 (dep r);rw [at_eq hdn]at hne hbd
 simp only [pwA,seval,-iQ0,hd',hdn,zU,gi hdn];refine zHs hp (by omega) fun k hk1 hk2 hk3=>?_
 simp only [pwA,seval,-iQ0];refine zBh hpb (by omega) (el_ve (by omega) hre) (by omega) hz0 fun zy hzy=>?_
 obtain⟨c1,c2,c3,c4⟩:=hput k (by omega) (by rw [at_eq hdn];exact hk3)
 generalize hyy:scl p k r=y at *
 have hyl:=c3.1.1;have hzy0:=hzy;obtain⟨wy,ay,rfl⟩:=hzy;have hu0:=hu;obtain⟨wu,au,ru,rfl,hru⟩:=hu;generalize hg:u.map (gOff p y)=g at c1
 have hgl:g.length=u.length:=by rw [←hg,List.length_map]
 have hgat:∀j (h:j<u.length),g[j]'(by omega)=gOff p y u[j]:=fun j h=>by simp [←hg]
 have hgd:∀j (h:j<u.length),dep (g[j]'(by omega))=dep u[j]:=fun j h=>by
  rw [hgat j h];exact(zEQ hpb c3 (hc.base.led _ (List.getElem_mem h)) (by rw [c2];exact c4 _ (List.getElem_mem h))).2
 simp only [pwA,seval,-iQ0];have hkn:=zD h' [];refine zM (fun m vs h2=>∃(j:Nat) (b:Bool) (vN:PV) (rows:List PV),j≤u.length∧m=u.length-j∧vs=[.int .i64 p,.fz wL aL L.length rL,.fz wu au u.length ru,.int .i64 i,.fz wy ay y.length (pis y),.int .i64 (dep r),vN,.bool b,.int .i64 j]∧Keep σ h2∧PSl σ.next 1 h2 vN (part (g.take j) y b).length rows∧All2 FI rows (part (g.take j) y b)∧(b=true→∃q∈g.take j,¬dep q<dep y)∧(b=false→∀q∈g.take j,dep q<dep y)) u.length ?_ ?_
 ·refine⟨0,false,_,[],by omega,by omega,rfl,hkp.new _,?_,by rw [List.take_zero];exact All2.nil _,fun h=>(by cases h),fun _ q hq=>(by rw [List.take_zero]at hq;cases hq)⟩
  rw [List.take_zero];exact PSl.new _ 1 rfl hkp.next
 rintro m vs h2 ⟨j,b,vN,rows,hj,rfl,rfl,hkp2,ha,hall,hb1,hb2⟩
 have hpl:(part (g.take j) y b).length≤65:=by rw [zD3,List.length_take];cases b<;>simp<;>omega
 have hpl1:(part (g.take j) y b).length=min j g.length+b.toNat:=by rw [zD3,List.length_take]
 by_cases hlj:j<u.length
 rotate_left
 ·have hje:j=u.length:=by omega
  subst hje;have ht:g.take u.length=g:=by rw [←hgl];exact List.take_length
  rw [ht]at ha hall hb1 hb2 hpl
  have fin:∀{vF:PV} {h3:PHeap} {rs:List PV},Keep σ h3→PSl σ.next 1 h3 vF (insD g y).length rs→All2 FI rs (insD g y)→∃m',m'<L.length-i∧GL (fun vs h'=>∃(i:Nat) (u:List (List Int)) (vu:PV),i≤L.length∧m'=L.length-i∧vs=[.int .i64 p,.fz wL aL L.length rL,vu,.int .i64 i]∧Keep σ h'∧FII vu u∧Canon p n (W0 n) (L.take i) u) [.int .i64 p,.fz wL aL L.length rL,vF,.int .i64 ((i+1:Nat):Int)] h3:=fun {vF h3 rs} k3 a3 all3=>by
   obtain⟨s,cap,rfl,hcap,q2,q3,q4,q5⟩:=a3;refine⟨L.length-(i+1),by omega,.fz s rs q2 (all3.bI 0) fun o2=>.here ⟨i+1,insD g y,_,by omega,rfl,?_,k3.kill q4,⟨true,.sl o2 0 (insD g y).length cap,rs,rfl,all3⟩,by rw [List.take_succ_eq_append_getElem hlt];exact c1⟩⟩
   simp only [sbs,sb,hcap.ok,and_self,if_true]
  cases b with
  | true=>
   simp only [part,if_true]at ha hall
   simp only [pwA,seval,-iQ0,hlj,wrapS hlt (by omega:L.length≤4611686018427387904)]
   exact fin hkp2 ha hall
  | false=>
   simp only [part,Bool.false_eq_true,if_false]at ha hall hpl
   simp only [pwA,seval,-iQ0,hlj];refine PSl.push (bytes:=24) hkp2 ha (by omega) (by omega) fun v' h3 k3 a3=>?_
   simp only [pwA,seval,-iQ0,wrapS hlt (by omega:L.length≤4611686018427387904)]
   have e:=zEI (l:=g) (y:=y) fun q hq=>hb2 rfl q hq
   exact fin k3 (by rw [e,List.length_append];exact a3) (by rw [e];exact hall.snoc hzy0)
 obtain⟨w5,a5,hr5⟩:=hru.rowI hlj;have hL5:=hc.base.led _ (List.getElem_mem hlj);have hl5:=hL5.1.1;have hd5:dep r<u[j].length:=by omega
 have hb5:=hL5.1.at0 o (dep r);rw [at_eq hd5]at hb5
 have hw5:IntKind.i64.wrap (p-u[j][dep r])=p-u[j][dep r]:=wrap64 (by omega) (by omega)
 have hne5:=c4 _ (List.getElem_mem hlj);have hgo:gOff p y u[j]=vstep p (p-u[j][dep r]) y u[j]:=by unfold gOff;rw [c2,at_eq hd5]
 have htk:g.take (j+1)=g.take j++[gOff p y u[j]]:=by rw [List.take_succ_eq_append_getElem (by omega),hgat j hlj]
 have hdd:=hgd j hlj;rw [hgat j hlj]at hdd
 -- what follows once the row stands: one more
 have rest:∀{vN:PV} {h2:PHeap} {rows:List PV} {N:List (List Int)} (b':Bool),N++[gOff p y u[j]]=part (g.take (j+1)) y b'→(b'=true→∃q∈g.take (j+1),¬dep q<dep y)→(b'=false→∀q∈g.take (j+1),dep q<dep y)→All2 FI rows N→
   ∀z,FI z (gOff p y u[j])→Keep σ h2→PSl σ.next 1 h2 vN (N.length+1) (rows++[z])→∃m',m'<u.length-j∧∃(j':Nat) (b:Bool) (vN':PV) (rows:List PV),j'≤u.length∧m'=u.length-j'∧[PV.int .i64 p,.fz wL aL L.length rL,.fz wu au u.length ru,.int .i64 i,.fz wy ay y.length (pis y),.int .i64 (dep r),vN,.bool b',.int .i64 ((j+1:Nat):Int)]=[.int .i64 p,.fz wL aL L.length rL,.fz wu au u.length ru,.int .i64 i,.fz wy ay y.length (pis y),.int .i64 (dep r),vN',.bool b,.int .i64 j']∧Keep σ h2∧PSl σ.next 1 h2 vN' (part (g.take j') y b).length rows∧All2 FI rows (part (g.take j') y b)∧(b=true→∃q∈g.take j',¬dep q<dep y)∧(b=false→∀q∈g.take j',dep q<dep y):=by
  intro vN h2 rows N b' he h1' h2' all2 z hz k3 a3;refine⟨_,by omega,j+1,b',vN,rows++[z],by omega,rfl,rfl,k3,?_,?_,h1',h2'⟩
  ·rw [←he,List.length_append];exact a3
  ·rw [←he];exact all2.snoc hz
 have hcall:∀{h3:PHeap} {K':PV→PHeap→Prop},(∀z,FI z (gOff p y u[j])→K' z h3)→zB Try.prog 95 [.int .i64 p,.fz w5 a5 u[j].length (pis u[j]),.int .i64 (p-u[j][dep r]),.fz wy ay y.length (pis y)] h3 K':=fun {h3 K'} k'=>
  zBx hpb (by omega) (el_ve (by omega) hL5.1) (el_ve (by omega) c3.1) (by omega) ⟨w5,a5,rfl⟩ hzy0 fun z hz=>k' z (by rw [hgo];exact hz)
 have hin:gOff p y u[j]∈g.take (j+1):=by rw [htk];simp
 cases b with
 | true=>
  simp only [part,if_true]at ha hall hpl
  obtain⟨q,hq,hqd⟩:=hb1 rfl;simp only [pwA,seval,-iQ0,hlj,hr5,zU,hd5,gi hd5,hw5];refine hcall fun z hz=>?_
  have hz0:=hz;obtain⟨wq,aq,rfl⟩:=hz;simp only [pwA,seval,-iQ0];refine PSl.push (bytes:=24) hkp2 ha (by omega) (by omega) fun v' h3 k3 a3=>?_
  simp only [pwA,seval,-iQ0,wrapS hlj (by omega:u.length≤4611686018427387904)]
  exact rest true (by simp only [part,if_true];rw [htk,zDG ⟨q,hq,hqd⟩]) (fun _=>⟨q,by rw [htk];exact List.mem_append_left _ hq,hqd⟩) (fun h=>by cases h) hall _ hz0 k3 a3
 | false=>
  simp only [part,Bool.false_eq_true,if_false]at ha hall hpl
  simp only [pwA,seval,-iQ0,hlj,hr5];refine QQ rfl (by omega) ?_
  by_cases hlt5:dep u[j] < dep y
  ·have h5':¬(dep r:Int)<(dep u[j]:Int):=by omega
   simp only [pwA,seval,-iQ0,h5',hlj,hr5,zU,hd5,gi hd5,hw5];refine hcall fun z hz=>?_
   have hz0:=hz;obtain⟨wq,aq,rfl⟩:=hz;simp only [pwA,seval,-iQ0];refine PSl.push (bytes:=24) hkp2 ha (by omega) (by omega) fun v' h3 k3 a3=>?_
   simp only [pwA,seval,-iQ0,wrapS hlj (by omega:u.length≤4611686018427387904)]
   exact rest false (by simp only [part,Bool.false_eq_true,if_false];rw [htk]) (fun h=>by cases h) (fun _ q hq=>by
    rw [htk]at hq
    rcases List.mem_append.1 hq with hq|hq
    ·exact hb2 rfl q hq
    ·rw [List.mem_singleton.1 hq,hdd];exact hlt5) hall _ hz0 k3 a3
  ·have h5':(dep r:Int)<(dep u[j]:Int):=by omega
   simp only [pwA,seval,-iQ0,h5',hlj];refine PSl.push (bytes:=24) hkp2 ha (by omega) (by omega) fun v' h3 k3 a3=>?_
   simp only [pwA,seval,-iQ0,hlj,hr5,zU,hd5,gi hd5,hw5];refine hcall fun z hz=>?_
   have hz0:=hz;obtain⟨wq,aq,rfl⟩:=hz;simp only [pwA,seval,-iQ0];refine PSl.push (bytes:=24) k3 a3 (by omega) (by omega) fun v4 h4 k4 a4=>?_
   simp only [pwA,seval,-iQ0,wrapS hlj (by omega:u.length≤4611686018427387904)]
   refine rest (N:=g.take j++[y]) true (by simp only [part,if_true];rw [htk,zDH (fun q hq=>hb2 rfl q hq) (by rw [hdd];exact hlt5)]) (fun _=>⟨_,hin,by rw [hdd];exact hlt5⟩) (fun h=>by cases h) (hall.snoc hzy0) _ hz0 k4 (by rw [List.length_append];exact a4)
end Go.Proofs
namespace Go.Grp
end Go.Grp
namespace Go.Proofs
open Go.Ab Go.Lie Go.Grp Go.Mx
variable {σ h:PHeap} {K:PV→PHeap→Prop} {p:Int} {n s0:Nat} {A L X u:List (List Int)} {vA vL:PV} {rows:List SR}
theorem qz {h:PHeap} {t i:Nat} {cs:List PV} {v:PV} (ho:h.obj t=some cs) (hi:i<cs.length) (hv:v.one=true):h.wr t i [v]=some (h.set t (cs.set i v)):=by
 rw [q8 ho,if_pos ⟨by simp;omega,by simp [hv]⟩]
 congr 2
 rw [List.append_assoc];exact take_set cs hi v
theorem Zi {α β:Type} (f:α→β) {xs:List α} {i:Nat} {x y:α} (hx:xs[i]? = some x) (e:f y=f x):(xs.set i y).map f=xs.map f:=by
 rw [List.map_set,e];refine List.ext_getElem? fun j=>?_
 rw [List.getElem?_set]
 split
 ·rename_i e2
  subst e2;rw [List.getElem?_map,hx]
  split
  ·rfl
  ·rename_i e3
   have:=(List.getElem?_eq_some_iff.1 hx).1
   simp only [List.length_map]at e3
   omega
 ·rfl
structure RM (σ h:PHeap) (s0:Nat) (rows:List SR):Prop where
 keep:Keep σ h
 obj:h.obj s0=some (rows.map SR.pv)
 lo:σ.next≤s0
 lt:s0<h.next
 ok:∀q∈rows,q.ok h σ.next
 nd:(qg rows).Nodup
 ne:s0∉qg rows
theorem zDl (nd:(qg rows).Nodup) {i j:Nat} (hi:i<rows.length) (hj:j<rows.length) (e:rows[i].s=rows[j].s):i=j:=by
 have:=(List.getElem_inj (xs:=qg rows) (i:=i) (j:=j) (h₀:=by simpa [qg]using hi) (h₁:=by simpa [qg]using hj) nd).1 (by simpa [qg]using e)
 exact this
theorem RM.put (a:RM σ h s0 rows) {i:Nat} (hi:i<rows.length) {x:List Int} (hx:x.length=rows[i].x.length):RM σ (h.set rows[i].s (pis x)) s0 (rows.set i ⟨rows[i].s,rows[i].cap,x⟩):=by
 have hm:=List.getElem_mem hi;obtain⟨g1,g2,g3,g4⟩:=a.ok _ hm;have hne:s0≠rows[i].s:=fun e=>a.ne (List.mem_map.2 ⟨_,hm,e.symm⟩)
 have hsl:qg (rows.set i ⟨rows[i].s,rows[i].cap,x⟩)=qg rows:=Zi SR.s (List.getElem?_eq_getElem hi) rfl;have hpv:(rows.set i ⟨rows[i].s,rows[i].cap,x⟩).map SR.pv=rows.map SR.pv:=Zi SR.pv (List.getElem?_eq_getElem hi) (by show PV.sl _ 0 x.length _=PV.sl _ 0 rows[i].x.length _;rw [hx])
 refine⟨a.keep.set g3 _,by rw [zJ,if_neg hne,hpv];exact a.obj,a.lo,a.lt,fun q hq=>?_,by rw [hsl];exact a.nd,by rw [hsl];exact a.ne⟩
 obtain⟨j,hj,rfl⟩:=List.mem_iff_getElem.1 hq;rw [List.length_set]at hj
 rw [List.getElem_set]
 split
 ·exact⟨by show full 1 rows[i].cap x.length;rw [hx];exact g1,by rw [zJ,if_pos rfl],g3,g4⟩
 ·rename_i e
  obtain⟨f1,f2,f3,f4⟩:=a.ok _ (List.getElem_mem hj);exact⟨f1,by rw [zJ,if_neg fun e2=>e (zDl a.nd hi hj e2.symm)];exact f2,f3,f4⟩
theorem RM.swap (a:RM σ h s0 rows) {i j:Nat} (hi:i<rows.length) (hj:j<rows.length):RM σ (h.set s0 (((rows.set i rows[j]).set j rows[i]).map SR.pv)) s0 ((rows.set i rows[j]).set j rows[i]):=by
 have hp:=List.set_set_perm hi hj;have hne:∀q∈rows,q.s≠s0:=fun q hq e=>a.ne (List.mem_map.2 ⟨q,hq,e⟩)
 refine⟨a.keep.set a.lo _,by rw [zJ,if_pos rfl],a.lo,a.lt,fun q hq=>?_,((hp.map SR.s).nodup_iff).2 a.nd,fun hm=>a.ne ((hp.map SR.s).mem_iff.1 hm)⟩
 have hq':=hp.mem_iff.1 hq;obtain⟨f1,f2,f3,f4⟩:=a.ok _ hq';exact⟨f1,by rw [zJ,if_neg (hne q hq')];exact f2,f3,f4⟩
def RX (σ h:PHeap) (s0:Nat) (X:List (List Int)):Prop:=∃rows,RM σ h s0 rows∧rows.map SR.x=X
theorem RX.keep (a:RX σ h s0 X):Keep σ h:=by obtain⟨rows,a,rfl⟩:=a;exact a.keep
theorem RX.get (a:RX σ h s0 X) {i:Nat} (hi:i<X.length):∃s cap,h.rd1 s0 i=some (.sl s 0 X[i].length cap)∧h.obj s=some (pis X[i])∧full 1 cap X[i].length∧s≠s0∧s<h.next∧∀x:List Int,x.length=X[i].length→RX σ (h.set s (pis x)) s0 (X.set i x):=by
 obtain⟨rows,a,rfl⟩:=a;rw [List.length_map]at hi
 have hm:=List.getElem_mem hi;obtain⟨g1,g2,g3,g4⟩:=a.ok _ hm;rw [List.getElem_map];refine⟨rows[i].s,rows[i].cap,?_,g2,g1,fun e=>a.ne (List.mem_map.2 ⟨_,hm,e⟩),g4,fun x hx=>⟨_,a.put hi hx,?_⟩⟩
 ·rw [zK a.obj,List.getElem?_map,List.getElem?_eq_getElem hi];rfl
 ·rw [List.map_set]
theorem RX.two (a:RX σ h s0 X) {i j:Nat} (hi:i<X.length) (hj:j<X.length) (hne:i≠j):∃s cap t cap',h.rd1 s0 i=some (.sl s 0 X[i].length cap)∧h.obj s=some (pis X[i])∧h.rd1 s0 j=some (.sl t 0 X[j].length cap')∧h.obj t=some (pis X[j])∧s≠t∧s≠s0∧t≠s0∧∀x:List Int,x.length=X[i].length→RX σ (h.set s (pis x)) s0 (X.set i x):=by
 obtain⟨rows,a,rfl⟩:=a;rw [List.length_map]at hi hj
 obtain⟨g1,g2,g3,g4⟩:=a.ok _ (List.getElem_mem hi);obtain⟨f1,f2,f3,f4⟩:=a.ok _ (List.getElem_mem hj);rw [List.getElem_map,List.getElem_map];refine⟨rows[i].s,rows[i].cap,rows[j].s,rows[j].cap,?_,g2,?_,f2,fun e=>hne (zDl a.nd hi hj e),fun e=>a.ne (List.mem_map.2 ⟨_,List.getElem_mem hi,e⟩),fun e=>a.ne (List.mem_map.2 ⟨_,List.getElem_mem hj,e⟩),fun x hx=>⟨_,a.put hi hx,?_⟩⟩
 ·rw [zK a.obj,List.getElem?_map,List.getElem?_eq_getElem hi];rfl
 ·rw [zK a.obj,List.getElem?_map,List.getElem?_eq_getElem hj];rfl
 ·rw [List.map_set]
theorem RX.swap (a:RX σ h s0 X) {i j:Nat} (hi:i<X.length) (hj:j<X.length):∃s cap t cap' h1 h2,h.rd1 s0 i=some (.sl s 0 X[i].length cap)∧h.rd1 s0 j=some (.sl t 0 X[j].length cap')∧h.wr s0 i [.sl t 0 X[j].length cap']=some h1∧h1.wr s0 j [.sl s 0 X[i].length cap]=some h2∧RX σ h2 s0 ((X.set i X[j]).set j X[i]):=by
 obtain⟨rows,a,rfl⟩:=a;rw [List.length_map]at hi hj
 rw [List.getElem_map,List.getElem_map];refine⟨rows[i].s,rows[i].cap,rows[j].s,rows[j].cap,h.set s0 ((rows.map SR.pv).set i rows[j].pv),h.set s0 (((rows.map SR.pv).set i rows[j].pv).set j rows[i].pv),?_,?_,?_,?_,⟨(rows.set i rows[j]).set j rows[i],?_,?_⟩⟩
 ·rw [zK a.obj,List.getElem?_map,List.getElem?_eq_getElem hi];rfl
 ·rw [zK a.obj,List.getElem?_map,List.getElem?_eq_getElem hj];rfl
 ·exact qz a.obj (by simpa using hi) rfl
 ·have:=qz (h:=h.set s0 ((rows.map SR.pv).set i rows[j].pv)) (t:=s0) (i:=j) (v:=rows[i].pv) (by rw [zJ,if_pos rfl]) (by simpa using hj) rfl
  rw [zC9]at this
  exact this
 ·have:=a.swap hi hj
  rw [List.map_set,List.map_set]at this
  exact this
 ·rw [List.map_set,List.map_set]
theorem zAz (hL:∀r∈A,r.length≤1048576) (hll:A.length≤1000) (hvA:FII vA A) (hk:∀v h' rows,Keep σ h'→PAcc σ.next 1 h' v A.length rows→All2 FI rows A→K v h'):zB Try.prog 70 [vA] σ K:=by
 obtain⟨wA,aA,rA,rfl,hrA⟩:=hvA;refine zC mix Try.func70 ?_
 conv=>arg 2;cbv
 refine zF rfl ?_;simp only [pwA,seval,-iQ0];refine zM (fun m vs h'=>∃(i:Nat) (v:PV) (rows:List PV),i≤A.length∧m=A.length-i∧vs=[v,.fz wA aA A.length rA,.int .i64 A.length,.int .i64 i]∧Keep σ h'∧PAcc σ.next 1 h' v i rows∧All2 FI rows (A.take i)) A.length ?_ ?_
 ·exact⟨0,_,[],by omega,by omega,rfl,Keep.refl σ,PAcc.nil _ _ _,by rw [List.take_zero];exact All2.nil _⟩
 rintro m vs h' ⟨i,v,rows,hi,rfl,rfl,hkp,ha,hall⟩
 simp only [pwA,seval,-iQ0];refine iteI (fun hlt=>?_) fun hge=>?_
 rotate_left
 ·have hie:i=A.length:=by omega
  subst hie;rw [List.take_length]at hall
  exact hk _ _ _ hkp ha hall
 obtain⟨w4,a4,hr⟩:=hrA.rowI hlt;simp only [pwA,seval,-iQ0,hlt,hr];refine zB.fzI (fun K' k'=>zB8 rfl (by have:=hL _ (List.getElem_mem hlt);omega) k') fun a5=>?_
 simp only [pwA,seval,-iQ0];refine PAcc.push (bytes:=24) hkp ha (by omega) (by omega) fun v' h2 k2 a2=>?_
 simp only [pwA,seval,-iQ0,wrapS hlt (by omega:A.length≤4611686018427387904)]
 exact⟨_,by omega,i+1,v',rows++[.fz true a5 A[i].length (pis A[i])],by omega,rfl,rfl,k2,a2.acc,by rw [List.take_succ_eq_append_getElem hlt];exact hall.snoc ⟨true,a5,rfl⟩⟩
theorem zBm (hL:∀r∈A,r.length=n) (hn:0<n∧n≤1000) (hll:A.length≤1000) (hvA:FII vA A) (hk:∀v h' rows,RowsI σ h' v rows→rows.map SR.x=A→K v h'):zB Try.prog 70 [vA] σ K:=by
 obtain⟨wA,aA,rA,rfl,hrA⟩:=hvA;refine zC mix Try.func70 ?_
 conv=>arg 2;cbv
 refine zF rfl ?_;simp only [pwA,seval,-iQ0];refine zM (fun m vs h'=>∃(i:Nat) (v:PV) (rows:List SR),i≤A.length∧m=A.length-i∧vs=[v,.fz wA aA A.length rA,.int .i64 A.length,.int .i64 i]∧RowsI σ h' v rows∧rows.map SR.x=A.take i) A.length ?_ ?_
 ·exact⟨0,_,[],by omega,by omega,rfl,RowsI.nil σ,by rw [List.take_zero];rfl⟩
 rintro m vs h' ⟨i,v,rows,hi,rfl,rfl,ha,hall⟩
 simp only [pwA,seval,-iQ0];refine iteI (fun hlt=>?_) fun hge=>?_
 rotate_left
 ·have hie:i=A.length:=by omega
  subst hie;rw [List.take_length]at hall
  exact hk _ _ _ ha hall
 obtain⟨w4,a4,hr⟩:=hrA.rowI hlt;have hl:=hL _ (List.getElem_mem hlt);have hrl:rows.length=i:=by have:=congrArg List.length hall;rw [List.length_map,List.length_take]at this;omega
 simp only [pwA,seval,-iQ0,hlt,hr];refine zB8 rfl (by omega) ⟨fun h0=>by rw [h0]at hl;simp at hl;omega,fun cap hcap=>?_⟩
 simp only [pwA,seval,-iQ0];refine RowsI.push ha (zD _ _) (t:=h'.next) (cap:=cap) (x:=A[i]) (Nat.le_refl _) (Nat.lt_succ_self _) (by rw [zL,if_pos rfl]) hcap (by omega) fun v' h2 a2 k2 l2=>?_
 simp only [pwA,seval,-iQ0,wrapS hlt (by omega:A.length≤4611686018427387904)]
 exact⟨_,by omega,i+1,v',_,by omega,rfl,rfl,a2,by rw [List.take_succ_eq_append_getElem hlt,List.map_append,hall];rfl⟩
theorem RowsI.rx {v:PV} (a:RowsI σ h v rows) (hpos:0<rows.length):∃s0 cap,v=.sl s0 0 rows.length cap∧full 1 cap rows.length∧RX σ h s0 (rows.map SR.x):=by
 obtain⟨s0,cap,rfl,hf,q2,q3,q4,q5⟩:=a.acc.pos hpos;exact⟨s0,cap,rfl,hf,rows,⟨a.keep,q2,q4,q5,a.ok,a.nd,fun hm=>a.ne s0 hm 0 _ cap rfl⟩,rfl⟩
end Go.Proofs
namespace Go.Grp
end Go.Grp
namespace Go.Proofs
open Go.Ab Go.Lie Go.Grp Go.Mx
variable {σ h:PHeap} {K:PV→PHeap→Prop} {p:Int} {n s0:Nat} {A L X u:List (List Int)} {vA vL:PV} {rows:List SR}
theorem QW {P:Program} {c:IC} {Q:Exit→PEnv→PHeap→Prop} {e:PEnv} {h:PHeap} (id:Nat) (J:PEnv→PHeap→Prop) (h1:∀Q':Exit→PEnv→PHeap→Prop,(∀e h,J e h→Q' (.exit id) e h)→vp P c Q' e h) (h2:∀e h,J e h→Q (.exit id) e h):vp P c Q e h:=h1 Q h2
theorem zDB {m d:Nat} {cap:Cap} (hf:full 1 cap m) (hd:d≤m):qh 1 (.sl s0 0 m cap) none (some (.int .i64 d)) (some (.int .i64 d))=some (.sl s0 0 d (.known d)):=by
 have h1:(0:Int)≤(d:Int)∧(d:Int)≤(m:Int):=by omega
 have h2:(0:Int)≤(d:Int)∧(d:Int)≤(d:Int):=by omega
 rcases hf with rfl|rfl
 ·rw [zG7]
  simp [zO,qN,h1,h2]
 ·rw [Qc]
  simp [zO,qN,h1,h2]
theorem zDQ (hp:isP p) (hL:∀r∈L,El p n r) (hn:0<n∧n≤64) (hll:0<L.length∧L.length≤64) (hvL:FII vL L)
  (hk:∀s0 d X h',RX σ h' s0 X→X.length=L.length→d≤X.length→Canon p n (W0 n) L (X.take d)→K (.sl s0 0 d (.known d)) h'):
  zB Try.prog 101 [.int .i64 p,vL] σ K:=by
 have hpb:=hp.bd;have hq:pr7 p:=hp;have o:=W0_ok hpb n;refine zC mix Try.func101 ?_
 conv=>arg 2;cbv
 refine zF rfl ?_;simp only [pwA,seval,-iQ0];refine zBm (n:=n) (fun r hr=>(hL r hr).1) ⟨hn.1,by omega⟩ (by omega) hvL fun v h0 rows ha hX=>?_
 have hrl:rows.length=L.length:=by rw [←hX,List.length_map]
 obtain⟨s0,cap,rfl,hf,rx⟩:=RowsI.rx ha (by omega)
 rw [hrl]at hf ⊢
 rw [hX]at rx
 simp only [pwA,seval,-iQ0];refine zM (fun m vs h'=>∃(c d:Nat) (X:List (List Int)),m=n-c∧vs=[.int .i64 p,.sl s0 0 L.length cap,.int .i64 d,.int .i64 c]∧RX σ h' s0 X∧X.length=L.length∧Ech p n L X d c) n ?_ ?_
 ·exact⟨0,0,L,by omega,rfl,rx,rfl,Ech.start hL⟩
 clear rx ha hX hrl
 rintro m vs h' ⟨c,d,X,rfl,rfl,rx,hXl,he⟩
 have hcn:=he.cn;have hdl:=he.dl;have hXn:∀i (hi:i<X.length),X[i].length=n:=fun i hi=>(he.el _ (List.getElem_mem hi)).1
 obtain⟨s1,cap1,q1,q2,q3,q4,q5,q6⟩:=rx.get (i:=0) (by omega)
 rw [hXn]at q1
 have hpos:(0:Int)<(L.length:Int):=by omega
 have fin:c=n∨d=X.length→K (.sl s0 0 d (.known d)) h':=fun hcd=>hk s0 d X h' rx hXl hdl (he.done hcd)
 have hsl:=zDB (s0:=s0) hf (d:=d) (by omega)
 by_cases hc:c<n
 rotate_left
 ·have hce:c=n:=by omega
  simp only [pwA,seval,-iQ0,hpos,q1,hc,decide_false,hsl];exact fin (.inl hce)
 by_cases hd:d<L.length
 rotate_left
 ·have hde:d=X.length:=by omega
  simp only [pwA,seval,-iQ0,hpos,q1,hc,hd,decide_true,decide_false,hsl];exact fin (.inr hde)
 clear fin;have wc1:IntKind.i64.wrap ((c:Int)+1)=((c+1:Nat):Int):=by rw [wrap64 (by omega) (by omega)];omega
 simp only [pwA,seval,-iQ0,hpos,q1,hc,hd,decide_true];have row0:∀k (hk:k<X.length) j (hj:j<X[k].length),at_ (row X k) j=X[k][j]:=fun k hk j hj=>by rw [zG hk,at_eq hj]
 refine QW 2 (fun e h=>∃(t:Nat) (b0:PV),e=PEnv.mk [0,1,5,6,7,47] [.int .i64 p,.sl s0 0 L.length cap,.int .i64 d,.int .i64 c,.int .i64 t,b0]∧h=h'∧d≤t∧t≤L.length∧(∀k,d≤k→k<t→at_ (row X k) c=0)∧(t<L.length→at_ (row X t) c≠0)) (fun Q2 hQ2=>?_) ?_
 ·refine zM (fun m us h=>∃t:Nat,m=L.length-t∧us=[.int .i64 p,.sl s0 0 L.length cap,.int .i64 d,.int .i64 c,.int .i64 t]∧h=h'∧d≤t∧t≤L.length∧∀k,d≤k→k<t→at_ (row X k) c=0) (L.length-d) ⟨d,rfl,rfl,rfl,Nat.le_refl _,by omega,fun k h1 h2=>by omega⟩ ?_
  rintro m us h ⟨t,rfl,rfl,rfl,hdt,htl,hz⟩
  by_cases hlt:t<L.length
  rotate_left
  ·simp only [pwA,seval,-iQ0,hlt,decide_false]
   exact hQ2 _ _ ⟨t,_,rfl,rfl,hdt,htl,hz,fun g=>absurd g hlt⟩
  have htX:t<X.length:=by omega
  obtain⟨s2,cap2,r1,r2,r3,r4,r5,r6⟩:=rx.get htX;rw [hXn]at r1
  have hcr:c<X[t].length:=by rw [hXn];exact hc
  have r7:h.rd1 s2 c=some (.int .i64 X[t][c]):=by rw [zK r2,zU,gi hcr];rfl
  have hat:=row0 t htX c hcr
  by_cases h0:X[t][c]=0
  ·simp only [pwA,seval,-iQ0,hlt,decide_true,r1,hc,r7,h0,wrapS hlt (by omega:L.length≤4611686018427387904)]
   refine⟨_,by omega,t+1,rfl,rfl,by omega,by omega,fun k h1 h2=>?_⟩
   by_cases hk:k=t
   ·rw [hk,hat,h0]
   ·exact hz k h1 (by omega)
  ·simp only [pwA,seval,-iQ0,hlt,decide_true,r1,hc,r7,h0,decide_false]
   exact hQ2 _ _ ⟨t,_,rfl,rfl,hdt,htl,hz,fun _=>by rw [hat];exact h0⟩
 rintro e h ⟨t,b0,rfl,rfl,hdt,htl,hz,hnz⟩
 simp only [pwA,seval,-iQ0]
 by_cases hlt:t<L.length
 rotate_left
 ·have hte:(t:Int)=(L.length:Int):=by omega
  simp only [pwA,seval,-iQ0,hte,wc1];exact⟨_,by omega,c+1,d,X,rfl,rfl,rx,hXl,he.skip hc fun k h1 h2=>hz k h1 (by omega)⟩
 have htX:t<X.length:=by omega
 have hdX:d<X.length:=by omega
 have hte:¬(t:Int)=(L.length:Int):=by omega
 have hnz:=hnz hlt;have htel:=he.el _ (List.getElem_mem htX);have htb:=htel.at0 o c;have hcr:c<X[t].length:=by rw [hXn];exact hc
 rw [zG htX]at hnz
 obtain⟨s2,cap2,s3,cap3,h1,h2,r1,r2,r3,r4,rx2⟩:=rx.swap hdX htX;rw [hXn]at r1 r2 r3 r4
 simp only [pwA,seval,-iQ0,hte,hd,hlt,r1,r2,r3,r4];have hBl:((X.set d X[t]).set t X[d]).length=L.length:=by simp [hXl]
 have hBr:∀i,row ((X.set d X[t]).set t X[d]) i=if i=t then row X d else if i=d then row X t else row X i:=fun i=>by
  rw [ze (by rw [List.length_set];omega),ze (by omega),zG hdX,zG htX]
 have hBB:(X.set d X[t]).set t X[d]=(X.set d (row X t)).set t (row X d):=by rw [zG hdX,zG htX]
 generalize hB:(X.set d X[t]).set t X[d]=B at *
 have hrX:∀i,i<L.length→El p n (row X i):=fun i hi=>he.el _ (by rw [zG (by omega)];exact List.getElem_mem _)
 have hBE:∀i,i<L.length→El p n (row B i):=fun i hi=>by
  rw [hBr]
  split
  ·exact hrX d hd
  ·split
   ·exact hrX t hlt
   ·exact hrX i hi
 have hdB:d<B.length:=by omega
 have hBd:row B d=X[t]:=by
  rw [hBr,zG htX]
  split
  ·rename_i h;subst h;exact zG hdX
  ·rw [if_pos rfl]
 obtain⟨sd,capd,g1,g2,g3,g4,g5,gp⟩:=rx2.get hdB;have eBd:B[d]=X[t]:=by rw [←hBd,zG hdB]
 rw [eBd,hXn]at g1 gp
 rw [eBd]at g2
 have g6:h2.rd1 sd c=some (.int .i64 X[t][c]):=by rw [zK g2,zU,gi hcr];rfl
 rw [at_eq hcr]at hnz htb
 simp only [pwA,seval,-iQ0,hd,g1,hc,g6];refine QJ hp ⟨by omega,by omega⟩ fun k b hk0 hk1 hk2=>?_
 have hyl:=hXn t htX;generalize hy:X[t]=y at *
 have hsl2:(scl p k y).length=n:=by rw [qR];exact hyl
 simp only [pwA,seval,-iQ0,hd,g1];refine QW 4 (fun e h=>∃b0:PV,e=PEnv.mk [0,1,5,6,8,84,85,86] [.int .i64 p,.sl s0 0 L.length cap,.int .i64 d,.int .i64 c,.int .i64 k,.int .i64 n,.int .i64 n,b0]∧h=h2.set sd (pis (scl p k y))) (fun Q4 hQ4=>?_) ?_
 ·refine zM (fun m us h=>∃i:Nat,i≤n∧m=n-i∧us=[.int .i64 p,.sl s0 0 L.length cap,.int .i64 d,.int .i64 c,.int .i64 k,.int .i64 n,.int .i64 i]∧h=h2.set sd (pis ((scl p k y).take i++y.drop i))) n ⟨0,by omega,by omega,rfl,by rw [List.take_zero,List.drop_zero,List.nil_append,QZ g2]⟩ ?_
  rintro m us h ⟨i,hi,rfl,rfl,rfl⟩
  simp only [pwA,seval,-iQ0];refine iteI (fun hin=>?_) fun hge=>?_
  rotate_left
  ·have hie:i=n:=by omega
   subst hie;rw [List.drop_of_length_le (by omega),List.append_nil,List.take_of_length_le (by omega)]
   exact hQ4 _ _ ⟨_,rfl,rfl⟩
  have hiy:i<y.length:=by omega
  have e1:=zBA (hsl2.trans hyl.symm) hiy;have hyb:=htel.at0 o i;rw [at_eq hiy]at hyb
  have hb:=sm7 (a:=y[i]) (b:=k) (by omega) (by omega)
  have ew1:IntKind.i64.wrap (y[i] * k)=y[i] * k:=wrap64 (by omega) (by omega)
  have hg7:¬s0=sd:=Ne.symm g4;have hp0:p≠0:=by omega
  have hlen:i+1≤((scl p k y).take i++y.drop i).length:=by simp;omega
  have hiv:i<(scl p k y).length:=by omega
  have hge:(scl p k y)[i]=y[i] * k % p:=by simp [scl]
  have etm:(y[i] * k).tmod p=(scl p k y)[i]:=by rw [hge];exact Int.tmod_eq_emod_of_nonneg (Int.mul_nonneg (by omega) (by omega))
  have eset:List.take i (pis ((scl p k y).take i++y.drop i))++[PV.int .i64 ((y[i] * k).tmod p)]++List.drop (i+1) (pis ((scl p k y).take i++y.drop i))=pis ((scl p k y).take (i+1)++y.drop (i+1)):=by
   rw [etm,ZO (by simp;omega),zAB (hsl2.trans hyl.symm) hiv]
  simp only [pwA,seval,-iQ0,hd,g1,hg7,hin,e1,ew1,hp0,zU,zN,hlen,eset,wrapS hin (by omega:n≤4611686018427387904)]
  exact⟨_,by omega,i+1,by omega,rfl,rfl,rfl⟩
 rintro e h ⟨b0,rfl,rfl⟩
 have rx3:=gp (scl p k y) hsl2;have hRr:∀i,row (B.set d (scl p k y)) i=if i=d then scl p k y else row B i:=fun i=>ze hdB i
 have hRl:(B.set d (scl p k y)).length=L.length:=by rw [List.length_set];exact hBl
 have hRE:∀i,i<L.length→El p n (row (B.set d (scl p k y)) i):=fun i hi=>by
  rw [hRr]
  split
  ·exact zCF (by omega) hyl
  ·exact hBE i hi
 generalize hRR:B.set d (scl p k y)=R at rx3 hRr hRl hRE
 have hCl:∀m,(clrM p c d R m).length=L.length:=fun m=>by rw [Z4];exact hRl
 have hCr:=fun m (hm:m≤L.length) i=>Ql (p:=p) (c:=c) (d:=d) (R:=R) m (by omega) i
 have hech:Ech p n L (clrM p c d R L.length) (d+1) (c+1):=by
  refine he.piv hpb (B:=B) (t:=t) (k:=k) hc hdt htX hBB (by rw [zG htX,hy,at_eq hcr];exact hk2) (by rw [hCl,hXl]) (by rw [hCr _ (Nat.le_refl _),if_neg (by omega),hRr,if_pos rfl,zG htX,hy]) fun i hi hne=>?_
  rw [hCr _ (Nat.le_refl _) i,if_pos ⟨by omega,hne⟩,hCr _ (Nat.le_refl _) d,if_neg (by omega),hRr i,if_neg hne]
 simp only [pwA,seval,-iQ0];generalize hH3:h2.set sd (pis (scl p k y))=H3 at *
 refine QW 6 (fun e h=>∃b0:PV,e=PEnv.mk [0,1,5,6,107,108,109] [.int .i64 p,.sl s0 0 L.length cap,.int .i64 d,.int .i64 c,.int .i64 L.length,.int .i64 L.length,b0]∧RX σ h s0 (clrM p c d R L.length)) (fun Q6 hQ6=>?_) ?_
 ·refine zM (fun m us h=>∃i:Nat,i≤L.length∧m=L.length-i∧us=[.int .i64 p,.sl s0 0 L.length cap,.int .i64 d,.int .i64 c,.int .i64 L.length,.int .i64 i]∧RX σ h s0 (clrM p c d R i)) L.length ⟨0,by omega,by omega,rfl,rx3⟩ ?_
  rintro m us h ⟨i,hi,rfl,rfl,rx4⟩
  simp only [pwA,seval,-iQ0];refine iteI (fun hin=>?_) fun hge=>?_
  rotate_left
  ·have hie:i=L.length:=by omega
   subst hie;exact hQ6 _ _ ⟨_,rfl,rx4⟩
  have wi1:=wrapS hin (by omega:L.length≤4611686018427387904)
  by_cases hid:i=d
  ·subst hid
   simp only [pwA,seval,-iQ0,wi1];refine⟨_,by omega,i+1,by omega,rfl,rfl,?_⟩
   unfold clrM;rw [if_pos rfl];exact rx4
  have hid':¬(i:Int)=(d:Int):=by omega
  have hiC:i<(clrM p c d R i).length:=by rw [hCl];exact hin
  have hdC:d<(clrM p c d R i).length:=by rw [hCl];exact hd
  obtain⟨si,capi,sj,capj,f1,f2,f3,f4,f5,f6,f7,f8⟩:=rx4.two hiC hdC hid;have ei:(clrM p c d R i)[i]=row R i:=by rw [←zG hiC,hCr i (by omega),if_neg (by omega)]
  have ed:(clrM p c d R i)[d]=row R d:=by rw [←zG hdC,hCr i (by omega),if_neg (by omega)]
  have gi1:=hRE i hin;have gd1:=hRE d hd;rw [ei,gi1.1]at f1 f8
  rw [ei]at f2
  rw [ed,gd1.1]at f3
  rw [ed]at f4
  have hci:c<(row R i).length:=by rw [gi1.1];exact hc
  have f9:h.rd1 si c=some (.int .i64 (row R i)[c]):=by rw [zK f2,zU,gi hci];rfl
  have gib:=gi1.at0 o c;rw [at_eq hci]at gib
  have ewn:IntKind.i64.wrap (0-(row R i)[c])=0-(row R i)[c]:=wrap64 (by omega) (by omega)
  simp only [pwA,seval,-iQ0,hid',hin,hd,f1,f3,hc,f9,ewn];refine Zy (xs:=row R i) (ys:=row R d) (by omega) f2 f4 (Ne.symm f5) gi1.1.symm gd1.1.symm (by rw [gi1.1,gd1.1]) (by rw [gi1.1];omega) (fun j g1 g2=>?_) ?_
  ·have b1:=gd1.at0 o j
   have b2:=gi1.at0 o j;rw [at_eq g2]at b1
   rw [at_eq g1]at b2
   have:=sm7 (a:=0-(row R i)[c]) (b:=(row R d)[j]) (by omega) (by omega)
   unfold sm9;omega
  simp only [pwA,seval,-iQ0,wi1];refine⟨_,by omega,i+1,by omega,rfl,rfl,?_⟩
  have:=f8 (vstep p (0-(row R i)[c]) (row R d) (row R i)) (by rw [zP (by rw [gi1.1,gd1.1]),gi1.1])
  unfold clrM;rw [if_neg hid,at_eq hci,show -(row R i)[c]=0-(row R i)[c] by omega]
  exact this
 rintro e h ⟨b0,rfl,rx5⟩
 have wd1:IntKind.i64.wrap ((d:Int)+1)=((d+1:Nat):Int):=by rw [wrap64 (by omega) (by omega)];omega
 simp only [pwA,seval,-iQ0,wc1,wd1];exact⟨_,by omega,c+1,d+1,_,rfl,rfl,rx5,hCl _,hech⟩
end Go.Proofs
namespace Go.Grp
end Go.Grp
namespace Go.Proofs
open Go.Ab Go.Lie Go.Grp Go.Mx
variable {σ h:PHeap} {K:PV→PHeap→Prop} {p:Int} {n s0 b:Nat} {A L X u:List (List Int)} {vA vL:PV} {rows:List SR}
theorem zHm:∀xs:List PV,TR.pvs (xs.map TR.leaf)=xs
 | []=>rfl
 | x::xs=>by simp only [List.map_cons,TR.pvs,TR.pv,zHm xs]
theorem zHn:∀{xs:List PV},Bels 0 xs→TR.okFs h b (xs.map TR.leaf)
 | [],_=>trivial
 | x::xs,hb=>⟨hb.1,zHn hb.2⟩
theorem zBy:∀x:List Int,TR.okFs h b (x.map fun n=>.leaf (.int .i64 n))
 | []=>trivial
 | n::x=>⟨trivial,zBy x⟩
theorem SR.ok.trF {q:SR} (a:q.ok h b):q.tr.okF h b:=⟨⟨by rw [List.length_map];exact a.1,by rw [TR.ints_pvs];exact a.2.1,a.2.2.1,a.2.2.2⟩,zBy q.x⟩
theorem zBr:∀{rows:List SR},(∀q∈rows,q.ok h b)→TR.okFs h b (rows.map SR.tr)
 | [],_=>trivial
 | q::rows,a=>⟨SR.ok.trF (a q (List.mem_cons_self ..)),zBr fun q' hq=>a q' (List.mem_cons_of_mem _ hq)⟩
theorem RX.fin {d:Nat} (a:RX σ h s0 X) (hd:d≤X.length) (k:∀z,FII z (X.take d)→K z σ):Gh σ K (.sl s0 0 d (.known d)) h:=by
 obtain⟨rows,r,rfl⟩:=a;rw [List.length_map]at hd
 have et:(TR.cut s0 0 d (.known d) (rows.map SR.tr)).pv=.sl s0 0 d (.known d):=rfl;rw [←et];refine Gh.treeF r.keep ⟨⟨fun c e=>by cases e;exact Nat.le_refl _,by rw [TR.rows_pvs];exact r.obj,r.lo,r.lt,by rw [List.length_map];omega⟩,zBr r.ok⟩ fun aa=>k _ ⟨false,.sl (aa s0) 0 d (.known d),(TR.fzs aa (rows.map SR.tr)).take d,?_,(TR.rows_all2 rows).take d⟩
 have hl:(List.take d (rows.map SR.x)).length=d:=by simp;omega
 rw [hl];rfl
theorem zDR (hp:isP p) (hL:∀r∈L,El p n r) (hn:n≤64) (hll:L.length≤64) (hvL:FII vL L) (hk:∀z u,FII z u→Canon p n (W0 n) L u→K z σ):
  zB Try.prog 101 [.int .i64 p,vL] σ K:=by
 refine zB.gh ?_
 by_cases h0:0<n∧0<L.length
 ·exact zDQ hp hL ⟨h0.1,hn⟩ ⟨h0.2,hll⟩ hvL fun s0 d X h' rx hXl hd hc=>rx.fin hd fun z hz=>hk z _ hz hc
 -- nothing to do
 have hcan:Canon p n (W0 n) L []:=by
  have hE:=Ech.start hL
  have:=hE.done (by
   by_cases h1:0<n
   ·exact .inr (by have:¬0<L.length:=fun h=>h0 ⟨h1,h⟩;omega)
   ·exact .inl (by omega))
  rwa [List.take_zero]at this
 refine zC mix Try.func101 ?_
 conv=>arg 2;cbv
 refine zF rfl ?_;simp only [pwA,seval,-iQ0];refine zAz (fun r hr=>by rw [(hL r hr).1];omega) (by omega) hvL fun v h1 rows hk1 ha hall=>?_
 rcases ha with ⟨rfl,e1,e2⟩|⟨s0,cap,rfl,hf,q2,q3,q4,q5⟩
 ·have hsl:qh 1 (.fz true .nils 0 []) none (some (.int .i64 0)) (some (.int .i64 0))=some (.fz true .nils 0 []):=rfl
  simp only [pwA,seval,-iQ0,hsl];refine zM (fun m vs h'=>m=0∧vs=[.int .i64 p,.fz true .nils 0 [],.int .i64 0,.int .i64 0]∧h'=h1) 0 ⟨rfl,rfl,rfl⟩ ?_
  rintro m vs h' ⟨rfl,rfl,rfl⟩
  have hz0:¬(0:Int)<((0:Nat):Int):=by omega
  simp only [pwA,seval,-iQ0,hz0,decide_false,hsl];exact Gh.fin0 hk1 (show Bel _ (PV.fz true .nils 0 []) from trivial) (hk _ _ ⟨true,.nils,[],rfl,All2.nil _⟩ hcan)
 ·have hsl:qh 1 (.sl s0 0 L.length cap) none (some (.int .i64 0)) (some (.int .i64 0))=some (.sl s0 0 0 (.known 0)):=zDB (s0:=s0) hf (d:=0) (Nat.zero_le _)
  have hfin:Gh σ K (.sl s0 0 0 (.known 0)) h1:=by
   have et:(TR.cut s0 0 0 (.known 0) (rows.map TR.leaf)).pv=.sl s0 0 0 (.known 0):=rfl;rw [←et];exact Gh.treeF hk1 ⟨⟨fun c e=>by cases e;exact Nat.le_refl _,by rw [zHm];exact q2,q4,q5,by simp⟩,zHn (hall.bI 0)⟩ fun aa=>hk _ [] ⟨false,.sl (aa s0) 0 0 (.known 0),[],by simp [TR.fz],All2.nil _⟩ hcan
  simp only [pwA,seval,-iQ0];refine zM (fun m vs h'=>m=0∧vs=[.int .i64 p,.sl s0 0 L.length cap,.int .i64 0,.int .i64 0]∧h'=h1) 0 ⟨rfl,rfl,rfl⟩ ?_
  rintro m vs h' ⟨rfl,rfl,rfl⟩
  by_cases hpos:0<L.length
  ·have hn0:n=0:=by
    rcases Nat.eq_zero_or_pos n with g|g
    ·exact g
    ·exact absurd ⟨g,hpos⟩ h0
   obtain⟨w4,a4,hr⟩:=hall.rowI hpos;have hl0:L[0].length=0:=by rw [(hL _ (List.getElem_mem hpos)).1];exact hn0
   have r1:h'.rd1 s0 0=some (.fz w4 a4 L[0].length (pis L[0])):=by rw [zK q2];exact hr
   rw [hl0]at r1
   have hpos':(0:Int)<(L.length:Int):=by omega
   have hz0:¬(0:Int)<((0:Nat):Int):=by omega
   simp only [pwA,seval,-iQ0,hpos',r1,hz0,decide_false,hsl];exact hfin
  ·have hpos':¬(0:Int)<(L.length:Int):=by omega
   simp only [pwA,seval,-iQ0,hpos',hsl];exact hfin
end Go.Proofs
namespace Go.Grp
end Go.Grp
namespace Go.Proofs
open Go.Ab Go.Lie Go.Grp Go.Mx
variable {σ:PHeap} {K:PV→PHeap→Prop} {p d:Int} {n na:Nat} {v w x y xs ys:List Int} {A B M F vals:List (List Int)} {As:List (List (List Int))} {vA vB vM vv vx vw vV v0:PV} {O:List Int} {P:List (List Int)} {C:List (List (List Int))} {vO vP vC:PV} {s sp:Nat}
open Classical in
theorem zHr {vL:PV} {xs:List (List Int)} (hL:FII vL xs) (sz:SzL xs) (hk:∀v,FII v xs→K v σ):zB Try.prog 89 [vL] σ K:=by
 have hb:=sz.l;obtain⟨wl,al,rl,rfl,hrl⟩:=hL;refine zB.gh ?_;refine zC mix Try.func89 ?_
 conv=>arg 2;cbv
 refine zF rfl ?_;simp only [pwA,seval,-iQ0];refine zM (fun m vs h'=>∃i v rows,i≤xs.length∧m=xs.length-i∧vs=[.fz wl al xs.length rl,v,.int .i64 (i:Nat)]∧Keep σ h'∧PSl σ.next 1 h' v i rows∧All2 FI rows (xs.take i)) xs.length ?_ ?_
 ·exact⟨0,_,[],by omega,by omega,rfl,zD σ _,PSl.new σ.next 1 rfl (Nat.le_refl _),by simpa using All2.nil _⟩
 ·rintro m vs h' ⟨i,v,rows,hi,rfl,rfl,hkp,ha,hall⟩
  simp only [pwA,seval,-iQ0];refine iteI (fun hlt=>?_) fun hge=>?_
  ·obtain⟨w4,a4,hrk⟩:=hrl.rowI hlt
   simp only [pwA,seval,-iQ0,hlt,hrk];refine zB.fz (e:=1) (fun K'=>Ze rfl (by have:=sz.r _ (List.getElem_mem hlt);omega)) (zq _ _) fun o cap=>?_
   simp only [pwA,seval,-iQ0];refine PSl.push (bytes:=24) (σb:=σ) hkp ha (by omega) (by omega) fun v2 h2 k2 a2=>?_
   simp only [pwA,seval,-iQ0,wrapS hlt (by omega:xs.length≤4611686018427387904)]
   refine⟨_,by omega,i+1,v2,_,by omega,rfl,rfl,k2,a2,?_⟩
   rw [List.take_succ_eq_append_getElem hlt];exact hall.snoc ⟨_,_,rfl⟩
  ·have hie:i=xs.length:=by omega
   subst hie;rw [List.take_length]at hall
   exact ha.fin hkp (hall.bI 0) fun o cap=>hk _ ⟨_,_,_,rfl,hall⟩
theorem zGU (hF:FII vM F) (sz:SzL F) (hk:∀v,FII v F→K (.agg [.int .i64 p,.int .i64 d,v]) σ):zB Try.prog 47 [.int .i64 p,.int .i64 d,vM] σ K:=by
 refine zB.gh ?_;refine zC mix Try.func47 ?_
 conv=>arg 2;cbv
 refine zF rfl ?_;simp only [pwA,seval,-iQ0];refine zHr hF sz fun v hv=>?_
 simp only [pwA,seval,-iQ0,hv.one,hv.cells];exact Gh.fin0 (zD σ _) ⟨trivial,trivial,hv.bel _,trivial⟩ (hk _ hv)
end Go.Proofs
namespace Go.Grp
end Go.Grp
namespace Go.Proofs
open Go.Ab Go.Lie Go.Grp Go.Mx
variable {σ:PHeap} {K:PV→PHeap→Prop} {p p' c c':Int} {n m:Nat} {x y bs:List Int} {A B F F' u xs ys:List (List Int)} {vx vy va vb vA vB vF vF' vC:PV}
theorem zHL {i:Nat} (hi:i<x.length):(pis x)[i]? = some (.int .i64 (at_ x i)):=by rw [zU,gi hi,at_eq hi];rfl
theorem zFH (hx:FI vx x) (hy:FI vy y) (hl:x.length≤1048576) (hk:∀t:Bool,(t=true↔x=y)→K (.bool t) σ):zB Try.prog 35 [vx,vy] σ K:=by
 obtain⟨wx,ax,rfl⟩:=hx;obtain⟨wy,ay,rfl⟩:=hy;refine zC mix Try.func35 ?_
 conv=>arg 2;cbv
 refine zF rfl ?_;simp only [pwA,seval,-iQ0]
 by_cases hxy:x.length=y.length
 rotate_left
 ·have hne:¬(x.length:Int)=(y.length:Int):=by omega
  simp only [pwA,seval,-iQ0,hne];exact hk false ⟨fun h=>(by cases h),fun h=>absurd (by rw [h]) hxy⟩
 have heq:(x.length:Int)=(y.length:Int):=by omega
 simp only [pwA,seval,-iQ0,heq];refine zM (fun m us g=>∃i:Nat,i≤y.length∧m=y.length-i∧us=[.fz wx ax x.length (pis x),.fz wy ay y.length (pis y),.int .i64 i]∧g=σ∧∀j,j<i→x[j]? = y[j]?) y.length ⟨0,by omega,by omega,rfl,rfl,fun j hj=>absurd hj (Nat.not_lt_zero _)⟩ ?_
 rintro m us g ⟨i,hi,rfl,rfl,rfl,he⟩
 simp only [pwA,seval,-iQ0,heq];refine iteI (fun hlt=>?_) fun hge=>?_
 rotate_left
 ·refine hk true ⟨fun _=>List.ext_getElem? fun j=>?_,fun _=>rfl⟩
  rcases Nat.lt_or_ge j i with e|e
  ·exact he j e
  ·rw [List.getElem?_eq_none (by omega),List.getElem?_eq_none (by omega)]
 have hltx:i<x.length:=by omega
 have hlty:i<y.length:=by omega
 have wi1:IntKind.i64.wrap ((i:Int)+1)=((i+1:Nat):Int):=wrapS hlty (by omega)
 simp only [pwA,seval,-iQ0,zHL hltx,zHL hlty,hltx,hlty,wi1];refine iteI (fun hv=>?_) fun hv=>?_
 ·refine⟨_,by omega,i+1,by omega,rfl,rfl,fun j hj=>?_⟩
  rcases Nat.lt_or_ge j i with e|e
  ·exact he j e
  ·obtain rfl:j=i:=by omega
   rw [List.getElem?_eq_getElem hltx,List.getElem?_eq_getElem hlty,←at_eq hltx,←at_eq hlty,hv]
 ·refine hk false ⟨fun h=>(by cases h),fun h=>absurd ?_ hv⟩
  rw [h]
theorem zKf (hb:FB vC bs) (hk:∀t:Bool,(t=true↔4096<bs.length)→K (.bool t) σ):zB Try.prog 8 [vC] σ K:=by
 obtain⟨w,a,rfl⟩:=hb;refine zC mix Try.func8 ?_
 conv=>arg 2;cbv
 refine zF rfl ?_;simp only [pwA,seval,-iQ0];refine hk _ ?_;rw [decide_eq_true_eq];omega
theorem zHl (ha:FII va xs) (hb:FII vb ys) (sz:SzL xs) (hk:∀t:Bool,(t=true↔xs=ys)→K (.bool t) σ):zB Try.prog 49 [va,vb] σ K:=by
 obtain⟨wx,ax,rx,rfl,hrx⟩:=ha;obtain⟨wy,ay,ry,rfl,hry⟩:=hb;have hl:=sz.l;refine zC mix Try.func49 ?_
 conv=>arg 2;cbv
 refine zF rfl ?_;simp only [pwA,seval,-iQ0]
 by_cases hxy:xs.length=ys.length
 rotate_left
 ·have hne:¬(xs.length:Int)=(ys.length:Int):=by omega
  simp only [pwA,seval,-iQ0,hne];exact hk false ⟨fun h=>(by cases h),fun h=>absurd (by rw [h]) hxy⟩
 have heq:(xs.length:Int)=(ys.length:Int):=by omega
 simp only [pwA,seval,-iQ0,heq];refine zM (fun m us g=>∃i:Nat,i≤ys.length∧m=ys.length-i∧us=[.fz wx ax xs.length rx,.fz wy ay ys.length ry,.int .i64 i]∧g=σ∧∀j,j<i→xs[j]? = ys[j]?) ys.length ⟨0,by omega,by omega,rfl,rfl,fun j hj=>absurd hj (Nat.not_lt_zero _)⟩ ?_
 rintro m us g ⟨i,hi,rfl,rfl,rfl,he⟩
 simp only [pwA,seval,-iQ0,heq];refine iteI (fun hlt=>?_) fun hge=>?_
 rotate_left
 ·refine hk true ⟨fun _=>List.ext_getElem? fun j=>?_,fun _=>rfl⟩
  rcases Nat.lt_or_ge j i with e|e
  ·exact he j e
  ·rw [List.getElem?_eq_none (by omega),List.getElem?_eq_none (by omega)]
 have hltx:i<xs.length:=by omega
 have hlty:i<ys.length:=by omega
 have wi1:IntKind.i64.wrap ((i:Int)+1)=((i+1:Nat):Int):=wrapS hlty (by omega)
 obtain⟨w1,a1,h1⟩:=hrx.rowI hltx;obtain⟨w2,a2,h2⟩:=hry.rowI hlty;have hle:=sz.r _ (List.getElem_mem hltx);simp only [pwA,seval,-iQ0,h1,h2,hltx,hlty];refine zFH ⟨w1,a1,rfl⟩ ⟨w2,a2,rfl⟩ hle fun t ht=>?_
 cases t with
 | false=>
  simp only [pwA,seval,-iQ0];refine hk false ⟨fun h=>(by cases h),fun h=>?_⟩
  have:=ht.2 (by simp only [h])
  cases this
 | true=>
  have hv:=ht.1 rfl;simp only [pwA,seval,-iQ0,wi1];refine⟨_,by omega,i+1,by omega,rfl,rfl,fun j hj=>?_⟩
  rcases Nat.lt_or_ge j i with e|e
  ·exact he j e
  ·obtain rfl:j=i:=by omega
   rw [List.getElem?_eq_getElem hltx,List.getElem?_eq_getElem hlty,hv]
theorem Z8 (hF:FII vF F) (hF':FII vF' F') (sz:SzL F) (hk:∀t:Bool,(t=true↔p=p'∧c=c'∧F=F')→K (.bool t) σ):zB Try.prog 12 [.agg [.int .i64 p,.int .i64 c,vF],.agg [.int .i64 p',.int .i64 c',vF']] σ K:=by
 have h1:=hF.one;have h2:=hF'.one;refine zB.gh ?_;have hkp:Keep σ ((σ.new [.int .i64 p,.int .i64 c,vF]).new [.int .i64 p',.int .i64 c',vF']):=(zD σ _).new _;have fin:∀{t:Bool},(t=true↔p=p'∧c=c'∧F=F')→Gh σ K (.bool t) ((σ.new [.int .i64 p,.int .i64 c,vF]).new [.int .i64 p',.int .i64 c',vF']):=fun h=>Gh.fin0 hkp trivial (hk _ h)
 refine zC mix Try.func12 ?_
 conv=>arg 2;cbv
 refine zF rfl ?_;simp only [pwA,seval,-iQ0,h1,h2]
 by_cases hp:p=p'
 rotate_left
 ·simp only [pwA,seval,-iQ0,hp,decide_false]
  exact fin (t:=false) ⟨fun h=>(by cases h),fun h=>absurd h.1 hp⟩
 subst hp
 by_cases hc:c=c'
 rotate_left
 ·simp only [pwA,seval,-iQ0,hc,decide_true,decide_false]
  exact fin (t:=false) ⟨fun h=>(by cases h),fun h=>absurd h.2.1 hc⟩
 subst hc;simp only [pwA,seval,-iQ0,decide_true];refine zHl hF hF' sz fun t ht=>?_
 cases t with
 | false=>
  simp only [pwA,seval,-iQ0];exact fin (t:=false) ⟨fun h=>(by cases h),fun h=>by cases ht.2 h.2.2⟩
 | true=>
  simp only [pwA,seval,-iQ0];exact fin (t:=true) ⟨fun _=>⟨rfl,rfl,ht.1 rfl⟩,fun _=>rfl⟩
theorem zDk {k:Nat} (hk:k<n):(trm n A).take (k+1)=(trm n A).take k++[A.map fun r=>at_ r k]:=by
 rw [List.take_succ_eq_append_getElem (by rw [zb];exact hk)]
 simp [trm]
theorem zDY {α β:Type} {f:α→β} {xs:List α} {i:Nat} (hi:i<xs.length):(xs.take (i+1)).map f=(xs.take i).map f++[f xs[i]]:=by
 rw [List.take_succ_eq_append_getElem hi,List.map_append];rfl
theorem zDP (hA:∀r∈A,r.length=n) (hn:n≤64) (hal:A.length≤64) (hvA:FII vA A) (hk:∀v,FII v (trm n A)→K (.agg [.int .i64 p,.int .i64 A.length,v]) σ):
  zB Try.prog 50 [.agg [.int .i64 p,.int .i64 n,vA]] σ K:=by
 have h1:=hvA.one;obtain⟨wA,aA,rA,rfl,hrA⟩:=hvA;refine zB.pwf fun w0=>zB.gh ?_
 generalize hH:(σ.new [.int .i64 p,.int .i64 n,.fz wA aA A.length rA]).new [.int .i64 0,.int .i64 0,.fz true .nils 0 []]=H;have hHn:H.next=σ.next+2:=by rw [←hH];rfl
 have hHk:Keep σ H:=by rw [←hH];exact(zD σ _).new _
 have wH:PWF H:=by rw [←hH];exact(w0.newB (cs:=[.int .i64 p,.int .i64 n,.fz wA aA A.length rA]) ⟨trivial,trivial,trivial,trivial⟩).newB ⟨trivial,trivial,trivial,trivial⟩
 have ho1:H.obj σ.next=some [.int .i64 p,.int .i64 n,.fz wA aA A.length rA]:=by rw [←hH];simp only [pwA,seval,-iQ0]
 have ho2:H.obj (σ.next+1)=some [.int .i64 0,.int .i64 0,.fz true .nils 0 []]:=by rw [←hH];simp only [pwA,seval,-iQ0]
 have q0:H.rd1 σ.next 0=some (.int .i64 p):=by rw [zK ho1];rfl
 have q2:H.rd1 σ.next 2=some (.fz wA aA A.length rA):=by rw [zK ho1];rfl
 have q1:H.rd1 σ.next 1=some (.int .i64 n):=by rw [zK ho1];rfl
 have hne3:¬σ.next=H.next:=by omega
 refine zC mix Try.func50 ?_
 conv=>arg 2;cbv
 refine zF rfl ?_;simp only [pwA,seval,-iQ0];rw [hH];simp only [pwA,seval,-iQ0,q0,q1,q2,hne3];refine QV (fun m vs h'=>∃(i:Nat) (vC:PV) (rows:List PV),i≤n∧m=n-i∧vs=[.ptr σ.next 0,.ptr (σ.next+1) 0,.ptr (σ.next+2) 0,.int .i64 n,.int .i64 i]∧Acc3 H h' p A.length vC i rows∧All2 FI rows ((trm n A).take i)) n ?_ ?_
 ·exact .here ⟨0,_,[],by omega,by omega,rfl,⟨zD H _,by rw [zL,if_pos rfl],Nat.lt_succ_self _,PAcc.nil _ _ _⟩,by rw [List.take_zero];exact All2.nil _⟩
 rintro m vs h' ⟨i,vC,rows,hi,rfl,rfl,a,hall⟩
 have hob:=a.obj;have hlt0:=a.lt;rw [hHn]at hob hlt0
 have hor:h'.obj (σ.next+1)=some [.int .i64 0,.int .i64 0,.fz true .nils 0 []]:=by rw [a.keep.obj _ (by omega)];exact ho2
 have hoa:h'.obj σ.next=some [.int .i64 p,.int .i64 n,.fz wA aA A.length rA]:=by rw [a.keep.obj _ (by omega)];exact ho1
 have ra:h'.rd1 σ.next 2=some (.fz wA aA A.length rA):=by rw [zK hoa];rfl
 simp only [pwA,seval,-iQ0];refine iteI (fun hlt=>?_) fun hge=>?_
 rotate_left
 ·have hie:i=n:=by omega
  subst hie;have rd:h'.rd (σ.next+2) 0 3=some [.int .i64 p,.int .i64 A.length,vC]:=by rw [qa hob];rfl
  have hwr:h'.wr (σ.next+1) 0 [.int .i64 p,.int .i64 A.length,vC]=some (h'.set (σ.next+1) [.int .i64 p,.int .i64 A.length,vC]):=by
   rw [q8 hor,if_pos ⟨by simp,by simp only [List.all_cons,List.all_nil,a.acc.one];rfl⟩];rfl
  simp only [pwA,seval,-iQ0,rd,hwr];rw [List.take_of_length_le (by rw [zb];exact Nat.le_refl _)]at hall
  exact a.out hHk (by omega) (by omega) hall hk
 have hlt':i<n:=by omega
 have wi1:=wrapS hlt' (by omega:n≤4611686018427387904)
 simp only [pwA,seval,-iQ0,ra];refine QW 2 (fun e h=>∃(vR:PV) (b0:PV),e=PEnv.mk [1,2,3,4,5,14,15,20,21,22] [.ptr σ.next 0,.ptr (σ.next+1) 0,.ptr (σ.next+2) 0,.int .i64 i,vR,.int .i64 n,.int .i64 i,.int .i64 A.length,.int .i64 A.length,b0]∧Keep h' h∧PAcc h'.next 1 h vR A.length (pis (A.map fun r=>at_ r i))) (fun Q2 hQ2=>?_) ?_
 ·refine zM (fun m us h=>∃(k:Nat) (vR:PV),k≤A.length∧m=A.length-k∧us=[.ptr σ.next 0,.ptr (σ.next+1) 0,.ptr (σ.next+2) 0,.int .i64 i,vR,.int .i64 n,.int .i64 i,.int .i64 A.length,.int .i64 k]∧Keep h' h∧PAcc h'.next 1 h vR k (pis ((A.take k).map fun r=>at_ r i))) A.length ⟨0,_,by omega,by omega,rfl,Keep.refl _,by rw [List.take_zero];exact PAcc.nil _ _ _⟩ ?_
  rintro m us h ⟨k,vR,hk',rfl,rfl,hkp,ha⟩
  simp only [pwA,seval,-iQ0];refine iteI (fun hlk=>?_) fun hgk=>?_
  rotate_left
  ·have hke:k=A.length:=by omega
   subst hke;rw [List.take_length]at ha
   exact hQ2 _ _ ⟨vR,_,rfl,hkp,ha⟩
  obtain⟨w4,a4,hr⟩:=hrA.rowI hlk;have hrl:i<A[k].length:=by rw [hA _ (List.getElem_mem hlk)];exact hlt'
  have ra2:h.rd1 σ.next 2=some (.fz wA aA A.length rA):=by rw [zK (by rw [hkp.obj _ (by omega)];exact hoa)];rfl
  simp only [pwA,seval,-iQ0,ra2,hlk,hr,hrl,gi hrl,zU];refine PAcc.push (bytes:=8) hkp ha (by omega) (by omega) fun v' h2 k2 a2=>?_
  simp only [pwA,seval,-iQ0,wrapS hlk (by omega:A.length≤4611686018427387904)]
  refine⟨_,by omega,k+1,v',by omega,rfl,rfl,k2,?_⟩
  rw [zDY hlk,at_eq hrl]
  have:=a2.acc
  rwa [show [PV.int .i64 A[k][i]]=pis [A[k][i]] from rfl,QN]at this
 rintro e h ⟨vR,b0,rfl,hkp,ha⟩
 have hcll:(A.map fun r=>at_ r i).length=A.length:=by simp
 have a':Acc3 H h p A.length vC i rows:=⟨a.keep.trans hkp,by rw [hkp.obj _ a.lt];exact a.obj,Nat.lt_of_lt_of_le a.lt hkp.next,a.acc.keep hkp⟩
 have hob':=a'.obj;have hlt1:=a'.lt;rw [hHn]at hob' hlt1
 have r2:h.rd1 (σ.next+2) 2=some vC:=by rw [zK hob'];rfl
 have hne:¬σ.next+2=h.next:=by omega
 have hkn:=hkp.next;generalize hcl:A.map (fun r=>at_ r i)=cl at *
 have g1:=ha.one;have g2:=ha.cells;simp only [pwA,seval,-iQ0,r2,hne,g1,g2];refine PAcc.pushS (σb:=H) (bytes:=24) a'.keep (a'.acc.low (Nat.le_succ _)) rfl (by omega) (by omega) fun v' h2 k2 a2 o2 n2 l2=>?_
 have hob2:h2.obj (σ.next+2)=some [.int .i64 p,.int .i64 A.length,vC]:=by
  rw [o2 _ hlt1 (a'.acc.ne' (by omega))];exact hob'
 have hwr:h2.wr (σ.next+2) 2 [v']=some (h2.set (σ.next+2) [.int .i64 p,.int .i64 A.length,v']):=by
  rw [q8 hob2,if_pos ⟨by simp,by simp [a2.one]⟩];rfl
 simp only [pwA,seval,-iQ0,hwr,a2.cells,wi1];have hk3:Keep H (h2.set (σ.next+2) [.int .i64 p,.int .i64 A.length,v']):=k2.set (by omega) _
 rcases ha with ⟨rfl,e1,e2⟩|⟨s,cap,rfl,hf,q2',q3',q4',q5'⟩
 ·have hcn:cl=[]:=by
   have:(pis cl).length=0:=by rw [e2];rfl
   rw [zN]at this
   exact List.eq_nil_of_length_eq_zero this
  refine⟨n-(i+1),by omega,.here ⟨i+1,v',_,by omega,rfl,rfl,⟨hk3,by rw [hHn,zJ,if_pos rfl],by rw [hHn];show σ.next+2<h2.next;omega,(PSl.setO (a2.high (b':=H.next+1) fun t ht=>n2 t (by omega)) (by omega) _).acc⟩,?_⟩⟩
  rw [zDk hlt',hcl,hcn];exact hall.snoc ⟨true,.nils,rfl⟩
 have a3:PSl (H.next+1) 1 (h2.set (σ.next+2) [.int .i64 p,.int .i64 A.length,v']) v' (i+1) (rows++[.sl s 0 A.length cap]):=PSl.setO (a2.high fun t ht=>n2 t (by omega)) (by omega) _
 refine⟨n-(i+1),by omega,.fzh s (pis cl) (by rw [zJ,if_neg (by omega),o2 _ q5' (a.acc.ne q4')];exact q2') (zq _ _) fun o1=>?_⟩
 obtain⟨f1,f2,f3⟩:=PSl.fzr wH hk3 (a3.acc.low (Nat.le_succ _) |>.pos (by omega)) (s:=s) (cs:=pis cl) (by omega) (n2 _ q5') o1
 refine .here ⟨i+1,v',rows++[.fz true (.sl o1 0 A.length cap) A.length (pis cl)],by omega,rfl,?_,⟨f1,?_,?_,?_⟩,?_⟩
 ·simp only [sbs,sb]
 ·rw [hHn]
  simp only [PHeap.sub,PHeap.kill,PHeap.set,if_neg (by omega:¬σ.next+2=s),if_true,Option.map_some,sbs,sb,f3]
 ·rw [hHn];show σ.next+2<h2.next;omega
 ·rw [zBB (hall.bI 0) hf.ok]at f2
  exact(f2.high fun t ht=>n2 t (by omega)).acc
 ·rw [zDk hlt',hcl]
  exact hall.snoc ⟨true,_,by rw [hcll]⟩
end Go.Proofs
namespace Go.Grp
end Go.Grp
namespace Go.Proofs
open Go.Ab Go.Lie Go.Grp Go.Mx
variable {σ H:PHeap} {K:PV→PHeap→Prop} {p p' c c' a b:Int} {n m r:Nat} {x y bs:List Int} {A B F F' u xs ys:List (List Int)} {v vx vy va vb vA vB vF vF' vC:PV}
theorem res3 (hor:H.obj r=some [.int .i64 0,.int .i64 0,.fz true .nils 0 []]) (hv:v.one=true):
  H.wr r 0 [.int .i64 a,.int .i64 b,v]=some (H.set r [.int .i64 a,.int .i64 b,v])∧(H.set r [.int .i64 a,.int .i64 b,v]).rd r 0 3=some [.int .i64 a,.int .i64 b,v]:=
 ⟨by rw [q8 hor,if_pos ⟨by simp,by simp only [List.all_cons,List.all_nil,hv];rfl⟩];rfl,by rw [zFa,if_pos rfl];rfl⟩
def RetM (K:PV→PHeap→Prop) (σ:PHeap) (r:(Int×Int×List (List Int))×Int):Prop:=∀v,FII v r.1.2.2→K (.tup [.agg [.int .i64 r.1.1,.int .i64 r.1.2.1,v],.int .i64 r.2]) σ
theorem RetM.fin {R:(Int×Int×List (List Int))×Int} (k:RetM K σ R) {e:Int} {h:PHeap} (hk:Keep σ h) (hv:FII v A) (hR:R=((a,b,A),e)):Gh σ K (.tup [.agg [.int .i64 a,.int .i64 b,v],.int .i64 e]) h:=by
 subst hR;exact Gh.fin0 hk ⟨⟨trivial,trivial,hv.bel _,trivial⟩,trivial,trivial⟩ (k v hv)
theorem nilM:FII (.fz true .nils 0 []) []:=⟨true,.nils,[],rfl,All2.nil _⟩
theorem mx_n (h:isMx p c F):∃n:Nat,c=(n:Int)∧n≤8∧isP p∧F.length≤8∧Ma p n F:=by
 obtain⟨h1,h2,h3,h4⟩:=h;exact⟨c.toNat,by omega,by omega,h1,h3,h4⟩
open Classical in
noncomputable def mpRes (p c:Int) (F:List (List Int)) (p' c':Int) (F':List (List Int)):(Int×Int×List (List Int))×Int:=
 if isMx p c F∧isMx p' c' F' then(if p=p'∧(F'.length:Int)=c then((p,c',mm p c'.toNat F F'),0)else((0,0,[]),2))else((0,0,[]),1)
theorem ZF (hF:FII vF F) (sz:SzL F) (hF':FII vF' F') (sz':SzL F') (hk:RetM K σ (mpRes p c F p' c' F')):zB Try.prog 10 [.agg [.int .i64 p,.int .i64 c,vF],.agg [.int .i64 p',.int .i64 c',vF']] σ K:=by
 have h1:=hF.one;have h2:=hF'.one;have hF0:=hF;have hF0':=hF';refine zB.gh ?_;generalize hH:((σ.new [.int .i64 p,.int .i64 c,vF]).new [.int .i64 p',.int .i64 c',vF']).new [.int .i64 0,.int .i64 0,.fz true .nils 0 []]=H;have hkp:Keep σ H:=by rw [←hH];exact((zD σ _).new _).new _
 have g0:H.rd σ.next 0 3=some [.int .i64 p,.int .i64 c,vF]:=by rw [←hH];simp only [pwA,seval,-iQ0]
 have g1:H.rd (σ.next+1) 0 3=some [.int .i64 p',.int .i64 c',vF']:=by rw [←hH];simp only [pwA,seval,-iQ0]
 have m0:H.rd1 σ.next 0=some (.int .i64 p):=by rw [←hH];simp only [pwA,seval,-iQ0]
 have m1:H.rd1 σ.next 1=some (.int .i64 c):=by rw [←hH];simp only [pwA,seval,-iQ0]
 have m2:H.rd1 (σ.next+1) 0=some (.int .i64 p'):=by rw [←hH];simp only [pwA,seval,-iQ0]
 have m3:H.rd1 (σ.next+1) 2=some vF':=by rw [←hH];simp only [pwA,seval,-iQ0]
 have hor:H.obj (σ.next+2)=some [.int .i64 0,.int .i64 0,.fz true .nils 0 []]:=by rw [←hH];simp only [pwA,seval,-iQ0]
 obtain⟨w0,r0⟩:=res3 (a:=0) (b:=0) hor (v:=.fz true .nils 0 []) rfl;have no:∀e,mpRes p c F p' c' F'=((0,0,[]),e)→Gh σ K (.tup [.agg [.int .i64 0,.int .i64 0,.fz true .nils 0 []],.int .i64 e]) (H.set (σ.next+2) [.int .i64 0,.int .i64 0,.fz true .nils 0 []]):=fun e he=>hk.fin (hkp.set (by omega) _) nilM he
 refine zC mix Try.func10 ?_
 conv=>arg 2;cbv
 refine zF rfl ?_;simp only [pwA,seval,-iQ0,h1,h2];rw [hH];simp only [pwA,seval,-iQ0,g0];refine ZM sz hF fun t ht=>?_
 cases t with
 | false=>
  simp only [pwA,seval,-iQ0,w0,r0];exact no _ (by unfold mpRes;rw [if_neg fun h=>by cases ht.2 h.1])
 | true=>
 simp only [pwA,seval,-iQ0,g1];refine ZM sz' hF' fun t' ht'=>?_
 cases t' with
 | false=>
  simp only [pwA,seval,-iQ0,w0,r0];exact no _ (by unfold mpRes;rw [if_neg fun h=>by cases ht'.2 h.2])
 | true=>
 have hm:=ht.1 rfl;have hm':=ht'.1 rfl;have hlen:pLen vF'=some (.int .i64 F'.length):=by obtain⟨w,a,r,rfl,_⟩:=hF';rfl
 by_cases hpp:p=p'
 rotate_left
 ·simp only [pwA,seval,-iQ0,m0,m2,hpp,w0,r0]
  exact no _ (by unfold mpRes;rw [if_pos ⟨hm,hm'⟩,if_neg fun h=>hpp h.1])
 subst hpp
 by_cases hc:(F'.length:Int)=c
 rotate_left
 ·simp only [pwA,seval,-iQ0,m0,m1,m2,m3,hlen,hc,w0,r0]
  exact no _ (by unfold mpRes;rw [if_pos ⟨hm,hm'⟩,if_neg fun h=>hc h.2])
 obtain⟨n,rfl,hn,hp,hl,hA⟩:=mx_n hm;obtain⟨n',rfl,hn',_,hl',hB⟩:=mx_n hm';have hnn:n=F'.length:=by omega
 subst hnn;simp only [pwA,seval,-iQ0,m0,m1,m2,m3,hlen,g0,g1];refine zF6 hp.bd hA hB hn' hl' hl hF0 hF0' rfl fun v hv=>?_
 obtain⟨w1,r1⟩:=res3 (a:=p) (b:=(n':Int)) hor hv.one;simp only [pwA,seval,-iQ0,w1,r1,hv.one,hv.cells];exact hk.fin (hkp.set (by omega) _) hv (by unfold mpRes;rw [if_pos ⟨hm,hm'⟩,if_pos ⟨rfl,rfl⟩];rfl)
theorem QL (hm:isMx p n F) (hF:FII vF F) (hk:∀v,FII v (trm n F)→K (.tup [.agg [.int .i64 p,.int .i64 F.length,v],.int .i64 0]) σ):zB Try.prog 13 [.agg [.int .i64 p,.int .i64 n,vF]] σ K:=by
 have h1:=hF.one;obtain⟨n',e,hn,hp,hl,hA⟩:=mx_n hm
 have:n'=n:=by omega
 subst this;have sz:SzL F:=⟨by omega,fun r hr=>by rw [(hA r hr).len];omega⟩
 refine zB.gh ?_;generalize hH:(σ.new [.int .i64 p,.int .i64 n',vF]).new [.int .i64 0,.int .i64 0,.fz true .nils 0 []]=H;have hkp:Keep σ H:=by rw [←hH];exact(zD σ _).new _
 have g0:H.rd σ.next 0 3=some [.int .i64 p,.int .i64 n',vF]:=by rw [←hH];simp only [pwA,seval,-iQ0]
 have hor:H.obj (σ.next+1)=some [.int .i64 0,.int .i64 0,.fz true .nils 0 []]:=by rw [←hH];simp only [pwA,seval,-iQ0]
 refine zC mix Try.func13 ?_
 conv=>arg 2;cbv
 refine zF rfl ?_;simp only [pwA,seval,-iQ0,h1];rw [hH];simp only [pwA,seval,-iQ0,g0];refine ZM sz hF fun t ht=>?_
 obtain rfl:t=true:=ht.2 hm;simp only [pwA,seval,-iQ0,g0];refine zDP (fun r hr=>(hA r hr).len) (by omega) (by omega) hF fun v hv=>?_
 obtain⟨w1,r1⟩:=res3 (a:=p) (b:=(F.length:Int)) hor hv.one;simp only [pwA,seval,-iQ0,w1,r1,hv.one,hv.cells];exact Gh.fin0 (hkp.set (by omega) _) ⟨⟨trivial,trivial,hv.bel _,trivial⟩,trivial,trivial⟩ (hk v hv)
end Go.Proofs
namespace Go.Grp
end Go.Grp
namespace Go.Proofs
open Go.Ab Go.Lie Go.Grp Go.Mx
variable {σ h:PHeap} {K:PV→PHeap→Prop} {p c:Int} {n m s:Nat} {x y v w:List Int} {A B u:List (List Int)} {vA vB v0:PV} {rows:List SR}
theorem zIc {h:PHeap} {o d m len:Nat} {c1:Cap} {x:PV} {cs:List PV} (hx:plen x=some m) (hm:min m len≠0) (hf:ZH 1 h x (min m len)=some cs) {h':PHeap} (hw:h.wr o d cs=some h'):pcopy 1 h (.sl o d len c1) x=some (.int .i64 (min m len:Nat),h'):=by
 unfold pcopy;rw [show plen (.sl o d len c1)=some len from rfl,hx]
 simp only [Option.bind_some];rw [if_neg hm];simp only [hf,Option.bind_some,hw,Option.map_some]
theorem zHN {h:PHeap} {o d m len:Nat} {c1:Cap} {x:PV} (hx:plen x=some m) (hm:min m len=0):pcopy 1 h (.sl o d len c1) x=some (.int .i64 0,h):=by
 unfold pcopy;rw [show plen (.sl o d len c1)=some len from rfl,hx]
 simp only [Option.bind_some];rw [if_pos hm]
theorem RowsI.finF (a:RowsI σ h v0 rows) (k:∀z,FII z (rows.map SR.x)→K z σ):Gh σ K v0 h:=by
 rcases a.acc with ⟨rfl,e1,e2⟩|⟨s0,cap,rfl,hf,q2,q3,q4,q5⟩
 ·have:rows=[]:=List.eq_nil_of_length_eq_zero e1
  subst this;exact Gh.fin0 a.keep (show Bel _ (PV.fz true .nils 0 []) from trivial) (k _ ⟨true,.nils,[],rfl,All2.nil _⟩)
 ·have et:(TR.rows s0 cap rows).pv=.sl s0 0 rows.length cap:=by simp [TR.rows,TR.pv]
  rw [←et];exact Gh.treeF a.keep ⟨⟨by rw [List.length_map];exact hf,by rw [TR.rows_pvs];exact q2,q4,q5⟩,zBr a.ok⟩ fun aa=>k _ TR.rows_FII
theorem zFT {i:Nat} (hi:i<A.length):(wd A).take (i+1)=(wd A).take i++[A[i]++uv A.length i]:=by
 rw [List.take_succ_eq_append_getElem (by rw [zf];exact hi)]
 congr 2
 rw [←zG (by rw [zf];exact hi),Q8 hi,zG hi]
theorem zB9 (hA:∀r∈A,r.length=n) (hn:n≤64) (hal:A.length≤64) (hvA:FII vA A) (hk:∀z,FII z (wd A)→K z σ):zB Try.prog 102 [vA] σ K:=by
 obtain⟨wA,aA,rA,rfl,hrA⟩:=hvA;refine zB.gh ?_;refine zC mix Try.func102 ?_
 conv=>arg 2;cbv
 refine zF rfl ?_;simp only [pwA,seval,-iQ0];refine zM (fun k us h=>∃(i:Nat) (v0:PV) (rows:List SR),i≤A.length∧k=A.length-i∧us=[.fz wA aA A.length rA,v0,.fz wA aA A.length rA,.int .i64 A.length,.int .i64 i]∧RowsI σ h v0 rows∧rows.map SR.x=(wd A).take i) A.length ⟨0,_,[],by omega,by omega,rfl,RowsI.nil σ,by rw [List.take_zero];rfl⟩ ?_
 rintro k us h ⟨i,v0,rows,hi,rfl,rfl,a,hx⟩
 simp only [pwA,seval,-iQ0];refine iteI (fun hlt=>?_) fun hge=>?_
 rotate_left
 ·have hie:i=A.length:=by omega
  subst hie;rw [List.take_of_length_le (by rw [zf];exact Nat.le_refl _)]at hx
  rw [←hx]at hk
  exact RowsI.finF a hk
 obtain⟨w4,a4,hr⟩:=hrA.rowI hlt;have hl:=hA _ (List.getElem_mem hlt);have hrl:rows.length=i:=by have:=congrArg List.length hx;rw [List.length_map,List.length_take,zf]at this;omega
 have ew:IntKind.i64.wrap ((A[i].length:Int)+(A.length:Int))=((A[i].length+A.length:Nat):Int):=by rw [wrap64 (by omega) (by omega)];omega
 have ew2:IntKind.i64.wrap ((A[i].length:Int)+(i:Int))=((A[i].length+i:Nat):Int):=by rw [wrap64 (by omega) (by omega)];omega
 have hmk1:((A[i].length+A.length:Nat):Int)*((8:Nat):Int)≤140737488355328:=by omega
 have hmk2:((A[i].length+A.length:Nat):Int)≤9223372036854775807:=by omega
 have hlt2:A[i].length+i<A[i].length+A.length:=by omega
 -- the row is copied
 have cp:pcopy 1 (h.new (pis (List.replicate (A[i].length+A.length) 0))) (.sl h.next 0 (A[i].length+A.length) (.known (A[i].length+A.length))) (.fz w4 a4 A[i].length (pis A[i]))=some (.int .i64 (min A[i].length (A[i].length+A.length):Nat),h.new (pis (A[i]++List.replicate A.length 0))):=by
  by_cases h0:A[i].length=0
  ·have e:A[i]=[]:=List.eq_nil_of_length_eq_zero h0
   rw [zHN (m:=A[i].length) rfl (by omega)]
   rw [e];simp
  ·refine zIc (m:=A[i].length) (cs:=pis A[i]) rfl (by omega) ?_ ?_
   ·rw [zDC,if_neg (by omega),if_pos ⟨by omega,by rw [zN];omega,by omega⟩,List.take_of_length_le (by rw [zN];omega)]
   ·rw [q8 (cs:=pis (List.replicate (A[i].length+A.length) 0)) (by rw [zL,if_pos rfl]),if_pos ⟨by simp [pis],zJk _⟩,zAe]
    congr 2
    rw [List.take_zero,List.nil_append,Nat.zero_add,zN,zBv,QN,List.drop_replicate,Nat.add_sub_cancel_left]
 have hset:(A[i]++List.replicate A.length 0).set (A[i].length+i) 1=A[i]++uv A.length i:=by
  rw [List.set_append_right _ _ (by omega),Nat.add_sub_cancel_left]
  rfl
 have hlen9:(A[i]++List.replicate A.length 0).length=A[i].length+A.length:=by simp
 have hw:(h.new (pis (A[i]++List.replicate A.length 0))).wr h.next (A[i].length+i) [.int .i64 1]=some (h.new (pis (A[i]++uv A.length i))):=by
  rw [qz (cs:=pis (A[i]++List.replicate A.length 0)) (by rw [zL,if_pos rfl]) (by rw [zN,hlen9];omega) rfl,zAe,zBF,hset]
 simp only [pwA,seval,-iQ0,hlt,hr,ew,ew2,hmk1,hmk2,Zv];rw [cp];generalize hH1:h.new (pis (A[i]++List.replicate A.length 0))=H1 at *
 generalize hH2:h.new (pis (A[i]++uv A.length i))=H2 at *
 simp only [pwA,seval,-iQ0,ew2,hlt2,hw];have hul:(A[i]++uv A.length i).length=A[i].length+A.length:=by simp [uv]
 have ez:PV.sl h.next 0 (A[i].length+A.length) (.known (A[i].length+A.length))=.sl h.next 0 (A[i]++uv A.length i).length (.known (A[i].length+A.length)):=by rw [hul]
 rw [ez];refine RowsI.push a (h:=H2) (t:=h.next) (cap:=.known (A[i].length+A.length)) (x:=A[i]++uv A.length i) (by rw [←hH2];exact zD _ _) (Nat.le_refl _) (by rw [←hH2];exact Nat.lt_succ_self _) (by rw [←hH2,zL,if_pos rfl]) (by rw [hul];exact .inr rfl) (by omega) fun v' h3 a3 k3 l3=>?_
 simp only [pwA,seval,-iQ0,wrapS hlt (by omega:A.length≤4611686018427387904)]
 refine⟨_,by omega,i+1,v',_,by omega,rfl,rfl,a3,?_⟩
 rw [zFT hlt,List.map_append,hx];rfl
end Go.Proofs
namespace Go.Grp
end Go.Grp
namespace Go.Proofs
open Go.Ab Go.Lie Go.Grp Go.Mx
variable {σ h:PHeap} {K:PV→PHeap→Prop} {p c:Int} {n m s:Nat} {x y v w:List Int} {A B F u:List (List Int)} {vA vB vF v0:PV} {rows:List SR}
theorem zGS (hp:isP p) (hA:Ma p n A) (hn:n≤16) (hal:A.length≤8) (hvA:FII vA A) (hk:∀z u,FII z u→Canon p (n+A.length) (W0 (n+A.length)) (wd A) u→K z σ):zB Try.prog 104 [.int .i64 p,vA] σ K:=by
 have hq:pr7 p:=hp;obtain⟨wA,aA,rA,rfl,hrA⟩:=hvA;refine zB.pwf fun w0=>zB.gh ?_
 refine zC mix Try.func104 ?_
 conv=>arg 2;cbv
 refine zF rfl ?_;simp only [pwA,seval,-iQ0];refine zGT hal fun vU hU=>?_
 obtain⟨wU,aU,rU,rfl,hrU⟩:=hU;rw [zV];simp only [pwA,seval,-iQ0];refine QV (fun k us h=>∃(i:Nat) (v0:PV) (rows:List PV),i≤A.length∧k=A.length-i∧us=[.int .i64 p,.fz wA aA A.length rA,.fz wU aU A.length rU,v0,.int .i64 i]∧Keep σ h∧PSl σ.next 1 h v0 i rows∧All2 FI rows ((wd A).take i)) A.length (.here ⟨0,_,[],by omega,by omega,rfl,zD σ _,PSl.new _ 1 rfl (Nat.le_refl _),by rw [List.take_zero];exact All2.nil _⟩) ?_
 rintro k us h ⟨i,v0,rows,hi,rfl,rfl,hkp,ha,hall⟩
 simp only [pwA,seval,-iQ0];refine iteI (fun hlt=>?_) fun hge=>?_
 rotate_left
 ·have hie:i=A.length:=by omega
  subst hie;rw [List.take_of_length_le (by rw [zf];exact Nat.le_refl _)]at hall
  obtain⟨s0,cap,rfl,hf,q2,q3,q4,q5⟩:=ha;simp only [pwA,seval,-iQ0];refine zB.frz q2 (hall.bI 0) fun o1=>?_
  simp only [sbs,sb,hf.ok,and_self,if_true,nm_eq];refine zEC hp (wd_el hq hA) (by rw [zf];omega) (by omega) (vL:=.fz true (.sl o1 0 A.length cap) A.length rows) ⟨true,_,rows,by rw [zf],hall⟩ fun z u hz hu=>?_
  simp only [pwA,seval,-iQ0];exact Gh.fin0 (hkp.kill q4) (hz.bel _) (hk z u hz hu)
 obtain⟨w4,a4,hr⟩:=hrA.rowI hlt;have hiU:i<(idm A.length).length:=by rw [zV];exact hlt
 obtain⟨w5,a5,hr5⟩:=hrU.rowI hiU;have eu:(idm A.length)[i]=uv A.length i:=by rw [←zG hiU,qW hlt]
 rw [eu]at hr5
 have hul:(uv A.length i).length=A.length:=by simp [uv]
 have hl:=(hA _ (List.getElem_mem hlt)).len;have hkn:=hkp.next;simp only [pwA,seval,-iQ0,hlt,hr,hr5];refine Ze rfl (by omega) fun cap hcap=>?_
 have r5:(h.new (pis A[i])).obj h.next=some (pis A[i]):=by rw [zL,if_pos rfl]
 simp only [pwA,seval,-iQ0,hr5];refine PSl.cat (bytes:=8) (σb:=h) (m:=(uv A.length i).length) (news:=pis (uv A.length i)) (zD _ _) (PSl.own hcap r5 (by rw [zN,Nat.mul_one]) (Nat.le_refl _) (Nat.lt_succ_self _)) (zN _) (by omega) (by omega) fun v1 h1 k1 a1=>?_
 obtain⟨t,cap1,rfl,c1,c2,c3,c4,c5⟩:=a1;rw [QN]at c2
 have hwl:A[i].length+(uv A.length i).length=n+A.length:=by omega
 simp only [pwA,seval,-iQ0];refine PAcc.pushS (σb:=σ) (bytes:=24) (hkp.trans k1) (ha.keep k1).acc rfl (by omega) (by omega) fun v2 h3 k3 a3 o3 n3 l3=>?_
 simp only [pwA,seval,-iQ0,wrapS hlt (by omega:A.length≤4611686018427387904)]
 have vne:∀off l c,v0≠.sl t off l c:=ha.acc.ne c4
 refine⟨A.length-(i+1),by omega,.fzh t (pis (A[i]++uv A.length i)) (by rw [o3 t c5 vne];exact c2) (zq _ _) fun o1=>?_⟩
 obtain⟨f1,f2,f3⟩:=PSl.fzr w0 k3 a3 (s:=t) (cs:=pis (A[i]++uv A.length i)) (by omega) (n3 t c5) o1
 refine .here ⟨i+1,v2,rows++[.fz true (.sl o1 0 (A[i].length+(uv A.length i).length) cap1) (A[i].length+(uv A.length i).length) (pis (A[i]++uv A.length i))],by omega,rfl,?_,f1,?_,?_⟩
 ·simp only [sbs,sb,f3]
 ·rw [zBB (hall.bI 0) c1.ok]at f2
  exact f2
 ·rw [zFT hlt]
  exact hall.snoc ⟨true,_,by rw [List.length_append]⟩
end Go.Proofs
namespace Go.Grp
end Go.Grp
namespace Go.Proofs
open Go.Ab Go.Lie Go.Grp Go.Mx
variable {σ h:PHeap} {K:PV→PHeap→Prop} {p c:Int} {n m s s0:Nat} {x y v w:List Int} {A B F u X R:List (List Int)} {vA vB vF v0:PV} {rows:List SR}
theorem zBa {m d:Nat} {cap:Cap} (hf:full 1 cap m) (hd:d≤m):∃off cap',qh 1 (.sl s0 0 m cap) (some (.int .i64 d)) none none=some (.sl s0 off (m-d) cap')∧(off=d∨m=d):=by
 have h1:(0:Int)≤(d:Int)∧(d:Int)≤(m:Int):=by omega
 rcases hf with rfl|rfl
 ·refine⟨d,.grown 1,?_,.inl rfl⟩
  rw [zAj];simp [zO,qN,h1,hd]
 ·rw [Qc]
  by_cases e:m=d
  ·subst e
   exact⟨0,.known 0,by simp [zO,qN],.inr rfl⟩
  ·exact⟨d,.known (m-d),by simp [zO,qN,h1,hd,e],.inl rfl⟩
def clr2 (p:Int) (c:Nat) (k:Int) (R:List (List Int)):Nat→List (List Int)
 | 0=>R
 | j+1=>(clr2 p c k R j).set (c+1+j) (vstep p ((0-at_ (row R (c+1+j)) c)*k) (row R c) (row R (c+1+j)))
theorem Z5 {c:Nat} {k:Int}:∀j,(clr2 p c k R j).length=R.length
 | 0=>rfl
 | j+1=>by unfold clr2;rw [List.length_set];exact Z5 j
theorem ZZ {c:Nat} {k:Int}:∀j,c+1+j≤R.length→∀i,row (clr2 p c k R j) i=if c<i∧i<c+1+j then vstep p ((0-at_ (row R i) c)*k) (row R c) (row R i)else row R i
 | 0,_,i=>by rw [if_neg (by omega)];rfl
 | j+1,hj,i=>by
  unfold clr2;have ih:=ZZ (c:=c) (k:=k) j (by omega) i
  rw [ze (by rw [Z5];omega)]
  by_cases h:i=c+1+j
  ·rw [if_pos h,if_pos (by omega),h]
  ·rw [if_neg h,ih]
   by_cases h2:c<i∧i<c+1+j
   ·rw [if_pos h2,if_pos (by omega)]
   ·rw [if_neg h2,if_neg (by omega)]
theorem zC6 {c:Nat} {k:Int} (hp:0<p) (hR:Sq p n R) (hc:c<n):∀j,c+1+j≤n→Sq p n (clr2 p c k R j)
 | 0,_=>hR
 | j+1,hj=>by
  unfold clr2;exact qf (zC6 hp hR hc j (by omega)) (QU hp (za hR hc) (za hR (by omega))) _
set_option maxHeartbeats 1600000 in
theorem zBW (hp:isP p) (hA:Sq p n A) (hn:n≤8) (hvA:FII vA A) (hk:K (.int .i64 (dt n A % p)) σ):zB Try.prog 64 [.agg [.int .i64 p,.int .i64 n,vA]] σ K:=by
 have hpb:=hp.bd;have hq:pr7 p:=hp;have o:=W0_ok hpb n;have h1:=hvA.one;have hAn:=hA.1;refine zB.gh ?_;generalize hH:σ.new [.int .i64 p,.int .i64 n,vA]=H;have hkp:Keep σ H:=by rw [←hH];exact zD σ _
 have hHn:H.next=σ.next+1:=by rw [←hH];rfl
 have obH:H.obj σ.next=some [.int .i64 p,.int .i64 n,vA]:=by rw [←hH];simp only [pwA,seval,-iQ0]
 have m2:H.rd1 σ.next 2=some vA:=by rw [zK obH];rfl
 have m0:∀{g:PHeap},Keep H g→g.rd1 σ.next 0=some (.int .i64 p):=fun {g} k=>by rw [zK (by rw [k.obj _ (by omega)];exact obH)];rfl
 have fin:∀{g:PHeap} {d:Int},Keep H g→d=dt n A % p→Gh σ K (.int .i64 d) g:=fun {g d} k e=>by rw [e];exact Gh.fin0 (hkp.trans k) trivial hk
 refine zC mix Try.func64 ?_
 conv=>arg 2;cbv
 refine zF rfl ?_;simp only [pwA,seval,-iQ0,h1];rw [hH];simp only [pwA,seval,-iQ0,m2]
 by_cases h0:n=0
 ·subst h0
  have hA0:A=[]:=List.eq_nil_of_length_eq_zero hAn;subst hA0;refine zAz (fun r hr=>by cases hr) (by simp) hvA fun v h1 rows hk1 ha hall=>?_
  have hl:=ha.pLen;simp only [pwA,seval,-iQ0,hl];refine zM (fun m vs h'=>m=0∧vs=[.ptr σ.next 0,v,.int .i64 1,.int .i64 0,.int .i64 0]∧h'=h1) 0 ⟨rfl,rfl,rfl⟩ ?_
  rintro m vs h' ⟨rfl,rfl,rfl⟩
  simp only [pwA,seval,-iQ0];exact fin hk1 (by unfold dt Dt;exact(Int.emod_eq_of_lt (by omega) (by omega)).symm)
 refine zBm (n:=n) (fun r hr=>(hA.2 r hr).len) ⟨by omega,by omega⟩ (by omega) hvA fun v h0 rows ha hX=>?_
 have hrl:rows.length=n:=by rw [←hAn,←hX,List.length_map]
 obtain⟨s0,cap,rfl,hf,rx⟩:=RowsI.rx ha (by omega)
 rw [hrl]at hf ⊢
 rw [hX]at rx
 simp only [pwA,seval,-iQ0];refine zM (fun m vs h'=>∃(c:Nat) (out:Int) (X:List (List Int)),c≤n∧m=n-c∧vs=[.ptr σ.next 0,.sl s0 0 n cap,.int .i64 out,.int .i64 n,.int .i64 c]∧RX H h' s0 X∧Sq p n X∧(0≤out∧out<p)∧dt n A % p=out*Dt (n-c) (tr c X) % p) n ⟨0,1,A,by omega,by omega,rfl,rx,hA,by omega,by
  rw [Int.one_mul,Nat.sub_zero];unfold dt
  congr 2
  funext i j
  unfold tr fm;rw [Nat.zero_add,Nat.zero_add]⟩ ?_
 clear rx ha hX hrl
 rintro m vs h' ⟨c,out,X,hcn,rfl,rfl,rx,hXs,hout,hdt⟩
 have hXl:=hXs.1;have hXn:∀i (hi:i<X.length),X[i].length=n:=fun i hi=>(hXs.2 _ (List.getElem_mem hi)).len
 simp only [pwA,seval,-iQ0];refine iteI (fun hc=>?_) fun hge=>?_
 rotate_left
 ·have hce:c=n:=by omega
  subst hce;refine fin rx.keep ?_;rw [hdt,Nat.sub_self];show out=out*1 % p;rw [Int.mul_one,Int.emod_eq_of_lt hout.1 hout.2]
 have row0:∀k (hk:k<X.length) j (hj:j<X[k].length),at_ (row X k) j=X[k][j]:=fun k hk j hj=>by rw [zG hk,at_eq hj]
 have wc1:=wrapS hc (by omega:n≤4611686018427387904)
 simp only [pwA,seval,-iQ0];refine QW 2 (fun e h=>∃(t:Nat) (b0:PV),e=PEnv.mk [1,3,4,5,6,15,16,33] [.ptr σ.next 0,.sl s0 0 n cap,.int .i64 out,.int .i64 c,.int .i64 t,.int .i64 n,.int .i64 c,b0]∧h=h'∧c≤t∧t≤n∧(∀k,c≤k→k<t→at_ (row X k) c=0)∧(t<n→at_ (row X t) c≠0)) (fun Q2 hQ2=>?_) ?_
 ·refine zM (fun m us h=>∃t:Nat,m=n-t∧us=[.ptr σ.next 0,.sl s0 0 n cap,.int .i64 out,.int .i64 c,.int .i64 t,.int .i64 n,.int .i64 c]∧h=h'∧c≤t∧t≤n∧∀k,c≤k→k<t→at_ (row X k) c=0) (n-c) ⟨c,rfl,rfl,rfl,Nat.le_refl _,by omega,fun k h1 h2=>by omega⟩ ?_
  rintro m us h ⟨t,rfl,rfl,rfl,hdt',htl,hz⟩
  by_cases hlt:t<n
  rotate_left
  ·simp only [pwA,seval,-iQ0,hlt,decide_false]
   exact hQ2 _ _ ⟨t,_,rfl,rfl,hdt',htl,hz,fun g=>absurd g hlt⟩
  have htX:t<X.length:=by omega
  obtain⟨s2,cap2,r1,r2,r3,r4,r5,r6⟩:=rx.get htX;rw [hXn]at r1
  have hcr:c<X[t].length:=by rw [hXn];exact hc
  have r7:h.rd1 s2 c=some (.int .i64 X[t][c]):=by rw [zK r2,zU,gi hcr];rfl
  have hat:=row0 t htX c hcr
  by_cases h0:X[t][c]=0
  ·simp only [pwA,seval,-iQ0,hlt,decide_true,r1,hc,r7,h0,wrapS hlt (by omega:n≤4611686018427387904)]
   refine⟨_,by omega,t+1,rfl,rfl,by omega,by omega,fun k h1 h2=>?_⟩
   by_cases hk:k=t
   ·rw [hk,hat,h0]
   ·exact hz k h1 (by omega)
  ·simp only [pwA,seval,-iQ0,hlt,decide_true,r1,hc,r7,h0,decide_false]
   exact hQ2 _ _ ⟨t,_,rfl,rfl,hdt',htl,hz,fun _=>by rw [hat];exact h0⟩
 rintro e h ⟨t,b0,rfl,rfl,hdt',htl,hz,hnz⟩
 simp only [pwA,seval,-iQ0]
 by_cases hlt:t<n
 rotate_left
 ·have hte:(t:Int)=(n:Int):=by omega
  simp only [pwA,seval,-iQ0,hte];refine fin rx.keep ?_;rw [hdt,zJC hc fun k h1 h2=>hz k h1 (by omega)]
  simp
 have hte:¬(t:Int)=(n:Int):=by omega
 have hnz:=hnz hlt;have htX:t<X.length:=by omega
 have hcX':c<X.length:=by omega
 by_cases htc:t=c
 ·subst htc
  have rx1:=rx;have hX1:=hXs;have hd1:=hdt;have ho1:0≤out∧out≤p:=by omega
  have hn1:=hnz;generalize hgX:X=X1 at *
  generalize hgo:out=out1 at *
  generalize hgh:h=g at *
  generalize hgc:t=c at *
  have hl1:=hX1.1;have hcX:c<X1.length:=by omega
  obtain⟨sc,capc,g1,g2,g3,g4,g5,gp⟩:=rx1.get hcX;have er:X1[c]=row X1 c:=(zG hcX).symm;have hrc:=za hX1 hc;rw [er]at g1 g2
  rw [hrc.len]at g1
  have hcr:c<(row X1 c).length:=by rw [hrc.len];exact hc
  have hb:=hrc.bd c;rw [at_eq hcr]at hb hn1
  have r7:g.rd1 sc c=some (.int .i64 (row X1 c)[c]):=by rw [zK g2,zU,gi hcr];rfl
  have mul49:0≤out1*(row X1 c)[c]∧out1*(row X1 c)[c]≤49:=by
   refine⟨Int.mul_nonneg (by omega) (by omega),?_⟩
   have:=sm7 (a:=out1) (b:=(row X1 c)[c]) (by omega) (by omega)
   omega
  have ewm:IntKind.i64.wrap (out1*(row X1 c)[c])=out1*(row X1 c)[c]:=wrap64 (by omega) (by omega)
  have etm:(out1*(row X1 c)[c]).tmod p=out1*(row X1 c)[c] % p:=Int.tmod_eq_emod_of_nonneg mul49.1;have hp0:p≠0:=by omega
  have q0:=m0 rx1.keep;simp only [pwA,seval,-iQ0,hte,hc,g1,r7,ewm,etm,hp0,q0];refine QJ hp ⟨by omega,by omega⟩ fun k b hk0 hk1 hk2=>?_
  have wsl:IntKind.i64.wrap ((c:Int)+1)=((c+1:Nat):Int):=wc1;obtain⟨off,capS,hsl,hoff⟩:=zBa (s0:=s0) hf (d:=c+1) (by omega)
  simp only [pwA,seval,-iQ0,wsl,hsl];refine QW 4 (fun e h=>∃b0:PV,e=PEnv.mk [1,3,4,5,7,15,16,89,90,91,92] [.ptr σ.next 0,.sl s0 0 n cap,.int .i64 (out1*(row X1 c)[c] % p),.int .i64 c,.int .i64 k,.int .i64 n,.int .i64 c,.sl s0 off (n-(c+1)) capS,.int .i64 ((n-(c+1):Nat):Int),.int .i64 ((n-(c+1):Nat):Int),b0]∧RX H h s0 (clr2 p c k X1 (n-(c+1)))) (fun Q4 hQ4=>?_) ?_
  ·refine zM (fun m us h=>∃j:Nat,j≤n-(c+1)∧m=n-(c+1)-j∧us=[.ptr σ.next 0,.sl s0 0 n cap,.int .i64 (out1*(row X1 c)[c] % p),.int .i64 c,.int .i64 k,.int .i64 n,.int .i64 c,.sl s0 off (n-(c+1)) capS,.int .i64 ((n-(c+1):Nat):Int),.int .i64 j]∧RX H h s0 (clr2 p c k X1 j)) (n-(c+1)) ⟨0,by omega,by omega,rfl,rx1⟩ ?_
   rintro m us h ⟨j,hj,rfl,rfl,rx4⟩
   by_cases hjl:j<n-(c+1)
   rotate_left
   ·have hje:j=n-(c+1):=by omega
    subst hje;simp only [pwA,seval,-iQ0,Nat.lt_irrefl];exact hQ4 _ _ ⟨_,rfl,rx4⟩
   obtain rfl:off=c+1:=by rcases hoff with e|e<;>omega
   have hCl:∀j,(clr2 p c k X1 j).length=n:=fun j=>by rw [Z5];exact hl1
   have hiC:c+1+j<(clr2 p c k X1 j).length:=by rw [hCl];omega
   have hdC:c<(clr2 p c k X1 j).length:=by rw [hCl];omega
   obtain⟨si,capi,sj,capj,f1,f2,f3,f4,f5,f6,f7,f8⟩:=rx4.two hiC hdC (by omega)
   have ei:(clr2 p c k X1 j)[c+1+j]=row X1 (c+1+j):=by rw [←zG hiC,ZZ j (by omega),if_neg (by omega)]
   have ed:(clr2 p c k X1 j)[c]=row X1 c:=by rw [←zG hdC,ZZ j (by omega),if_neg (by omega)]
   have gi1:=za hX1 (show c+1+j<n by omega)
   rw [ei,gi1.len]at f1 f8
   rw [ei]at f2
   rw [ed,hrc.len]at f3
   rw [ed]at f4
   have hci:c<(row X1 (c+1+j)).length:=by rw [gi1.len];exact hc
   have f9:h.rd1 si c=some (.int .i64 (row X1 (c+1+j))[c]):=by rw [zK f2,zU,gi hci];rfl
   have gib:=gi1.bd c;rw [at_eq hci]at gib
   have ewn:IntKind.i64.wrap (0-(row X1 (c+1+j))[c])=0-(row X1 (c+1+j))[c]:=wrap64 (by omega) (by omega)
   have s7:=sm7 (a:=0-(row X1 (c+1+j))[c]) (b:=k) (by omega) (by omega)
   have ewk:IntKind.i64.wrap ((0-(row X1 (c+1+j))[c])*k)=(0-(row X1 (c+1+j))[c])*k:=wrap64 (by omega) (by omega)
   have q4:=m0 rx4.keep;have hjl':(j:Int)<((n-(c+1):Nat):Int):=by omega
   have f1':=f1;rw [show c+1+j=c+(1+j) by omega]at f1'
   simp only [pwA,seval,-iQ0,hjl,hjl',hc,f1',f3,f9,ewn,ewk,q4];simp only [show c+(1+j)=c+1+j by omega,ewn,ewk]
   refine Zy (p:=p) (xs:=row X1 (c+1+j)) (ys:=row X1 c) (by omega) f2 f4 (Ne.symm f5) gi1.len.symm hrc.len.symm (by rw [gi1.len,hrc.len]) (by rw [gi1.len];omega) (fun t g1 g2=>?_) ?_
   ·have b1:=hrc.bd t
    have b2:=gi1.bd t;rw [at_eq g2]at b1
    rw [at_eq g1]at b2
    have h9:-343≤(0-(row X1 (c+1+j))[c])*k*(row X1 c)[t]∧(0-(row X1 (c+1+j))[c])*k*(row X1 c)[t]≤343:=by
     have y1:=Int.mul_le_mul_of_nonneg_right s7.1 (show 0≤(row X1 c)[t] by omega)
     have y2:=Int.mul_le_mul_of_nonneg_right s7.2 (show 0≤(row X1 c)[t] by omega)
     omega
    unfold sm9;omega
   simp only [pwA,seval,-iQ0,wrapS hjl (by omega:n-(c+1)≤4611686018427387904)]
   refine⟨_,by omega,j+1,by omega,rfl,rfl,?_⟩
   have:=f8 (vstep p ((0-(row X1 (c+1+j))[c])*k) (row X1 c) (row X1 (c+1+j))) (by rw [zP (by rw [gi1.len,hrc.len]),gi1.len])
   unfold clr2;rw [at_eq hci];simp only [show c+(1+j)=c+1+j by omega]
   exact this
  rintro e h ⟨b0,rfl,rx5⟩
  have hp1:0<p:=by omega
  have hX5:=zC6 (k:=k) hp1 hX1 hc (n-(c+1)) (by omega)
  have hr5:=fun i=>ZZ (p:=p) (k:=k) (c:=c) (R:=X1) (n-(c+1)) (by omega) i
  have hcl:=zDN (R:=X1) (R':=clr2 p c k X1 (n-(c+1))) (k:=fun i=>(0-at_ (row X1 i) c)*k) hX1 hc (by rw [hr5,if_neg (by omega)]) (fun i h1 h2=>by rw [hr5,if_pos ⟨h1,by omega⟩]) fun i h1 h2=>by
   have gi1:=za hX1 h2;rw [hr5,if_pos ⟨h1,by omega⟩,zi (by rw [gi1.len,hrc.len]) (by rw [gi1.len];exact hc),at_eq hcr]
   obtain⟨q,hq'⟩:=zAp (p:=p) (a:=(row X1 c)[c] * k) (b:=1) (by rw [hk2];exact(Int.emod_eq_of_lt (by omega) (by omega)).symm)
   have:at_ (row X1 i) c+(0-at_ (row X1 i) c)*k*(row X1 c)[c]=(-(at_ (row X1 i) c)*q)*p:=by grind
   rw [this,Int.mul_emod_left]
  simp only [pwA,seval,-iQ0,wc1];refine⟨_,by omega,c+1,_,_,by omega,rfl,rfl,rx5,hX5,⟨Int.emod_nonneg _ hp0,Int.emod_lt_of_pos _ hp1⟩,?_⟩
  rw [hd1,Int.mul_emod,hcl,←Int.mul_emod,at_eq hcr,←Int.mul_assoc,←Qf]
 have htc':¬(t:Int)=(c:Int):=by omega
 obtain⟨s2,cap2,s3,cap3,h1,h2,r1,r2,r3,r4,rx2⟩:=rx.swap hcX' htX;rw [hXn]at r1 r2 r3 r4
 have hBB:(X.set c X[t]).set t X[c]=(X.set c (row X t)).set t (row X c):=by rw [zG hcX',zG htX]
 rw [hBB]at rx2
 have hB:Sq p n ((X.set c (row X t)).set t (row X c)):=qf (qf hXs (za hXs hlt) _) (za hXs hc) _;have hsw:=zJB (R:=X) hXl (show c<t by omega) hlt
 have hd1:dt n A % p=(p-out)*Dt (n-c) (tr c ((X.set c (row X t)).set t (row X c))) % p:=by
  rw [hdt,hsw,show(p-out) * -Dt (n-c) (tr c X)=out*Dt (n-c) (tr c X)+(-Dt (n-c) (tr c X))*p by grind,Int.add_mul_emod_self_right]
 have hn1:at_ (row ((X.set c (row X t)).set t (row X c)) c) c≠0:=by
  rw [ze (by rw [List.length_set];omega),if_neg (by omega),ze (by omega),if_pos rfl];exact hnz
 have q2:=m0 rx2.keep;have ewo:IntKind.i64.wrap (p-out)=p-out:=wrap64 (by omega) (by omega)
 have ho1:0≤p-out∧p-out≤p:=by omega
 have kp1:=rx.keep;simp only [pwA,seval,-iQ0,hte,htc',hc,hlt,r1,r2,r3,r4,q2,ewo];generalize hgX:(X.set c (row X t)).set t (row X c)=X1 at *
 generalize hgo:p-out=out1 at *
 generalize hgh:h2=g at *
 have rx1:=rx2;have hX1:=hB;have hl1:=hX1.1;have hcX:c<X1.length:=by omega
 obtain⟨sc,capc,g1,g2,g3,g4,g5,gp⟩:=rx1.get hcX;have er:X1[c]=row X1 c:=(zG hcX).symm;have hrc:=za hX1 hc;rw [er]at g1 g2
 rw [hrc.len]at g1
 have hcr:c<(row X1 c).length:=by rw [hrc.len];exact hc
 have hb:=hrc.bd c;rw [at_eq hcr]at hb hn1
 have r7:g.rd1 sc c=some (.int .i64 (row X1 c)[c]):=by rw [zK g2,zU,gi hcr];rfl
 have mul49:0≤out1*(row X1 c)[c]∧out1*(row X1 c)[c]≤49:=by
  refine⟨Int.mul_nonneg (by omega) (by omega),?_⟩
  have:=sm7 (a:=out1) (b:=(row X1 c)[c]) (by omega) (by omega)
  omega
 have ewm:IntKind.i64.wrap (out1*(row X1 c)[c])=out1*(row X1 c)[c]:=wrap64 (by omega) (by omega)
 have etm:(out1*(row X1 c)[c]).tmod p=out1*(row X1 c)[c] % p:=Int.tmod_eq_emod_of_nonneg mul49.1;have hp0:p≠0:=by omega
 have q0:=m0 rx1.keep;simp only [pwA,seval,-iQ0,hc,g1,r7,ewm,etm,hp0,q0];refine QJ hp ⟨by omega,by omega⟩ fun k b hk0 hk1 hk2=>?_
 have wsl:IntKind.i64.wrap ((c:Int)+1)=((c+1:Nat):Int):=wc1;obtain⟨off,capS,hsl,hoff⟩:=zBa (s0:=s0) hf (d:=c+1) (by omega)
 simp only [pwA,seval,-iQ0,wsl,hsl];refine QW 4 (fun e h=>∃b0:PV,e=PEnv.mk [1,3,4,5,7,15,16,89,90,91,92] [.ptr σ.next 0,.sl s0 0 n cap,.int .i64 (out1*(row X1 c)[c] % p),.int .i64 c,.int .i64 k,.int .i64 n,.int .i64 c,.sl s0 off (n-(c+1)) capS,.int .i64 ((n-(c+1):Nat):Int),.int .i64 ((n-(c+1):Nat):Int),b0]∧RX H h s0 (clr2 p c k X1 (n-(c+1)))) (fun Q4 hQ4=>?_) ?_
 ·refine zM (fun m us h=>∃j:Nat,j≤n-(c+1)∧m=n-(c+1)-j∧us=[.ptr σ.next 0,.sl s0 0 n cap,.int .i64 (out1*(row X1 c)[c] % p),.int .i64 c,.int .i64 k,.int .i64 n,.int .i64 c,.sl s0 off (n-(c+1)) capS,.int .i64 ((n-(c+1):Nat):Int),.int .i64 j]∧RX H h s0 (clr2 p c k X1 j)) (n-(c+1)) ⟨0,by omega,by omega,rfl,rx1⟩ ?_
  rintro m us h ⟨j,hj,rfl,rfl,rx4⟩
  by_cases hjl:j<n-(c+1)
  rotate_left
  ·have hje:j=n-(c+1):=by omega
   subst hje;simp only [pwA,seval,-iQ0,Nat.lt_irrefl];exact hQ4 _ _ ⟨_,rfl,rx4⟩
  obtain rfl:off=c+1:=by rcases hoff with e|e<;>omega
  have hCl:∀j,(clr2 p c k X1 j).length=n:=fun j=>by rw [Z5];exact hl1
  have hiC:c+1+j<(clr2 p c k X1 j).length:=by rw [hCl];omega
  have hdC:c<(clr2 p c k X1 j).length:=by rw [hCl];omega
  obtain⟨si,capi,sj,capj,f1,f2,f3,f4,f5,f6,f7,f8⟩:=rx4.two hiC hdC (by omega)
  have ei:(clr2 p c k X1 j)[c+1+j]=row X1 (c+1+j):=by rw [←zG hiC,ZZ j (by omega),if_neg (by omega)]
  have ed:(clr2 p c k X1 j)[c]=row X1 c:=by rw [←zG hdC,ZZ j (by omega),if_neg (by omega)]
  have gi1:=za hX1 (show c+1+j<n by omega)
  rw [ei,gi1.len]at f1 f8
  rw [ei]at f2
  rw [ed,hrc.len]at f3
  rw [ed]at f4
  have hci:c<(row X1 (c+1+j)).length:=by rw [gi1.len];exact hc
  have f9:h.rd1 si c=some (.int .i64 (row X1 (c+1+j))[c]):=by rw [zK f2,zU,gi hci];rfl
  have gib:=gi1.bd c;rw [at_eq hci]at gib
  have ewn:IntKind.i64.wrap (0-(row X1 (c+1+j))[c])=0-(row X1 (c+1+j))[c]:=wrap64 (by omega) (by omega)
  have s7:=sm7 (a:=0-(row X1 (c+1+j))[c]) (b:=k) (by omega) (by omega)
  have ewk:IntKind.i64.wrap ((0-(row X1 (c+1+j))[c])*k)=(0-(row X1 (c+1+j))[c])*k:=wrap64 (by omega) (by omega)
  have q4:=m0 rx4.keep;have hjl':(j:Int)<((n-(c+1):Nat):Int):=by omega
  have f1':=f1;rw [show c+1+j=c+(1+j) by omega]at f1'
  simp only [pwA,seval,-iQ0,hjl,hjl',hc,f1',f3,f9,ewn,ewk,q4];simp only [show c+(1+j)=c+1+j by omega,ewn,ewk]
  refine Zy (p:=p) (xs:=row X1 (c+1+j)) (ys:=row X1 c) (by omega) f2 f4 (Ne.symm f5) gi1.len.symm hrc.len.symm (by rw [gi1.len,hrc.len]) (by rw [gi1.len];omega) (fun t g1 g2=>?_) ?_
  ·have b1:=hrc.bd t
   have b2:=gi1.bd t;rw [at_eq g2]at b1
   rw [at_eq g1]at b2
   have h9:-343≤(0-(row X1 (c+1+j))[c])*k*(row X1 c)[t]∧(0-(row X1 (c+1+j))[c])*k*(row X1 c)[t]≤343:=by
    have y1:=Int.mul_le_mul_of_nonneg_right s7.1 (show 0≤(row X1 c)[t] by omega)
    have y2:=Int.mul_le_mul_of_nonneg_right s7.2 (show 0≤(row X1 c)[t] by omega)
    omega
   unfold sm9;omega
  simp only [pwA,seval,-iQ0,wrapS hjl (by omega:n-(c+1)≤4611686018427387904)]
  refine⟨_,by omega,j+1,by omega,rfl,rfl,?_⟩
  have:=f8 (vstep p ((0-(row X1 (c+1+j))[c])*k) (row X1 c) (row X1 (c+1+j))) (by rw [zP (by rw [gi1.len,hrc.len]),gi1.len])
  unfold clr2;rw [at_eq hci];simp only [show c+(1+j)=c+1+j by omega]
  exact this
 rintro e h ⟨b0,rfl,rx5⟩
 have hp1:0<p:=by omega
 have hX5:=zC6 (k:=k) hp1 hX1 hc (n-(c+1)) (by omega)
 have hr5:=fun i=>ZZ (p:=p) (k:=k) (c:=c) (R:=X1) (n-(c+1)) (by omega) i
 have hcl:=zDN (R:=X1) (R':=clr2 p c k X1 (n-(c+1))) (k:=fun i=>(0-at_ (row X1 i) c)*k) hX1 hc (by rw [hr5,if_neg (by omega)]) (fun i h1 h2=>by rw [hr5,if_pos ⟨h1,by omega⟩]) fun i h1 h2=>by
  have gi1:=za hX1 h2;rw [hr5,if_pos ⟨h1,by omega⟩,zi (by rw [gi1.len,hrc.len]) (by rw [gi1.len];exact hc),at_eq hcr]
  obtain⟨q,hq'⟩:=zAp (p:=p) (a:=(row X1 c)[c] * k) (b:=1) (by rw [hk2];exact(Int.emod_eq_of_lt (by omega) (by omega)).symm)
  have:at_ (row X1 i) c+(0-at_ (row X1 i) c)*k*(row X1 c)[c]=(-(at_ (row X1 i) c)*q)*p:=by grind
  rw [this,Int.mul_emod_left]
 simp only [pwA,seval,-iQ0,wc1];refine⟨_,by omega,c+1,_,_,by omega,rfl,rfl,rx5,hX5,⟨Int.emod_nonneg _ hp0,Int.emod_lt_of_pos _ hp1⟩,?_⟩
 rw [hd1,Int.mul_emod,hcl,←Int.mul_emod,at_eq hcr,←Int.mul_assoc,←Qf]
end Go.Proofs
namespace Go.Grp
end Go.Grp
namespace Go.Proofs
open Go.Ab Go.Lie Go.Grp Go.Mx
variable {σ h:PHeap} {K:PV→PHeap→Prop} {p c a b d:Int} {n m s s0:Nat} {x y v w:List Int} {A B F M u X R:List (List Int)} {vA vB vF v0:PV} {rows:List SR}
theorem Acc3.outT {H h:PHeap} {i:Nat} {rows:List PV} {e:PV} (a:Acc3 H h p n v0 i rows) (hk0:Keep σ H) {t:Nat} (ht:σ.next≤t) (htH:t<H.next) (hall:All2 FI rows M) (he:∀b,Bel b e) (hs:∀b o m,sb b o m e=e) (hk:∀v,FII v M→K (.tup [.agg [.int .i64 p,.int .i64 n,v],e]) σ):
  Gh σ K (.tup [.agg [.int .i64 p,.int .i64 n,v0],e]) (h.set t [.int .i64 p,.int .i64 n,v0]):=by
 have hkσ:Keep σ (h.set t [.int .i64 p,.int .i64 n,v0]):=(hk0.trans a.keep).set ht _;have hlen:=hall.1;rcases a.acc with ⟨rfl,h0,h1⟩|⟨s,cap,rfl,hc,q2,q3,q4,q5⟩
 ·refine Gh.fin0 hkσ ⟨⟨trivial,trivial,trivial,trivial⟩,he _,trivial⟩ (hk _ ⟨true,.nils,rows,?_,hall⟩)
  rw [←hlen,h1];rfl
 ·have hk1:=hk0.next
  refine Gh.freeze (s:=s) (cs:=rows) (by rw [zJ,if_neg (by omega)];exact q2) (by omega) (hall.bI 0) fun o g1 g2 g3=>?_
  simp only [sb,sbs,hc.ok,and_self,if_true,hs];refine Gh.fin0 ((hkσ.kill (by omega)).up (by simp only [PHeap.kill];omega)) ⟨⟨trivial,trivial,trivial,trivial⟩,he _,trivial⟩ (hk _ ⟨true,.sl o 0 i cap,rows,?_,hall⟩)
  rw [←hlen,q3,Nat.mul_one]
theorem zFk {i:Nat} (hi:i<u.length):(u.map (List.drop n)).take (i+1)=(u.map (List.drop n)).take i++[u[i].drop n]:=by
 rw [←List.map_take,←List.map_take,List.take_succ_eq_append_getElem hi,List.map_append];rfl
theorem zEF (hp:isP p) (hA:Sq p n A) (hn:n≤8) (hvA:FII vA A) (hk1:∀z u,FII z (u.map (List.drop n))→Canon p (n+n) (W0 (n+n)) (wd A) u→Fll n u→K (.tup [.agg [.int .i64 p,.int .i64 n,z],.bool true]) σ)
  (hk0:∀u,Canon p (n+n) (W0 (n+n)) (wd A) u→¬Fll n u→K (.tup [.agg [.int .i64 0,.int .i64 0,.fz true .nils 0 []],.bool false]) σ):zB Try.prog 61 [.agg [.int .i64 p,.int .i64 n,vA]] σ K:=by
 have hq:pr7 p:=hp;have h1:=hvA.one;have hAn:=hA.1;have hlen:pLen vA=some (.int .i64 n):=by obtain⟨w,a,r,rfl,_⟩:=hvA;rw [←hAn];rfl
 refine zB.gh ?_;generalize hH:(σ.new [.int .i64 p,.int .i64 n,vA]).new [.int .i64 0,.int .i64 0,.fz true .nils 0 []]=H;have hHn:H.next=σ.next+2:=by rw [←hH];rfl
 have hHk:Keep σ H:=by rw [←hH];exact(zD σ _).new _
 have ho1:H.obj σ.next=some [.int .i64 p,.int .i64 n,vA]:=by rw [←hH];simp only [pwA,seval,-iQ0]
 have ho2:H.obj (σ.next+1)=some [.int .i64 0,.int .i64 0,.fz true .nils 0 []]:=by rw [←hH];simp only [pwA,seval,-iQ0]
 have q0:H.rd1 σ.next 0=some (.int .i64 p):=by rw [zK ho1];rfl
 have q2:H.rd1 σ.next 2=some vA:=by rw [zK ho1];rfl
 have q1:H.rd1 σ.next 1=some (.int .i64 n):=by rw [zK ho1];rfl
 have hne3:¬σ.next=H.next:=by omega
 refine zC mix Try.func61 ?_
 conv=>arg 2;cbv
 refine zF rfl ?_;simp only [pwA,seval,-iQ0,h1];rw [hH];simp only [pwA,seval,-iQ0,q0,q1,q2,hne3,hlen];refine zB9 (n:=n) (fun r hr=>(hA.2 r hr).len) (by omega) (by omega) hvA fun zw hzw=>?_
 simp only [pwA,seval,-iQ0,q0,q1,q2,hne3,hlen];refine zDR (n:=n+n) hp (by have:=wd_el hq hA.2;rwa [hAn]at this) (by omega) (by rw [zf];omega) hzw fun zu u hzu hu=>?_
 have hul:u.length=n:=by
  have:=zAa (u:=u) hq hA.2 (by rw [hAn];exact hu)
  omega
 have fi:=zI5 hu hul;obtain⟨wu,au,ru,rfl,hru⟩:=hzu;have hrow:∀i (h:i<u.length),u[i].length=n+n:=fun i h=>(hu.base.els _ (List.getElem_mem h)).1
 simp only [pwA,seval,-iQ0];refine zM (fun m vs h'=>∃(i:Nat) (vC:PV) (rows:List PV),i≤u.length∧m=u.length-i∧vs=[.ptr (σ.next+1) 0,.int .i64 n,.ptr (σ.next+2) 0,.fz wu au u.length ru,.int .i64 u.length,.int .i64 i]∧Acc3 H h' p n vC i rows∧All2 FI rows ((u.map (List.drop n)).take i)∧∀k,k<i→at_ (row u k) k=1) u.length ?_ ?_
 ·exact⟨0,_,[],by omega,by omega,by rw [hHn];rfl,⟨zD H _,by rw [zL,if_pos rfl],Nat.lt_succ_self _,PAcc.nil _ _ _⟩,by rw [List.take_zero];exact All2.nil _,fun k hk=>by omega⟩
 rintro m vs h' ⟨i,vC,rows,hi,rfl,rfl,a,hall,hone⟩
 have hob:=a.obj;have hlt0:=a.lt;rw [hHn]at hob hlt0
 have r2:h'.rd1 (σ.next+2) 2=some vC:=by rw [zK hob];rfl
 have hor:h'.obj (σ.next+1)=some [.int .i64 0,.int .i64 0,.fz true .nils 0 []]:=by rw [a.keep.obj _ (by omega)];exact ho2
 simp only [pwA,seval,-iQ0];refine iteI (fun hlt=>?_) fun hge=>?_
 rotate_left
 ·have hie:i=u.length:=by omega
  subst hie;have rd:h'.rd (σ.next+2) 0 3=some [.int .i64 p,.int .i64 n,vC]:=by rw [qa hob];rfl
  obtain⟨w1,r1⟩:=res3 (a:=p) (b:=(n:Int)) hor a.acc.one;simp only [pwA,seval,-iQ0,rd,w1,r1];rw [List.take_of_length_le (by simp)]at hall
  exact a.outT hHk (by omega) (by omega) hall (fun b=>trivial) (fun _ _ _=>rfl) fun v hv=>hk1 v u hv hu (fi.2 fun k hk=>hone k (by omega))
 obtain⟨w4,a4,hr⟩:=hru.rowI hlt;have hl:=hrow i hlt;have hir:i<u[i].length:=by omega
 have h0n:(0:Int)≤((n:Nat):Int):=by omega
 have hnl2:((n:Nat):Int)≤(u[i].length:Int):=by omega
 have hnl3:n≤u[i].length:=by omega
 have hat:at_ (row u i) i=u[i][i]:=by rw [zG hlt,at_eq hir]
 by_cases he:u[i][i]=1
 rotate_left
 ·obtain⟨w1,r1⟩:=res3 (a:=0) (b:=0) hor (v:=.fz true .nils 0 []) rfl
  simp only [pwA,seval,-iQ0,hlt,hr,hir,gi hir,zU,he,w1,r1];exact Gh.fin0 ((hHk.trans a.keep).set (by omega) _) ⟨⟨trivial,trivial,trivial,trivial⟩,trivial,trivial⟩ (hk0 u hu fun g=>he (by rw [←hat];exact fi.1 g i (by omega)))
 have htf:List.take (u[i].length-n) (pis (List.drop n u[i]))=pis (List.drop n u[i]):=List.take_of_length_le (by rw [zN,List.length_drop];exact Nat.le_refl _)
 simp only [pwA,seval,-iQ0,hlt,hr,hir,gi hir,zU,he,r2,h0n,hnl2,hnl3,htf,zBv,Nat.sub_zero];refine zB.fzI (fun K' k'=>zB8 (by rw [List.length_drop]) (by rw [List.length_drop];omega) k') fun a5=>?_
 have hne:¬σ.next+2=h'.next:=by omega
 simp only [pwA,seval,-iQ0,r2,hne];refine PAcc.pushS (σb:=H) (bytes:=24) a.keep (a.acc.low (Nat.le_succ _)) rfl (by omega) (by omega) fun v' h2 k2 a2 o2 n2 l2=>?_
 have hob2:h2.obj (σ.next+2)=some [.int .i64 p,.int .i64 n,vC]:=by rw [o2 _ hlt0 (a.acc.ne' (by omega))];exact hob
 have hwr:h2.wr (σ.next+2) 2 [v']=some (h2.set (σ.next+2) [.int .i64 p,.int .i64 n,v']):=by
  rw [q8 hob2,if_pos ⟨by simp,by simp [a2.one]⟩];rfl
 simp only [pwA,seval,-iQ0,hwr,a2.cells,wrapS hlt (by omega:u.length≤4611686018427387904)]
 refine⟨_,by omega,i+1,v',rows++[.fz true a5 (List.drop n u[i]).length (pis (List.drop n u[i]))],by omega,rfl,rfl,⟨k2.set (by omega) _,by rw [hHn,zJ,if_pos rfl],by rw [hHn];show σ.next+2<h2.next;omega,?_⟩,?_,fun k hk=>?_⟩
 ·exact(PSl.setO (a2.high (b':=H.next+1) fun t ht=>n2 t (by omega)) (by omega) _).acc
 ·rw [zFk hlt]
  exact hall.snoc ⟨true,a5,rfl⟩
 ·by_cases e:k=i
  ·rw [e,hat];exact he
  ·exact hone k (by omega)
end Go.Proofs
namespace Go.Grp
end Go.Grp
namespace Go.Proofs
open Go.Ab Go.Lie Go.Grp Go.Mx
variable {σ h:PHeap} {K:PV→PHeap→Prop} {p c a b d:Int} {n m s s0:Nat} {x y v w:List Int} {A B F M u X R:List (List Int)} {vA vB vF v0:PV} {rows:List PV}
theorem PSl.fin2 {i:Nat} {e:PV} (hk0:Keep σ h) (a:PSl σ.next 1 h v0 i rows) (hall:All2 FI rows M) (he:∀b,Bel b e) (hs:∀b o m,sb b o m e=e) (hk:∀v,FII v M→K (.tup [v,e]) σ):Gh σ K (.tup [v0,e]) h:=by
 have hlen:=hall.1;obtain⟨s,cap,rfl,hc,q2,q3,q4,q5⟩:=a;refine Gh.freeze (s:=s) (cs:=rows) q2 (by omega) (hall.bI 0) fun o g1 g2 g3=>?_
 simp only [sb,sbs,hc.ok,and_self,if_true,hs];refine Gh.fin0 ((hk0.kill (by omega)).up (by simp only [PHeap.kill];omega)) ⟨trivial,he _,trivial⟩ (hk _ ⟨true,.sl o 0 i cap,rows,?_,hall⟩)
 rw [←hlen,q3,Nat.mul_one]
theorem zDZ (hp:isP p) (hA:Sq p n A) (hn:n≤8) (hvA:FII vA A) (hk1:∀z u,FII z (u.map (List.drop n))→Canon p (n+n) (W0 (n+n)) (wd A) u→Fll n u→K (.tup [z,.bool true]) σ)
  (hk0:∀u,Canon p (n+n) (W0 (n+n)) (wd A) u→¬Fll n u→K (.tup [.fz true .nils 0 [],.bool false]) σ):zB Try.prog 63 [.int .i64 p,vA] σ K:=by
 have hq:pr7 p:=hp;have hAn:=hA.1;have hlen:pLen vA=some (.int .i64 n):=by obtain⟨w,a,r,rfl,_⟩:=hvA;rw [←hAn];rfl
 refine zB.gh ?_;refine zC mix Try.func63 ?_
 conv=>arg 2;cbv
 refine zF rfl ?_;simp only [pwA,seval,-iQ0];refine zGS hp hA.2 (by omega) (by omega) hvA fun zu u hzu hu=>?_
 rw [hAn]at hu
 have hul:u.length=n:=by
  have:=zAa (u:=u) hq hA.2 (by rw [hAn];exact hu)
  omega
 obtain⟨wu,au,ru,rfl,hru⟩:=hzu;have hrow:∀i (h:i<u.length),u[i].length=n+n:=fun i h=>(hu.base.els _ (List.getElem_mem h)).1
 simp only [pwA,seval,-iQ0];refine zM (fun k us h=>∃(i:Nat) (v0:PV) (rows:List PV),i≤u.length∧k=u.length-i∧us=[vA,.fz wu au u.length ru,v0,.int .i64 i]∧Keep σ h∧PSl σ.next 1 h v0 i rows∧All2 FI rows ((u.map (List.drop n)).take i)∧∀k,k<i→dep (row u k)=k) u.length ⟨0,_,[],by omega,by omega,rfl,zD σ _,PSl.new _ 1 rfl (Nat.le_refl _),by rw [List.take_zero];exact All2.nil _,fun k hk=>by omega⟩ ?_
 rintro k us h ⟨i,v0,rows,hi,rfl,rfl,hkp,ha,hall,hone⟩
 simp only [pwA,seval,-iQ0];refine iteI (fun hlt=>?_) fun hge=>?_
 rotate_left
 ·have hie:i=u.length:=by omega
  subst hie;rw [List.take_of_length_le (by simp)]at hall
  exact PSl.fin2 hkp ha hall (fun b=>trivial) (fun _ _ _=>rfl) fun v hv=>hk1 v u hv hu fun k hk=>hone k (by omega)
 obtain⟨w4,a4,hr⟩:=hru.rowI hlt;have hl:=hrow i hlt;have h0n:(0:Int)≤((n:Nat):Int):=by omega
 have hnl2:((n:Nat):Int)≤(u[i].length:Int):=by omega
 have hnl3:n≤u[i].length:=by omega
 have wi1:=wrapS hlt (by omega:u.length≤4611686018427387904)
 simp only [pwA,seval,-iQ0,hlt,hr];refine QQ rfl (by omega) ?_
 by_cases hd:dep u[i]=i
 rotate_left
 ·have hd':¬(dep u[i]:Int)=(i:Int):=by omega
  simp only [pwA,seval,-iQ0,hd',decide_false];exact Gh.fin0 hkp ⟨trivial,trivial,trivial⟩ (hk0 u hu fun g=>hd (by rw [←zG hlt];exact g i (by omega)))
 have hd':(dep u[i]:Int)=(i:Int):=by omega
 have htf:List.take (u[i].length-n) (pis (List.drop n u[i]))=pis (List.drop n u[i]):=List.take_of_length_le (by rw [zN,List.length_drop];exact Nat.le_refl _)
 simp only [pwA,seval,-iQ0,hd',hlt,hr,hlen,h0n,hnl2,hnl3,htf,zBv,Nat.sub_zero];refine zB.fz (e:=1) (l:=(List.drop n u[i]).length) (cs:=pis (List.drop n u[i])) (fun K' k'=>Ze (by rw [List.length_drop]) (by rw [List.length_drop];omega) k') (zq _ _) fun o cap=>?_
 simp only [pwA,seval,-iQ0];refine PSl.push (bytes:=24) hkp ha (by omega) (by omega) fun v' h2 k2 a2=>?_
 simp only [pwA,seval,-iQ0,wi1];refine⟨_,by omega,i+1,v',rows++[.fz true (.sl o 0 (List.drop n u[i]).length cap) (List.drop n u[i]).length (pis (List.drop n u[i]))],by omega,rfl,rfl,k2,a2,?_,fun k hk=>?_⟩
 ·rw [zFk hlt]
  exact hall.snoc ⟨true,_,rfl⟩
 ·by_cases e:k=i
  ·rw [e,zG hlt];exact hd
  ·exact hone k (by omega)
def Inv (p c:Int) (F:List (List Int)) (r:(Int×Int×List (List Int))×Int):Prop:=
 (¬isMx p c F∧r=((0,0,[]),1))∨(isMx p c F∧(F.length:Int)≠c∧r=((0,0,[]),2))∨
 ∃(n:Nat) (u:List (List Int)),isMx p c F∧c=n∧n≤8∧isP p∧Sq p n F∧Canon p (n+n) (W0 (n+n)) (wd F) u∧((Fll n u∧r=((p,c,u.map (List.drop n)),0))∨(¬Fll n u∧r=((0,0,[]),4)))
theorem Inv.unique {r r':(Int×Int×List (List Int))×Int} (a:Inv p c F r) (a':Inv p c F r'):r=r':=by
 rcases a with ⟨a1,rfl⟩|⟨a1,a2,rfl⟩|⟨n,u,a1,rfl,a2,a3,a4,a5,a6⟩
 ·rcases a' with ⟨b1,rfl⟩ | ⟨b1,b2,rfl⟩ | ⟨n,u,b1,b2,b3,b4,b5,b6,b7⟩
  ·rfl
  ·exact absurd b1 a1
  ·exact absurd b1 a1
 ·rcases a' with ⟨b1,rfl⟩ | ⟨b1,b2,rfl⟩ | ⟨n,u,b1,b2,b3,b4,b5,b6,b7⟩
  ·exact absurd a1 b1
  ·rfl
  ·have:=b5.1;omega
 ·rcases a' with ⟨b1,rfl⟩ | ⟨b1,b2,rfl⟩ | ⟨n',u',b1,b2,b3,b4,b5,b6,b7⟩
  ·exact absurd a1 b1
  ·have:=a4.1;omega
  ·obtain rfl:n=n':=by omega
   have hq:pr7 p:=a3;obtain rfl:u=u':=a5.unique (W0_ok hq.ok _) b6;rcases a6 with ⟨c1,rfl⟩|⟨c1,rfl⟩
   ·rcases b7 with ⟨d1,rfl⟩ | ⟨d1,rfl⟩
    ·rfl
    ·exact absurd c1 d1
   ·rcases b7 with ⟨d1,rfl⟩ | ⟨d1,rfl⟩
    ·exact absurd d1 c1
    ·rfl
theorem zCq (hF:FII vF F) (sz:SzL F) (hk:∀r,Inv p c F r→RetM K σ r):zB Try.prog 23 [.agg [.int .i64 p,.int .i64 c,vF]] σ K:=by
 have h1:=hF.one;have hlen:pLen vF=some (.int .i64 F.length):=by obtain⟨w,a,r,rfl,_⟩:=hF;rfl
 refine zB.gh ?_;generalize hH:(σ.new [.int .i64 p,.int .i64 c,vF]).new [.int .i64 0,.int .i64 0,.fz true .nils 0 []]=H;have hHn:H.next=σ.next+2:=by rw [←hH];rfl
 have hkp:Keep σ H:=by rw [←hH];exact(zD σ _).new _
 have hob:H.obj σ.next=some [.int .i64 p,.int .i64 c,vF]:=by rw [←hH];simp only [pwA,seval,-iQ0]
 have hor:H.obj (σ.next+1)=some [.int .i64 0,.int .i64 0,.fz true .nils 0 []]:=by rw [←hH];simp only [pwA,seval,-iQ0]
 have g0:H.rd σ.next 0 3=some [.int .i64 p,.int .i64 c,vF]:=by rw [qa hob];rfl
 have m1:H.rd1 σ.next 1=some (.int .i64 c):=by rw [zK hob];rfl
 have m2:H.rd1 σ.next 2=some vF:=by rw [zK hob];rfl
 obtain⟨w0,r0⟩:=res3 (a:=0) (b:=0) hor (v:=.fz true .nils 0 []) rfl;have no:∀e,Inv p c F ((0,0,[]),e)→Gh σ K (.tup [.agg [.int .i64 0,.int .i64 0,.fz true .nils 0 []],.int .i64 e]) (H.set (σ.next+1) [.int .i64 0,.int .i64 0,.fz true .nils 0 []]):=fun e he=>(hk _ he).fin (hkp.set (by omega) _) nilM rfl
 refine zC mix Try.func23 ?_
 conv=>arg 2;cbv
 refine zF rfl ?_;simp only [pwA,seval,-iQ0,h1];rw [hH];simp only [pwA,seval,-iQ0,g0];refine ZM sz hF fun t ht=>?_
 cases t with
 | false=>
  simp only [pwA,seval,-iQ0,w0,r0];exact no _ (.inl ⟨fun h=>(by cases ht.2 h),rfl⟩)
 | true=>
 have hm:=ht.1 rfl
 by_cases hc:(F.length:Int)=c
 rotate_left
 ·simp only [pwA,seval,-iQ0,m1,m2,hlen,hc,w0,r0]
  exact no _ (.inr (.inl ⟨hm,hc,rfl⟩))
 obtain⟨n,rfl,hn,hp,hl,hA⟩:=mx_n hm;have hsq:Sq p n F:=⟨by omega,hA⟩
 simp only [pwA,seval,-iQ0,m1,m2,hlen,hc,g0];have hne:¬σ.next+1=H.next:=by omega
 have or2:∀cs,(H.new cs).obj (σ.next+1)=some [.int .i64 0,.int .i64 0,.fz true .nils 0 []]:=fun cs=>by rw [zL,if_neg (by omega)];exact hor
 refine zEF hp hsq hn hF (fun z u hz hu hf=>?_) fun u hu hf=>?_
 ·have z1:=hz.one
  have z2:=hz.cells;obtain⟨w1,r1⟩:=res3 (a:=p) (b:=(n:Int)) (or2 [.int .i64 p,.int .i64 n,z]) z1;simp only [pwA,seval,-iQ0,z1,z2,hne,w1,r1];exact(hk _ (.inr (.inr ⟨n,u,hm,rfl,hn,hp,hsq,hu,.inl ⟨hf,rfl⟩⟩))).fin ((Keep.set hkp (s:=σ.next+1) (by omega) _).new _) hz rfl
 ·obtain⟨w1,r1⟩:=res3 (a:=0) (b:=0) (or2 [.int .i64 0,.int .i64 0,.fz true .nils 0 []]) (v:=.fz true .nils 0 []) rfl
  simp only [pwA,seval,-iQ0,hne,w1,r1];exact(hk _ (.inr (.inr ⟨n,u,hm,rfl,hn,hp,hsq,hu,.inr ⟨hf,rfl⟩⟩))).fin ((Keep.set hkp (s:=σ.next+1) (by omega) _).new _) nilM rfl
theorem zCp (hF:FII vF F) (sz:SzL F) (hk:∀r,Inv p c F r→RetM K σ r):zB Try.prog 24 [.agg [.int .i64 p,.int .i64 c,vF]] σ K:=by
 have h1:=hF.one;have hlen:pLen vF=some (.int .i64 F.length):=by obtain⟨w,a,r,rfl,_⟩:=hF;rfl
 refine zB.gh ?_;generalize hH:(σ.new [.int .i64 p,.int .i64 c,vF]).new [.int .i64 0,.int .i64 0,.fz true .nils 0 []]=H;have hHn:H.next=σ.next+2:=by rw [←hH];rfl
 have hkp:Keep σ H:=by rw [←hH];exact(zD σ _).new _
 have hob:H.obj σ.next=some [.int .i64 p,.int .i64 c,vF]:=by rw [←hH];simp only [pwA,seval,-iQ0]
 have hor:H.obj (σ.next+1)=some [.int .i64 0,.int .i64 0,.fz true .nils 0 []]:=by rw [←hH];simp only [pwA,seval,-iQ0]
 have g0:H.rd σ.next 0 3=some [.int .i64 p,.int .i64 c,vF]:=by rw [qa hob];rfl
 have m0:H.rd1 σ.next 0=some (.int .i64 p):=by rw [zK hob];rfl
 have m1:H.rd1 σ.next 1=some (.int .i64 c):=by rw [zK hob];rfl
 have m2:H.rd1 σ.next 2=some vF:=by rw [zK hob];rfl
 obtain⟨w0,r0⟩:=res3 (a:=0) (b:=0) hor (v:=.fz true .nils 0 []) rfl;have no:∀e,Inv p c F ((0,0,[]),e)→Gh σ K (.tup [.agg [.int .i64 0,.int .i64 0,.fz true .nils 0 []],.int .i64 e]) (H.set (σ.next+1) [.int .i64 0,.int .i64 0,.fz true .nils 0 []]):=fun e he=>(hk _ he).fin (hkp.set (by omega) _) nilM rfl
 refine zC mix Try.func24 ?_
 conv=>arg 2;cbv
 refine zF rfl ?_;simp only [pwA,seval,-iQ0,h1];rw [hH];simp only [pwA,seval,-iQ0,g0];refine zED sz hF fun t ht=>?_
 cases t with
 | false=>
  simp only [pwA,seval,-iQ0,w0,r0];exact no _ (.inl ⟨fun h=>(by cases ht.2 h),rfl⟩)
 | true=>
 have hm:=ht.1 rfl;simp only [pwA,seval,-iQ0,g0];have sqok:∀{K':PV→PHeap→Prop},K' (.bool (decide ((F.length:Int)=c))) H→zB Try.prog 62 [.agg [.int .i64 p,.int .i64 c,vF]] H K':=fun {K'} k'=>by
  refine zB.gh ?_;refine zC mix Try.func62 ?_
  conv=>arg 2;cbv
  refine zF rfl ?_;simp only [pwA,seval,-iQ0,h1,hlen];exact Gh.fin0 (zD H _) trivial k'
 refine sqok ?_
 by_cases hc:(F.length:Int)=c
 rotate_left
 ·simp only [pwA,seval,-iQ0,m1,m2,hlen,hc,decide_false,w0,r0]
  exact no _ (.inr (.inl ⟨hm,hc,rfl⟩))
 obtain⟨n,rfl,hn,hp,hl,hA⟩:=mx_n hm;have hsq:Sq p n F:=⟨by omega,hA⟩
 simp only [pwA,seval,-iQ0,m0,m1,m2,hlen,hc,g0];refine zDZ hp hsq hn hF (fun z u hz hu hf=>?_) fun u hu hf=>?_
 ·have z1:=hz.one
  have z2:=hz.cells;have hsz:SzL (u.map (List.drop n)):=⟨by rw [List.length_map];have:=zAa (u:=u) hp hsq.2 (by rw [hsq.1];exact hu);rw [hsq.1]at this;omega,fun r hr=>by
   obtain⟨y,hy,rfl⟩:=List.mem_map.1 hr
   have:=(hu.base.els _ hy).1
   rw [List.length_drop];omega⟩
  simp only [pwA,seval,-iQ0,m0,m1,m2,z1,z2];refine zGU hz hsz fun v hv=>?_
  obtain⟨w1,r1⟩:=res3 (a:=p) (b:=(n:Int)) hor hv.one;simp only [pwA,seval,-iQ0,w1,r1,hv.one,hv.cells];exact(hk _ (.inr (.inr ⟨n,u,hm,rfl,hn,hp,hsq,hu,.inl ⟨hf,rfl⟩⟩))).fin (hkp.set (by omega) _) hv rfl
 ·simp only [pwA,seval,-iQ0,w0,r0]
  exact no _ (.inr (.inr ⟨n,u,hm,rfl,hn,hp,hsq,hu,.inr ⟨hf,rfl⟩⟩))
theorem QK (hF:FII vF F) (sz:SzL F) (hk:∀d e:Int,(¬isMx p c F∧d=0∧e=1)∨(isMx p c F∧(F.length:Int)≠c∧d=0∧e=2)∨(isMx p c F∧(∃n:Nat,c=n∧n≤8∧isP p∧Sq p n F∧d=dt n F % p)∧e=0)→K (.tup [.int .i64 d,.int .i64 e]) σ):zB Try.prog 25 [.agg [.int .i64 p,.int .i64 c,vF]] σ K:=by
 have h1:=hF.one;have hlen:pLen vF=some (.int .i64 F.length):=by obtain⟨w,a,r,rfl,_⟩:=hF;rfl
 refine zB.gh ?_;generalize hH:σ.new [.int .i64 p,.int .i64 c,vF]=H;have hkp:Keep σ H:=by rw [←hH];exact zD σ _
 have hob:H.obj σ.next=some [.int .i64 p,.int .i64 c,vF]:=by rw [←hH];simp only [pwA,seval,-iQ0]
 have g0:H.rd σ.next 0 3=some [.int .i64 p,.int .i64 c,vF]:=by rw [qa hob];rfl
 have m1:H.rd1 σ.next 1=some (.int .i64 c):=by rw [zK hob];rfl
 have m2:H.rd1 σ.next 2=some vF:=by rw [zK hob];rfl
 refine zC mix Try.func25 ?_
 conv=>arg 2;cbv
 refine zF rfl ?_;simp only [pwA,seval,-iQ0,h1];rw [hH];simp only [pwA,seval,-iQ0,g0];refine ZM sz hF fun t ht=>?_
 cases t with
 | false=>
  simp only [pwA,seval,-iQ0];exact Gh.fin0 hkp ⟨trivial,trivial,trivial⟩ (hk _ _ (.inl ⟨fun h=>(by cases ht.2 h),rfl,rfl⟩))
 | true=>
 have hm:=ht.1 rfl
 by_cases hc:(F.length:Int)=c
 rotate_left
 ·simp only [pwA,seval,-iQ0,m1,m2,hlen,hc]
  exact Gh.fin0 hkp ⟨trivial,trivial,trivial⟩ (hk _ _ (.inr (.inl ⟨hm,hc,rfl,rfl⟩)))
 obtain⟨n,rfl,hn,hp,hl,hA⟩:=mx_n hm;have hsq:Sq p n F:=⟨by omega,hA⟩
 simp only [pwA,seval,-iQ0,m1,m2,hlen,hc,g0];refine zBW hp hsq hn hF ?_;simp only [pwA,seval,-iQ0];exact Gh.fin0 hkp ⟨trivial,trivial,trivial⟩ (hk _ _ (.inr (.inr ⟨hm,⟨n,rfl,hn,hp,hsq,rfl⟩,rfl⟩)))
theorem zB5 (hp:isP p) (hn:n≤8) (hk:∀v,FII v (idm n)→K (.tup [.agg [.int .i64 p,.int .i64 n,v],.int .i64 0]) σ):zB Try.prog 26 [.int .i64 p,.int .i64 n] σ K:=by
 refine zB.gh ?_;generalize hH:σ.new [.int .i64 0,.int .i64 0,.fz true .nils 0 []]=H;have hkp:Keep σ H:=by rw [←hH];exact zD σ _
 have hor:H.obj σ.next=some [.int .i64 0,.int .i64 0,.fz true .nils 0 []]:=by rw [←hH];simp only [pwA,seval,-iQ0]
 have hn':(n:Int)≤8:=by omega
 refine zC mix Try.func26 ?_
 conv=>arg 2;cbv
 refine zF rfl ?_;simp only [pwA,seval,-iQ0];rw [hH];refine Zp ?_;simp only [pwA,seval,-iQ0,hp];refine Qu ?_;simp only [pwA,seval,-iQ0,hn'];refine zDa hn fun v hv=>?_
 obtain⟨w1,r1⟩:=res3 (a:=p) (b:=(n:Int)) hor hv.one;simp only [pwA,seval,-iQ0,w1,r1,hv.one,hv.cells];exact Gh.fin0 (hkp.set (by omega) _) ⟨⟨trivial,trivial,hv.bel _,trivial⟩,trivial,trivial⟩ (hk v hv)
end Go.Proofs
namespace Go.Grp
end Go.Grp
namespace Go.Proofs
open Go.Ab Go.Lie Go.Grp Go.Mx
variable {σ σ0 h h' h2:PHeap} {K:PV→PHeap→Prop} {p c:Int} {n m s b:Nat} {x y bs:List Int} {A B:List (List Int)} {v v' vC:PV} {kids:List TR}
def RowT (t:TR) (x:List Int):Prop:=(∃s cap,t=TR.row s cap x)∨∃v,t=.leaf v∧FI v x
theorem qH:∀ts:List TR,TR.pvs ts=ts.map TR.pv
 | []=>rfl
 | t::ts=>by simp only [TR.pvs,List.map_cons,qH ts]
theorem zo {s:Nat}:∀{ts:List TR},s∈TR.slotss ts↔∃t∈ts,s∈t.slots
 | []=>by simp [TR.slotss]
 | t::ts=>by simp only [TR.slotss,List.mem_append,zo (ts:=ts),List.mem_cons,exists_eq_or_imp]
theorem qY:∀{ts:List TR},TR.okFs h b ts↔∀t∈ts,TR.okF h b t
 | []=>by simp [TR.okFs]
 | t::ts=>by simp [TR.okFs,qY (ts:=ts)]
theorem qG {cap:Cap}:(TR.row s cap x).okF h b↔full 1 cap x.length∧h.obj s=some (pis x)∧b≤s∧s<h.next:=by
 simp only [TR.row,TR.okF,List.length_map,TR.ints_pvs];exact⟨fun g=>g.1,fun g=>⟨g,zBy x⟩⟩
theorem RowT.move {t:TR} (r:RowT t x) (a:t.okF h b) (hn:h.next≤h'.next) (ho:∀s∈t.slots,h'.obj s=h.obj s):t.okF h' b:=by
 rcases r with ⟨s,cap,rfl⟩|⟨v,rfl,hv⟩
 ·rw [qG]at a ⊢
  obtain⟨a1,a2,a3,a4⟩:=a;exact⟨a1,by rw [ho s (by rw [TR.row_slots];simp)];exact a2,a3,by omega⟩
 ·exact hv.bel 0
theorem RowT.slot {t:TR} (r:RowT t x) (a:t.okF h b):∀s∈t.slots,b≤s∧s<h.next:=fun s hs=>by
 rcases r with ⟨s',cap,rfl⟩|⟨v,rfl,hv⟩
 ·rw [qG]at a
  rw [TR.row_slots,List.mem_singleton]at hs
  subst hs;exact a.2.2
 ·cases hs
theorem RowT.fz {t:TR} (r:RowT t x) (a:Nat→Nat):FI (t.fz a) x:=by
 rcases r with ⟨s,cap,rfl⟩|⟨v,rfl,hv⟩
 ·exact TR.row_FI
 ·exact hv
theorem RowT.one {t:TR} (r:RowT t x):t.pv.one=true∧t.pv.cells=[t.pv]∧plen t.pv=some x.length:=by
 rcases r with ⟨s,cap,rfl⟩|⟨v,rfl,hv⟩
 ·rw [TR.row_pv];exact⟨rfl,rfl,rfl⟩
 ·exact⟨hv.one,hv.cells,by obtain⟨w,a,rfl⟩:=hv;rfl⟩
theorem zFf {a:Nat→Nat}:∀ts:List TR,TR.fzs a ts=ts.map (TR.fz a)
 | []=>rfl
 | t::ts=>by simp only [TR.fzs,List.map_cons,zFf ts]
structure DR (b:Nat) (h:PHeap) (v:PV) (kids:List TR) (A:List (List Int)):Prop where
 row:All2 RowT kids A
 ok:TR.okFs h b kids
 nd:(TR.slotss kids).Nodup
 out:(kids=[]∧v=.fz true .nils 0 [])∨∃s0 cap,v=.sl s0 0 kids.length cap∧full 1 cap kids.length∧h.obj s0=some (TR.pvs kids)∧b≤s0∧s0<h.next∧s0∉TR.slotss kids
theorem DR.nil (b:Nat) (h:PHeap):DR b h (.fz true .nils 0 []) [] []:=⟨All2.nil _,trivial,List.nodup_nil,.inl ⟨rfl,rfl⟩⟩
theorem DR.len (a:DR b h v kids A):kids.length=A.length:=a.row.1
theorem DR.get (a:DR b h v kids A) {i:Nat} (hi:i<A.length):∃t,kids[i]? = some t∧RowT t A[i]∧t.okF h b:=by
 have hl:=a.len;refine⟨kids[i]'(by omega),List.getElem?_eq_getElem (by omega),a.row.2 i _ _ (List.getElem?_eq_getElem (by omega)) (List.getElem?_eq_getElem hi),qY.1 a.ok _ (List.getElem_mem _)⟩
theorem DR.slot (a:DR b h v kids A):∀s∈TR.slotss kids,b≤s∧s<h.next:=fun s hs=>by
 obtain⟨t,ht,hs⟩:=zo.1 hs;obtain⟨i,hi,rfl⟩:=List.mem_iff_getElem.1 ht;obtain⟨t',h1,h2,h3⟩:=a.get (i:=i) (by rw [←a.len];exact hi)
 rw [List.getElem?_eq_getElem hi]at h1
 cases h1;exact h2.slot h3 s hs
theorem DR.oks (a:DR b h v kids A) (hn:h.next≤h'.next) (ho:∀s∈TR.slotss kids,h'.obj s=h.obj s):TR.okFs h' b kids:=qY.2 fun t ht=>by
 obtain⟨i,hi,rfl⟩:=List.mem_iff_getElem.1 ht;obtain⟨t',h1,h2,h3⟩:=a.get (i:=i) (by rw [←a.len];exact hi)
 rw [List.getElem?_eq_getElem hi]at h1
 cases h1;exact h2.move h3 hn fun s hs=>ho s (zo.2 ⟨_,ht,hs⟩)
theorem DR.move (a:DR b h v kids A) (hn:h.next≤h'.next) (ho:∀s,b≤s→s<h.next→h'.obj s=h.obj s):DR b h' v kids A:=by
 refine⟨a.row,a.oks hn fun s hs=>ho s (a.slot s hs).1 (a.slot s hs).2,a.nd,?_⟩
 rcases a.out with e|⟨s0,cap,h1,h2,h3,h4,h5,h6⟩
 ·exact .inl e
 ·exact .inr ⟨s0,cap,h1,h2,by rw [ho s0 h4 h5];exact h3,h4,by omega,h6⟩
theorem DR.keep (a:DR b h v kids A) (k:Keep h h'):DR b h' v kids A:=a.move k.next fun s _ hs=>k.obj s hs
theorem DR.mv (a:DR b h v kids A) (hs:s<b) (k:Mv h s h'):DR b h' v kids A:=a.move (by rw [k.next];exact Nat.le_refl _) fun t ht _=>k.obj (by omega)
theorem DR.km (a:DR b h v kids A) (hs:s<b) (k:KM h s h'):DR b h' v kids A:=a.move k.next fun t ht h1=>k.obj h1 (by omega)
theorem DR.one (a:DR b h v kids A):v.one=true∧v.cells=[v]∧pLen v=some (.int .i64 A.length):=by
 rw [←a.len];rcases a.out with ⟨rfl,rfl⟩|⟨s0,cap,rfl,_⟩<;>exact⟨rfl,rfl,rfl⟩
theorem DR.acc (a:DR b h v kids A):PAcc b 1 h v kids.length (TR.pvs kids):=by
 rcases a.out with ⟨rfl,rfl⟩|⟨s0,cap,rfl,h2,h3,h4,h5,h6⟩
 ·exact PAcc.nil _ _ _
 ·exact .inr ⟨s0,cap,rfl,h2,h3,by rw [qH];simp,h4,h5⟩
theorem zF5 (a b:List TR):TR.pvs (a++b)=TR.pvs a++TR.pvs b:=by rw [qH,qH,qH,List.map_append]
theorem QG:∀a b:List TR,TR.slotss (a++b)=TR.slotss a++TR.slotss b
 | [],b=>rfl
 | t::a,b=>by simp only [List.cons_append,TR.slotss,QG a b,List.append_assoc]
theorem DR.fresh (a:DR b h v kids A) {s:Nat} (hs:h.next≤s):s∉TR.slotss kids∧∀off l c,v≠.sl s off l c:=by
 refine⟨fun hm=>by have:=(a.slot s hm).2;omega,fun off l c e=>?_⟩
 rcases a.out with ⟨_,rfl⟩|⟨s0,cap,rfl,h2,h3,h4,h5,h6⟩
 ·cases e
 ·simp only [PV.sl.injEq]at e
  omega
theorem DR.below (a:DR b h v kids A) {s:Nat} (hs:s<b):∀off l c,v≠.sl s off l c:=fun off l c e=>by
 rcases a.out with ⟨_,rfl⟩|⟨s0,cap,rfl,h2,h3,h4,h5,h6⟩
 ·cases e
 ·simp only [PV.sl.injEq]at e
  omega
theorem DR.push {σb:PHeap} {Kp:PV×PHeap→Prop} {t:TR} (a:DR b h v kids A) (hk:Keep σb h) (hb1:σb.next≤b) (hb2:b≤h.next) (r:RowT t x) (ht:t.okF h b) (hf:∀s∈t.slots,s∉TR.slotss kids∧∀off l c,v≠.sl s off l c) (hb:A.length≤1000)
  (k:∀v' h2,DR b h2 v' (kids++[t]) (A++[x])→Keep σb h2→(∀s,s<h.next→(∀off l c,v≠.sl s off l c)→h2.obj s=h.obj s)→(∀s,s<h.next→∀off l c,v'≠.sl s off l c)→h.next<h2.next→Kp (v',h2)):optK (qB 1 24 (h.new [t.pv]) v (.sl h.next 0 1 (.known 1))) Kp:=by
 have hl:=a.len;refine PAcc.pushS (σb:=σb) (bytes:=24) hk (a.acc.low hb1) rfl (by omega) (by omega) fun v' h2 k2 a2 o2 n2 l2=>?_
 have vne:∀s∈TR.slotss kids++t.slots,∀off l c,v≠.sl s off l c:=fun s hs off l c e=>by
  rcases List.mem_append.1 hs with hs|hs
  ·rcases a.out with ⟨_,rfl⟩ | ⟨s0,cap,rfl,h2,h3,h4,h5,h6⟩
   ·cases e
   ·simp only [PV.sl.injEq]at e
    exact h6 (e.1 ▸ hs)
  ·exact(hf s hs).2 off l c e
 have hslt:∀s∈TR.slotss kids++t.slots,s<h.next:=fun s hs=>by
  rcases List.mem_append.1 hs with hs|hs
  ·exact(a.slot s hs).2
  ·exact(r.slot ht s hs).2
 have hsl:TR.slotss (kids++[t])=TR.slotss kids++t.slots:=by rw [QG];simp [TR.slotss]
 refine k v' h2 ⟨a.row.snoc r,qY.2 fun u hu=>?_,?_,.inr ?_⟩ k2 o2 n2 l2
 ·rcases List.mem_append.1 hu with hu | hu
  ·exact qY.1 (a.oks (h':=h2) (by omega) fun s hs=>o2 s (hslt s (List.mem_append_left _ hs)) (vne s (List.mem_append_left _ hs))) u hu
  ·rw [List.mem_singleton.1 hu]
   exact r.move ht (by omega) fun s hs=>o2 s (hslt s (List.mem_append_right _ hs)) (vne s (List.mem_append_right _ hs))
 ·rw [hsl,List.nodup_append]
  refine⟨a.nd,?_,fun s hs s' hs' e=>(hf s' hs').1 (e ▸ hs)⟩
  rcases r with ⟨s,cap,rfl⟩|⟨v,rfl,hv⟩
  ·rw [TR.row_slots];simp
  ·exact List.nodup_nil
 ·obtain⟨s0,cap,rfl,q1,q2,q3,q4,q5⟩:=a2
  refine⟨s0,cap,by rw [List.length_append];rfl,by rw [List.length_append];exact q1,by rw [q2,zF5];rfl,?_,q5,fun hs=>?_⟩
  ·rcases Nat.lt_or_ge s0 h.next with g | g
   ·exact absurd rfl (n2 s0 g 0 _ cap)
   ·omega
  rw [hsl]at hs
  exact n2 s0 (hslt s0 hs) 0 _ cap rfl
theorem DR.put {t:TR} (a:DR b h v kids A) {i:Nat} (hi:i<A.length) (r:RowT t y) (ht:t.okF h b) (hf:∀s∈t.slots,s∉TR.slotss kids) (hv:∀s∈t.slots,∀off l c,v≠.sl s off l c):
  ∃s0 cap h2,v=.sl s0 0 A.length cap∧h.wr s0 i [t.pv]=some h2∧DR b h2 v (kids.set i t) (A.set i y)∧h2.next=h.next∧∀s,s≠s0→h2.obj s=h.obj s:=by
 have hl:=a.len;have hik:i<kids.length:=by omega
 rcases a.out with ⟨rfl,_⟩|⟨s0,cap,rfl,h2,h3,h4,h5,h6⟩
 ·simp at hik
 have hne:∀s∈TR.slotss (kids.set i t),s∈TR.slotss kids∨s∈t.slots:=fun s hs=>by
  obtain⟨u,hu,hs⟩:=zo.1 hs;rcases List.mem_or_eq_of_mem_set hu with e|e
  ·exact .inl (zo.2 ⟨u,e,hs⟩)
  ·exact .inr (e ▸ hs)
 have hpv:TR.pvs (kids.set i t)=(TR.pvs kids).set i t.pv:=by rw [qH,qH,List.map_set]
 refine⟨s0,cap,h.set s0 ((TR.pvs kids).set i t.pv),by rw [hl],qz h3 (by rw [qH];simpa using hik) r.one.1,⟨?_,qY.2 fun u hu=>?_,?_,.inr ⟨s0,cap,by rw [List.length_set],by rw [List.length_set];exact h2,by rw [zJ,if_pos rfl,hpv],h4,h5,fun hs=>?_⟩⟩,rfl,fun s hs=>by rw [zJ,if_neg hs]⟩
 ·refine⟨by rw [List.length_set,List.length_set];exact a.row.1,fun j x y' hx hy=>?_⟩
  rw [List.getElem?_set]at hx hy
  by_cases e:i=j
  ·subst e
   rw [if_pos rfl,if_pos hik]at hx
   rw [if_pos rfl,if_pos hi]at hy
   cases hx;cases hy;exact r
  ·rw [if_neg e]at hx hy
   exact a.row.2 j x y' hx hy
 ·rcases List.mem_or_eq_of_mem_set hu with e | e
  ·exact qY.1 (a.oks (h':=h.set s0 ((TR.pvs kids).set i t.pv)) (Nat.le_refl _) fun s hs=>by rw [zJ,if_neg fun e:s=s0=>h6 (e ▸ hs)]) u e
  ·rw [e]
   exact r.move ht (Nat.le_refl _) fun s hs=>by rw [zJ,if_neg fun e:s=s0=>hv s hs 0 kids.length cap (by rw [e])]
 ·-- the other rows' slots stay apart
  have nd:=a.nd;clear hne hpv hv h6 h3 h2 h5 a
  induction kids generalizing i A with
  | nil=>simp at hik
  | cons u us ih=>
   cases i with
   | zero=>
    simp only [List.set_cons_zero,TR.slotss]at nd ⊢
    rw [List.nodup_append]at nd ⊢
    refine⟨?_,nd.2.1,fun s hs s' hs' e=>hf s hs (by rw [TR.slotss,List.mem_append];exact .inr (e ▸ hs'))⟩
    rcases r with ⟨s,cap,rfl⟩|⟨v,rfl,hv⟩
    ·rw [TR.row_slots];simp
    ·exact List.nodup_nil
   | succ i=>
    simp only [List.set_cons_succ,TR.slotss]at nd ⊢
    rw [List.nodup_append]at nd ⊢
    have hsub:∀s∈t.slots,s∉TR.slotss us:=fun s hs hm=>hf s hs (by rw [TR.slotss,List.mem_append];exact .inr hm)
    refine⟨nd.1,ih (i:=i) (A:=A.tail) (by simp at hi ⊢;omega) hsub (by simp at hl ⊢;omega) (by simp at hik;omega) nd.2.1,fun s hs s' hs' e=>?_⟩
    obtain⟨w,hw,hs'⟩:=zo.1 hs';rcases List.mem_or_eq_of_mem_set hw with e2|e2
    ·exact nd.2.2 s hs s' (zo.2 ⟨w,e2,hs'⟩) e
    ·rw [e2]at hs'
     exact hf s' hs' (by rw [TR.slotss,List.mem_append];exact .inl (e ▸ hs))
 ·rcases hne s0 hs with e | e
  ·exact h6 e
  ·exact hv s0 e 0 kids.length cap rfl
theorem DR.fin (a:DR b h v kids A) (hk:Keep σ h) (hb:σ.next≤b) (k:∀z,FII z A→K (.agg [.int .i64 p,.int .i64 c,z]) σ):Gh σ K (.agg [.int .i64 p,.int .i64 c,v]) h:=by
 have hl:=a.len;have a2:∀aa,All2 FI (TR.fzs aa kids) A:=fun aa=>⟨by rw [TR.fzs_length];exact hl,fun j x y hx hy=>by
  rw [zFf,List.getElem?_map]at hx
  obtain⟨t,ht,rfl⟩:=Option.map_eq_some_iff.1 hx;exact(a.row.2 j t y ht hy).fz aa⟩
 have low:TR.okFs h σ.next kids:=qY.2 fun t ht=>by
  obtain⟨i,hi,rfl⟩:=List.mem_iff_getElem.1 ht;obtain⟨t',h1,h2,h3⟩:=a.get (i:=i) (by rw [←a.len];exact hi)
  rw [List.getElem?_eq_getElem hi]at h1
  cases h1;rcases h2 with ⟨s,cap,e⟩|⟨v,e,hv⟩
  ·rw [e,qG]at h3
   rw [e,qG];exact⟨h3.1,h3.2.1,by omega,h3.2.2.2⟩
  ·rw [e];exact hv.bel 0
 rcases a.out with ⟨rfl,rfl⟩|⟨s0,cap,rfl,h2,h3,h4,h5,h6⟩
 ·have:A=[]:=List.eq_nil_of_length_eq_zero (by rw [←hl];rfl)
  subst this;exact Gh.fin0 hk ⟨trivial,trivial,trivial,trivial⟩ (k _ ⟨true,.nils,[],rfl,All2.nil _⟩)
 ·have et:(TR.agg [.leaf (.int .i64 p),.leaf (.int .i64 c),.lst s0 cap kids]).pv=.agg [.int .i64 p,.int .i64 c,.sl s0 0 kids.length cap]:=rfl
  rw [←et];exact Gh.treeF hk ⟨trivial,trivial,⟨⟨h2,h3,by omega,h5⟩,low⟩,trivial⟩ fun aa=>k _ ⟨true,.sl (aa s0) 0 kids.length cap,TR.fzs aa kids,by rw [←hl];rfl,a2 aa⟩
end Go.Proofs
namespace Go.Grp
end Go.Grp
namespace Go.Proofs
open Go.Ab Go.Lie Go.Grp Go.Mx
variable {σ σ0 h h' h2:PHeap} {K:PV→PHeap→Prop} {p c:Int} {n m s t b:Nat} {x y v w bs xs:List Int} {A B:List (List Int)} {vC:PV} {kids:List TR}
theorem So.back {σ':PHeap} (q:Keep σ' h) (so:So h s vC bs) (hs:s<σ'.next):So σ' s vC bs:=by
 obtain⟨a,sd,S⟩:=so;exact⟨a,sd,by rw [←q.obj s hs];exact S.obj,hs,S.fb,S.byt,S.le,S.sd⟩
theorem KM.so (km:KM σ s h) (so:So h s vC bs) (hs:s<σ.next):∃σ',Mv σ s σ'∧So σ' s vC bs∧Keep σ' h∧σ'.next=σ.next:=by
 obtain⟨σ',m,q⟩:=km;exact⟨σ',m,so.back q (by rw [m.next];exact hs),q,m.next⟩
theorem PSl.mv {e n:Nat} {v:PV} {cs:List PV} (a:PSl b e h v n cs) (hs:s<b) (m:Mv h s h'):PSl b e h' v n cs:=by
 obtain⟨t,cap,rfl,h1,h2,h3,h4,h5⟩:=a;exact⟨t,cap,rfl,h1,by rw [m.obj (by omega)];exact h2,h3,h4,by rw [m.next];exact h5⟩
theorem Zd {cap:Cap} (so:So σ s vC bs) (hst:s≠t) (ho:σ.obj t=some (pis xs)) (hn:0<xs.length∧xs.length≤1000) (hk:∀x h,x∈xs→Mv σ s h→So h s vC bs→K (.int .i64 x) h):zB Try.prog 85 [.ptr s 0,.sl t 0 xs.length cap] σ K:=by
 refine zC mix Try.func85 ?_
 conv=>arg 2;cbv
 refine zF rfl ?_;simp only [pwA,seval,-iQ0];refine qO so (by omega) fun x h hx m so1=>?_
 obtain⟨i,rfl⟩:∃i:Nat,x=(i:Int):=⟨x.toNat,by have:=hx.1;omega⟩
 have hlt:i<xs.length:=by have:=hx.lt (by omega);omega
 have r1:h.rd1 t i=some (.int .i64 xs[i]):=by rw [zK (by rw [m.obj (Ne.symm hst)];exact ho),zU,gi hlt];rfl
 simp only [pwA,seval,-iQ0,hlt,r1];exact hk _ h (List.getElem_mem hlt) m so1
theorem zAE (so:So σ s vC bs) (hk:∀p h,isP p→KM σ s h→So h s vC bs→K (.int .i64 p) h):zB Try.prog 84 [.ptr s 0] σ K:=by
 have hs:=so.lt;refine zC mix Try.func84 ?_
 conv=>arg 2;cbv
 refine zF rfl ?_;simp only [pwA,seval,-iQ0];refine Zd (xs:=[2,2,3,3,5,7]) (so.keep (zD _ _)) (by omega) (by rw [zL,if_pos rfl];rfl) (by decide) fun x h hx m so1=>?_
 simp only [pwA,seval,-iQ0];exact hk x h (by unfold isP;simp at hx;omega) ((so.kmK (zD _ _)).mv hs m) so1
theorem zJO {i:Nat} (hx:Ve p i x) {a:Int} (ha:0≤a∧a<p):Ve p (i+1) (x++[a]):=⟨by rw [List.length_append,hx.len];rfl,fun j=>by
 rw [Zn]
 split
 ·exact hx.bd j
 ·by_cases h:j-x.length=0
  ·rw [h];exact ha
  ·rw [at_ge (by simp;omega)];omega⟩
theorem zCW (so:So σ s vC bs) (hp:1≤p∧p≤1000) (hn:n≤1000) (hk:∀t cap x h,KM σ s h→So h s vC bs→σ.next≤t→t<h.next→h.obj t=some (pis x)→full 1 cap n→Ve p n x→K (.sl t 0 n cap) h):zB Try.prog 75 [.ptr s 0,.int .i64 p,.int .i64 n] σ K:=by
 have hs:=so.lt;refine zC mix Try.func75 ?_
 conv=>arg 2;cbv
 refine zF rfl ?_;simp only [pwA,seval,-iQ0];refine zM (fun k us h=>∃(i:Nat) (vR:PV) (x:List Int),i≤n∧k=n-i∧us=[.ptr s 0,.int .i64 p,.int .i64 n,vR,.int .i64 i]∧KM σ s h∧So h s vC bs∧PSl σ.next 1 h vR i (pis x)∧Ve p i x) n ?_ ?_
 ·exact⟨0,_,[],by omega,by omega,rfl,so.kmK (zD _ _),so.keep (zD _ _),PSl.new _ 1 rfl (Nat.le_refl _),⟨rfl,fun j=>by rw [at_ge (by simp)];omega⟩⟩
 rintro k us h ⟨i,vR,x,hi,rfl,rfl,km,so1,ps,hx⟩
 simp only [pwA,seval,-iQ0];refine iteI (fun hlt=>?_) fun hge=>?_
 rotate_left
 ·have hie:i=n:=by omega
  subst hie;obtain⟨t,cap,rfl,h1,h2,h3,h4,h5⟩:=ps;exact hk t cap x h km so1 h4 h5 h2 h1 hx
 refine qO so1 (by omega) fun a h1 ha m1 so2=>?_
 obtain⟨σ',m,so3,q,hn'⟩:=(km.mv hs m1).so so2 hs;simp only [pwA,seval,-iQ0];refine PSl.push (σb:=σ') (bytes:=8) q (by rw [hn'];exact PSl.mv ps hs m1) (by omega) (by omega) fun v' h3 k3 a3=>?_
 simp only [pwA,seval,-iQ0,wrapS hlt (by omega:n≤4611686018427387904)]
 refine⟨_,by omega,i+1,v',x++[a],by omega,rfl,rfl,⟨σ',m,k3⟩,so3.keep k3,?_,zJO hx ⟨ha.1,ha.lt hp.1⟩⟩
 rw [hn',show [PV.int .i64 a]=pis [a] from rfl,QN]at a3
 exact a3
theorem zDF {cap:Cap} (ho:σ.obj s=some (pis xs)) (hs:s<σ.next) (hb:xs.length≤1048576) (hk:∀cap,full 1 cap xs.length→K (.sl σ.next 0 xs.length cap) (σ.new (pis xs))):zB Try.prog 86 [.sl s 0 xs.length cap] σ K:=by
 refine zB.gh ?_;have hne:¬s=σ.next:=Nat.ne_of_lt hs;refine zC mix Try.func86 ?_
 conv=>arg 2;cbv
 refine zF rfl ?_;simp only [pwA,seval,-iQ0];refine PSl.app (b:=0) (news:=pis xs) (m:=xs.length) (zD σ _) (Nat.zero_le _) (PSl.new _ 1 rfl (Nat.le_refl _)) rfl (fun h0=>?_) (by rw [zN,Nat.mul_one]) (by omega) (by omega) fun v' h' k1 k2=>?_
 ·rw [Qr]
  simp only [h0,if_false,Nat.le_refl,if_true,Nat.mul_one,zBE,hne];rw [qa ho,if_pos (by rw [zN];omega),List.drop_zero,List.take_of_length_le (by rw [zN];exact Nat.le_refl _)]
 ·simp only [pwA,seval,-iQ0]at k2 ⊢
  exact k2.out k1 (zq _ _) hk
theorem zFI {cap:Cap} (hp:2≤p∧p≤7) (hc:-7≤c∧c≤7) (hx:Ve p n x) (hn:n≤1000) (ho:σ.obj s=some (pis x)) (hs:s<σ.next) (hk:∀cap,full 1 cap n→K (.sl σ.next 0 n cap) (σ.new (pis (scl p c x)))):zB Try.prog 87 [.int .i64 p,.int .i64 c,.sl s 0 n cap] σ K:=by
 have hxl:=hx.len;have hsl:(scl p c x).length=n:=by rw [qR];exact hxl
 refine zB.gh ?_;refine zC mix Try.func87 ?_
 conv=>arg 2;cbv
 refine zF rfl ?_;simp only [pwA,seval,-iQ0,List.length_replicate,Zv,mk8 (n:=n) (by omega),mkL (n:=n) (by omega)]
 -- the sum with zeros
 refine zC mix Try.func95 ?_
 conv=>arg 2;cbv
 refine zF rfl ?_;simp only [pwA,seval,-iQ0];have hz:(σ.new (pis (List.replicate n 0))).obj σ.next=some (pis (List.replicate n 0)):=by rw [zL,if_pos rfl]
 have e0:(List.replicate n (0:Int)).length=n:=by simp
 have own:=fun(K':PV→PHeap→Prop) (k':∀cap,full 1 cap n→K' (.sl (σ.next+1) 0 n cap) ((σ.new (pis (List.replicate n 0))).new (pis (List.replicate n 0))))=>by
  have:=zDF (K:=K') (cap:=.known n) hz (by show σ.next<σ.next+1;omega) (by rw [e0];omega) (by rw [e0];exact k')
  rwa [e0]at this
 refine own _ fun cap2 hcap2=>?_
 have ho2:((σ.new (pis (List.replicate n 0))).new (pis (List.replicate n 0))).obj s=some (pis x):=by rw [zL,if_neg (by show ¬s=σ.next+1;omega),zL,if_neg (by omega)];exact ho
 generalize hH:σ.new (pis (List.replicate n 0))=H at *
 have hHn:H.next=σ.next+1:=by rw [←hH];rfl
 have hHk:Keep σ H:=by rw [←hH];exact zD σ _
 have hvs:(List.replicate n (0:Int)).length=(scl p c x).length:=by rw [hsl,e0]
 simp only [pwA,seval,-iQ0];refine zM (fun k us h'=>∃i:Nat,i≤n∧k=n-i∧us=[.int .i64 p,.int .i64 c,.sl s 0 n cap,.sl (σ.next+1) 0 n cap2,.int .i64 i]∧h'=H.new (pis ((scl p c x).take i++(List.replicate n 0).drop i))) n ?_ ?_
 ·exact⟨0,by omega,by omega,rfl,by rw [List.take_zero,List.drop_zero,List.nil_append]⟩
 rintro k us h' ⟨i,hi,rfl,rfl,rfl⟩
 by_cases hlt:i<n
 rotate_left
 ·have hie:i=n:=by omega
  subst hie;simp only [pwA,seval,-iQ0,Nat.lt_irrefl];rw [List.drop_of_length_le (by rw [e0];exact Nat.le_refl _),List.append_nil,List.take_of_length_le (by omega)]
  rw [←hHn];exact(PSl.own (b:=σ.next) (e:=1) hcap2 (by rw [zL,if_pos rfl]) (by rw [zN,hsl];omega) (by omega) (Nat.lt_succ_self _)).out (hHk.new _) (zq _ _) hk
 have hlx:i<x.length:=by omega
 have hl0:i<(List.replicate n (0:Int)).length:=by rw [e0];exact hlt
 have hlen:i+1≤((scl p c x).take i++(List.replicate n 0).drop i).length:=by simp;omega
 have e1:=zBA hvs.symm hl0;rw [List.getElem_replicate]at e1
 have hxb:=hx.bd i;rw [at_eq hlx]at hxb
 have hb:=sm7 (a:=c) (b:=x[i]) hc (by omega)
 have ew1:IntKind.i64.wrap (c*x[i])=c*x[i]:=wrap64 (by omega) (by omega)
 have ew2:IntKind.i64.wrap (0+c*x[i])=c*x[i]:=by rw [Int.zero_add];exact ew1
 have r1:(H.new (pis ((scl p c x).take i++(List.replicate n 0).drop i))).rd1 s i=some (.int .i64 x[i]):=by
  rw [zK (cs:=pis x) (by rw [zL,if_neg (by omega)];rw [zL,if_neg (by omega)]at ho2;exact ho2),zU,gi hlx];rfl
 have r2:(H.new (pis ((scl p c x).take i++(List.replicate n 0).drop i))).rd1 (σ.next+1) i=some (.int .i64 0):=by
  rw [zK (cs:=pis ((scl p c x).take i++(List.replicate n 0).drop i)) (by rw [zL,if_pos hHn.symm]),zU,e1];rfl
 have hw:(H.new (pis ((scl p c x).take i++(List.replicate n 0).drop i))).wr (σ.next+1) i [.int .i64 (c*x[i] % p)]=some (H.new (pis ((scl p c x).take (i+1)++(List.replicate n 0).drop (i+1)))):=by
  have hiv:i<(scl p c x).length:=by omega
  rw [qz (cs:=pis ((scl p c x).take i++(List.replicate n 0).drop i)) (by rw [zL,if_pos hHn.symm]) (by rw [zN];omega) rfl,zBF,←hHn,zAe]
  congr 2
  rw [←zAB hvs.symm hiv]
  congr 1
  simp [scl,Int.mul_comm]
 generalize H.new (pis ((scl p c x).take i++(List.replicate n 0).drop i))=H1 at *
 simp only [pwA,seval,-iQ0,hlt,r1,r2,ew1,ew2];refine zAr (by omega) (by omega) ?_
 simp only [pwA,seval,-iQ0,hlt,hw,wrapS hlt (by omega:n≤4611686018427387904)]
 exact⟨_,by omega,i+1,by omega,rfl,rfl,rfl⟩
end Go.Proofs
