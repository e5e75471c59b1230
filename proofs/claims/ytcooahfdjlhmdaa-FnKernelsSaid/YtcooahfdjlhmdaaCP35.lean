/- Drawn primes, vectors and rows. -/
import Derived.Test.YtcooahfdjlhmdaaCP28
import Derived.Test.YtcooahfdjlhmdaaCP26
import Derived.Test.YtcooahfdjlhmdaaCAbPz
import Derived.Test.YtcooahfdjlhmdaaCAbPa
import Derived.Test.YtcooahfdjlhmdaaCP30
import Derived.Test.YtcooahfdjlhmdaaCAbPh
import Derived.Test.YtcooahfdjlhmdaaCAbPm
open Int renaming reduceNatCast'→iQ0
set_option maxRecDepth 100000
namespace Go.Grp
end Go.Grp
set_option linter.unusedSimpArgs false
set_option linter.unusedVariables false
namespace Go.Proofs
open Go.Ab Go.Lie Go.Grp Go.Mx
variable {σ:PHeap} {K:PV→PHeap→Prop} {p:Int} {n:Nat} {v w xs ys:List Int} {A M:List (List Int)} {vA vM vv v0:PV}
theorem QS {α:Type} {a b:List α} {i:Nat} (hl:a.length=b.length) (hi:i<a.length):(a.take i++b.drop i).set i a[i]=a.take (i+1)++b.drop (i+1):=by
 have h1:(a.take i).length=i:=by rw [List.length_take];omega
 rw [List.set_append_right _ _ (by omega),h1,Nat.sub_self,List.drop_eq_getElem_cons (by omega:i<b.length),List.set_cons_zero,List.take_succ_eq_append_getElem hi,List.append_assoc]
 rfl
theorem zA3 {α:Type} {a b:List α} {i:Nat} (hl:a.length=b.length) (hi:i<b.length):(a.take i++b.drop i)[i]? = some b[i]:=by
 have h1:(a.take i).length=i:=by rw [List.length_take];omega
 rw [List.getElem?_append_right (by omega),h1,List.getElem?_drop,Nat.sub_self,Nat.add_zero,List.getElem?_eq_getElem hi]
theorem zBt {x:Int} {r out:List Int} (h:r.length=out.length) {j:Nat} (hj:j<out.length):(vstep p x r out)[j]'(by rw [zX h];exact hj)=(out[j] + x*r[j]) % p:=by
 simp [vstep]
def sm9 (x:Int):Prop:=-1000000000≤x∧x≤1000000000
theorem zCo {s s' l l':Nat} {cap cap':Cap} {k:Int} (hp:0<p∧p≤1000) (hs:σ.obj s=some (pis xs)) (hs':σ.obj s'=some (pis ys)) (hne:s'≠s) (hl:l=xs.length) (hl':l'=ys.length) (hle:ys.length=xs.length) (hb:xs.length≤1048576)
  (hsm:∀i (h1:i<xs.length) (h2:i<ys.length),sm9 (k*ys[i])∧sm9 (xs[i])) (hk:K (.tup []) (σ.set s (pis (vstep p k ys xs)))):
  zB Try.prog 106 [.sl s 0 l cap,.sl s' 0 l' cap',.int .i64 k,.int .i64 p] σ K:=by
 subst hl;subst hl';have hvl:=zX (p:=p) (x:=k) hle;have er:∀t,σ.rd1 s' t=(pis ys)[t]?:=fun t=>zG hs' t
 refine zC mix Try.func106 ?_
 conv=>arg 2;cbv
 refine zD rfl ?_;simp only [pwA,seval,-iQ0];refine zM (fun m vs h'=>∃i:Nat,i≤xs.length∧m=xs.length-i∧vs=[.sl s 0 xs.length cap,.sl s' 0 ys.length cap',.int .i64 k,.int .i64 p,.int .i64 xs.length,.int .i64 i]∧h'=σ.set s (pis ((vstep p k ys xs).take i++xs.drop i))) xs.length ?_ ?_
 ·exact⟨0,by omega,by omega,rfl,by rw [List.take_zero,List.drop_zero,List.nil_append,Zz hs]⟩
 rintro m vs h' ⟨i,hi,rfl,rfl,rfl⟩
 simp only [pwA,seval,-iQ0];refine iteI (fun hlt=>?_) fun hge=>?_
 rotate_left
 ·have:i=xs.length:=by omega
  subst this;rw [List.drop_length,List.append_nil,List.take_of_length_le (by omega)]
  exact hk
 have hlt2:i<ys.length:=by omega
 have e1:=zA3 hvl hlt;obtain⟨b1,b2⟩:=hsm i hlt hlt2;unfold sm9 at b1 b2
 have hlen:i+1≤((vstep p k ys xs).take i++xs.drop i).length:=by simp;omega
 have ew1:IntKind.i64.wrap (k*ys[i])=k*ys[i]:=wrap64 (by omega) (by omega)
 have ew2:IntKind.i64.wrap (xs[i] + k*ys[i])=xs[i] + k*ys[i]:=wrap64 (by omega) (by omega)
 simp only [pwA,seval,-iQ0,hlt,hlt2,zQ,zJ,gi hlt2,e1,hlen,ew1,ew2,hne,er];refine QL hp.1 (by omega) ?_
 simp only [pwA,seval,-iQ0,hlt,hlen,zJ,wrapS hlt (by omega:xs.length≤4611686018427387904)]
 refine⟨_,by omega,i+1,by omega,rfl,rfl,?_⟩
 rw [ZO (by simp;omega)]
 have hiv:i<(vstep p k ys xs).length:=by omega
 rw [←QS hvl hiv,zBt hle hlt]
end Go.Proofs
namespace Go.Grp
end Go.Grp
namespace Go.Proofs
open Go.Ab Go.Lie Go.Grp Go.Mx
variable {σ:PHeap} {K:PV→PHeap→Prop} {p:Int} {n:Nat} {v w x xs ys:List Int} {A M L u:List (List Int)} {vA vM vv vw vx vu v0:PV}
theorem sm7 {a b:Int} (ha:-7≤a∧a≤7) (hb:0≤b∧b≤7):-49≤a*b∧a*b≤49:=by
 have h1:=Int.mul_le_mul_of_nonneg_right ha.1 hb.1;have h2:=Int.mul_le_mul_of_nonneg_right ha.2 hb.1;omega
theorem zBi {c:Int} (hp:2≤p∧p≤7) (hc:-7≤c∧c≤7) (hv:Ve p n v) (hw:Ve p n w) (hn:n≤1048576) (hvv:FI vv v) (hvw:FI vw w) (hk:∀z,FI z (vstep p c w v)→K z σ):
  zB Try.prog 95 [.int .i64 p,vv,.int .i64 c,vw] σ K:=by
 have hvl:=hv.len;have hwl:=hw.len;have hln:(vstep p c w v).length=v.length:=zX (by omega)
 obtain⟨wv,av,rfl⟩:=hvv;obtain⟨ww,aw,rfl⟩:=hvw;refine zB.gh ?_;refine zC mix Try.func95 ?_
 conv=>arg 2;cbv
 refine zD rfl ?_;simp only [pwA,seval,-iQ0];refine Zf rfl (by omega) fun cap hcap=>?_
 simp only [pwA,seval,-iQ0];refine zM (fun m vs h'=>∃i:Nat,i≤v.length∧m=v.length-i∧vs=[.int .i64 p,.int .i64 c,.fz ww aw w.length (pis w),.sl σ.next 0 v.length cap,.int .i64 i]∧h'=σ.new (pis ((vstep p c w v).take i++v.drop i))) v.length ?_ ?_
 ·exact⟨0,by omega,by omega,rfl,by rw [List.take_zero,List.drop_zero,List.nil_append]⟩
 rintro m vs h' ⟨i,hi,rfl,rfl,rfl⟩
 by_cases hlt:i<v.length
 rotate_left
 ·have hie:i=v.length:=by omega
  subst hie;have e0:(vstep p c w v).take v.length++v.drop v.length=vstep p c w v:=by rw [List.drop_length,List.append_nil,List.take_of_length_le (by omega)]
  rw [e0];simp only [pwA,seval,-iQ0,Nat.lt_irrefl];exact Gh.finF (s:=σ.next) (zF σ _) (by simp only [pwA,seval,-iQ0];rfl) (Nat.le_refl _) (zi _ _) hcap.ok fun o=>hk _ ⟨true,.sl o 0 v.length cap,by rw [hln]⟩
 have hlt2:i<w.length:=by omega
 have e1:=zA3 hln hlt;have c1:=hw.bd i;have c2:=hv.bd i;rw [at_eq hlt2]at c1
 rw [at_eq hlt]at c2
 have hlen:i+1≤((vstep p c w v).take i++v.drop i).length:=by simp;omega
 have hb:=sm7 (a:=c) (b:=w[i]) hc (by omega)
 have ew1:IntKind.i64.wrap (c*w[i])=c*w[i]:=wrap64 (by omega) (by omega)
 have ew2:IntKind.i64.wrap (v[i] + c*w[i])=v[i] + c*w[i]:=wrap64 (by omega) (by omega)
 simp only [pwA,seval,-iQ0,hlt,hlt2,zQ,zJ,gi hlt2,e1,hlen,ew1,ew2];refine zAo (by omega) (by omega) ?_
 simp only [pwA,seval,-iQ0,hlt,hlen,zJ,wrapS hlt (by omega:v.length≤4611686018427387904)]
 refine⟨_,by omega,i+1,by omega,rfl,rfl,?_⟩
 rw [ZO (by simp;omega)]
 have hiv:i<(vstep p c w v).length:=by omega
 have hget:(vstep p c w v)[i]=(v[i] + c*w[i]) % p:=zBt (by omega) hlt
 rw [←QS hln hiv,hget]
theorem zFf {c:Int} {v:List Int}:vstep p c v (List.replicate v.length 0)=scl p c v:=by
 refine Qg (by rw [zX (by simp),zg];simp) fun j hj=>?_
 rw [zX (by simp),List.length_replicate]at hj
 rw [qi (by simp) (by simpa using hj),qf,zAK,Int.zero_add,Int.mul_comm]
theorem Qx {c:Int} (hp:2≤p∧p≤7) (hc:-7≤c∧c≤7) (hv:Ve p n v) (hn:n≤1048576) (hvv:FI vv v) (hk:∀z,FI z (scl p c v)→K z σ):
  zB Try.prog 87 [.int .i64 p,.int .i64 c,vv] σ K:=by
 have hvl:=hv.len;have hvv0:=hvv;obtain⟨wv,av,rfl⟩:=hvv;refine zB.gh ?_;refine zC mix Try.func87 ?_
 conv=>arg 2;cbv
 refine zD rfl ?_;simp only [pwA,seval,-iQ0,List.length_replicate,ZP,mk8 (n:=v.length) (by omega),mkL (n:=v.length) (by omega)]
 refine zB.frz (s:=σ.next) (cs:=pis (List.replicate v.length 0)) (by simp only [pwA,seval,-iQ0]) (zi _ _) fun o=>?_
 simp only [sbs,sb,capOK,and_self,if_true,decide_true,Nat.le_refl];refine zBi hp hc (n:=v.length) (v:=List.replicate v.length 0) (w:=v) (zHv (by omega)) (by rw [hvl];exact hv) (by omega) ⟨true,_,by rw [List.length_replicate]⟩ hvv0 fun z hz=>?_
 simp only [pwA,seval,-iQ0];rw [zFf]at hz
 refine Gh.fin0 ?_ (hz.bel _) (hk z hz);exact(zF σ _).kill (Nat.le_refl _)
theorem Zn {l:Nat} {w:Bool} {a:AV} {xs:List Int} (hl:l=xs.length) (hb:xs.length≤1048576) (hk:K (.int .i64 (dep xs)) σ):zB Try.prog 93 [.fz w a l (pis xs)] σ K:=by
 subst hl;refine zC mix Try.func93 ?_
 conv=>arg 2;cbv
 refine zD rfl ?_;simp only [pwA,seval,-iQ0];refine zM (fun m vs h'=>∃i:Nat,i≤dep xs∧m=dep xs-i∧vs=[.fz w a xs.length (pis xs),.int .i64 i]∧σ=h') (dep xs) ?_ ?_
 ·exact⟨0,by omega,by omega,rfl,rfl⟩
 rintro m vs h' ⟨i,hi,rfl,rfl,rfl⟩
 have hdl:=zCP xs
 by_cases hlt:i<xs.length
 ·simp only [pwA,seval,-iQ0,hlt,zQ,gi hlt]
  by_cases h0:xs[i]=0
  ·have hid:i<dep xs:=by
    rcases Nat.lt_or_ge i (dep xs)with x|x
    ·exact x
    ·have:i=dep xs:=by omega
     subst this;exact absurd (by rw [at_eq hlt];exact h0) (qP hlt)
   simp only [pwA,seval,-iQ0,h0,wrapS hlt (by omega:xs.length≤4611686018427387904)]
   exact⟨_,by omega,i+1,by omega,rfl,rfl⟩
  ·have hid:i=dep xs:=by
    rcases Nat.lt_or_ge i (dep xs)with x|x
    ·exact absurd (by rw [←at_eq hlt];exact zR x) h0
    ·omega
   subst hid;simp only [pwA,seval,-iQ0,h0];exact hk
 ·have hid:i=dep xs:=by omega
  have hxe:xs.length=dep xs:=by omega
  simp only [pwA,seval,-iQ0,hlt];rw [hxe];exact hk
theorem Qy (hp:isP p) (hu:∀r∈u,Led p n r) (hul:u.length≤1048576) (hx:El p n x) (hn:n≤1048576) (hvu:FII vu u) (hvx:FI vx x) (hk:∀z,FI z (redL p (W0 n) u x)→K z σ):
  zB Try.prog 92 [.int .i64 p,vu,vx] σ K:=by
 have hpb:=hp.bd;have o:=W0_ok hpb n;obtain⟨wu,au,ru,rfl,hru⟩:=hvu;have hxl:=hx.1;obtain⟨wx,ax,rfl⟩:=hvx;refine zC mix Try.func92 ?_
 conv=>arg 2;cbv
 refine zD rfl ?_;simp only [pwA,seval,-iQ0];refine zHZ rfl (by omega) fun a0=>?_
 simp only [pwA,seval,-iQ0];refine zM (fun m vs h'=>∃(i:Nat) (y:List Int) (vy:PV),i≤u.length∧m=u.length-i∧vs=[.int .i64 p,.fz wu au u.length ru,vy,.int .i64 i]∧σ=h'∧FI vy y∧El p n y∧redL p (W0 n) (u.drop i) y=redL p (W0 n) u x) u.length ?_ ?_
 ·exact⟨0,x,_,by omega,by omega,rfl,rfl,⟨true,a0,rfl⟩,hx,by rw [List.drop_zero]⟩
 rintro m vs h' ⟨i,y,vy,hi,rfl,rfl,rfl,hvy,hy,he⟩
 by_cases hlt:i<u.length
 rotate_left
 ·rw [List.drop_eq_nil_of_le (by omega)]at he
  simp only [pwA,seval,-iQ0,hlt];refine hk _ ?_;rw [←he];exact hvy
 obtain⟨w4,a4,hr⟩:=hru.rowI hlt;have hL:=hu _ (List.getElem_mem hlt);have hd:=hL.2.1;have hrl:=hL.1.1;have hyl:=hy.1;have hvy0:=hvy;obtain⟨wy,ay,rfl⟩:=hvy;rw [List.drop_eq_getElem_cons hlt]at he
 simp only [pwA,seval,-iQ0,hlt,hr];refine Zn rfl (by omega) ?_
 have hdy:dep u[i] < y.length:=by omega
 simp only [pwA,seval,-iQ0,hdy,zQ,gi hdy];have hred:red1 p (W0 n) y u[i]=vstep p (p-y[dep u[i]]) u[i] y:=by
  rw [zDX hpb hyl hrl,at_eq hdy];refine Qg (by rw [zX (by omega),zX (by omega)]) fun j hj=>?_
  rw [zX (by omega)]at hj
  rw [qi (by omega) hj,qi (by omega) hj]
  have:y[dep u[i]] * at_ u[i] j=y[dep u[i]] * at_ u[i] j:=rfl
  rw [show at_ y j+(p-y[dep u[i]])*at_ u[i] j=(at_ y j + -y[dep u[i]] * at_ u[i] j)+p*at_ u[i] j by grind,Int.add_mul_emod_self_left]
 have hyb:=hy.at0 o (dep u[i]);rw [at_eq hdy]at hyb
 by_cases h0:y[dep u[i]]=0
 ·simp only [pwA,seval,-iQ0,h0,wrapS hlt (by omega:u.length≤4611686018427387904)]
  refine⟨_,by omega,i+1,y,_,by omega,rfl,rfl,hvy0,hy,?_⟩
  rw [←he];show _=redL p (W0 n) (u.drop (i+1)) (red1 p (W0 n) y u[i]);rw [zCu o hy hL.1 (by rw [at_eq hdy];exact h0)]
 ·have hw1:IntKind.i64.wrap (p-y[dep u[i]])=p-y[dep u[i]]:=wrap64 (by omega) (by omega)
  simp only [pwA,seval,-iQ0,h0,hlt,hr,hdy,zQ,gi hdy,hw1];refine zBi hpb (by omega) (el_ve (by omega) hy) (el_ve (by omega) hL.1) hn hvy0 ⟨w4,a4,rfl⟩ fun z hz=>?_
  simp only [pwA,seval,-iQ0,wrapS hlt (by omega:u.length≤4611686018427387904)]
  refine⟨_,by omega,i+1,_,z,by omega,rfl,rfl,hz,?_,?_⟩
  ·rw [←hred];exact zA6 o hy hL.1
  ·rw [←he,←hred];rfl
end Go.Proofs
namespace Go.Grp
end Go.Grp
namespace Go.Proofs
open Go.Ab Go.Lie Go.Grp Go.Mx
variable {σ:PHeap} {K:PV→PHeap→Prop} {p:Int} {n:Nat} {v w x y xs ys:List Int} {A M L u l:List (List Int)} {vA vM vv vw vx vu v0 vL:PV}
theorem zC1:∀{l:List (List Int)} {a y:List Int},(∃o∈l,¬dep o<dep y)→insD (l++[a]) y=insD l y++[a]
 | [],a,y,h=>by obtain⟨o,ho,_⟩:=h;cases ho
 | v::l,a,y,h=>by
  simp only [List.cons_append,insD]
  split
  ·rename_i hv
   obtain⟨o,ho,hn⟩:=h;rcases List.mem_cons.1 ho with rfl|ho
   ·exact absurd hv hn
   ·rw [zC1 ⟨o,ho,hn⟩];rfl
  ·rfl
theorem zD4:∀{l:List (List Int)} {y:List Int},(∀o∈l,dep o<dep y)→insD l y=l++[y]
 | [],y,_=>rfl
 | v::l,y,h=>by
  simp only [insD];rw [if_pos (h v (by simp)),zD4 fun o ho=>h o (by simp [ho])]
  simp
theorem zC2:∀{l:List (List Int)} {a y:List Int},(∀o∈l,dep o<dep y)→¬dep a<dep y→insD (l++[a]) y=(l++[y])++[a]
 | [],a,y,_,h=>by simp only [List.nil_append,insD];rw [if_neg h];rfl
 | v::l,a,y,hl,h=>by
  simp only [List.cons_append,insD];rw [if_pos (hl v (by simp)),zC2 (fun o ho=>hl o (by simp [ho])) h]
def part (g:List (List Int)) (y:List Int) (b:Bool):List (List Int):=if b then insD g y else g
theorem zDo {g:List (List Int)} {y:List Int} {b:Bool}:(part g y b).length=g.length+b.toNat:=by
 cases b<;>simp [part,Q0]
theorem zD0 (hp:isP p) (hL:∀r∈L,El p n r) (hll:L.length≤64) (hn:n≤64) (hvL:FII vL L) (hk:∀z u,FII z u→Canon p n (W0 n) L u→K z σ):
  zB Try.prog 54 [.int .i64 p,vL] σ K:=by
 have hpb:=hp.bd;have o:=W0_ok hpb n;obtain⟨wL,aL,rL,rfl,hrL⟩:=hvL;refine zB.gh ?_;refine zC mix Try.func54 ?_
 conv=>arg 2;cbv
 refine zD rfl ?_;simp only [pwA,seval,-iQ0];refine zAN (fun m vs h'=>∃(i:Nat) (u:List (List Int)) (vu:PV),i≤L.length∧m=L.length-i∧vs=[.int .i64 p,.fz wL aL L.length rL,vu,.int .i64 i]∧Keep σ h'∧FII vu u∧Canon p n (W0 n) (L.take i) u) L.length ?_ ?_
 ·refine .fz σ.next [] (by simp only [pwA,seval,-iQ0]) trivial fun o1=>.here ⟨0,[],.fz true (.sl o1 0 0 (.known 0)) 0 [],by omega,by omega,?_,(zF σ _).kill (Nat.le_refl _),⟨_,_,_,rfl,All2.nil _⟩,by rw [List.take_zero];exact zAI⟩
  simp only [pwA,seval,-iQ0];simp only [sbs,sb,capOK,and_self,if_true,decide_true,Nat.le_refl];rfl
 rintro m vs h' ⟨i,u,vu,hi,rfl,rfl,hkp,hu,hc⟩
 simp only [pwA,seval,-iQ0];refine iteI (fun hlt=>?_) fun hge=>?_
 rotate_left
 ·have hie:i=L.length:=by omega
  subst hie;rw [List.take_length]at hc
  exact Gh.fin0 hkp (hu.bel _) (hk _ _ hu hc)
 obtain⟨w4,a4,hr⟩:=hrL.rowI hlt;have hx:=hL _ (List.getElem_mem hlt);have hul:u.length≤64:=by
  have:=hc.len;omega
 have hlp:∀{M:List (List Int)},L.take i++[L[i]]=M→L.take (i+1)=M:=fun h=>by rw [←h,List.take_succ_eq_append_getElem hlt]
 have hll2:(L.length:Int)≤4611686018427387904:=by omega
 simp only [pwA,seval,-iQ0,hlt,hr];refine Qy hp hc.base.led (by omega) hx (by omega) hu ⟨w4,a4,rfl⟩ fun z hz=>?_
 have hre:=qc o hc.base.els hx;have hrl:=hre.1;have hput:=fun k=>hc.put hpb hx (k:=k)
 have hskip:=hc.skip0 hpb hx;have hb0:=hre.at0 o;generalize hrr:redL p (W0 n) u L[i]=r at *
 have hz0:=hz;obtain⟨wz,az,rfl⟩:=hz;simp only [pwA,seval,-iQ0];refine Zn rfl (by omega) ?_
 have hdl:=zCP r
 by_cases hd:dep r=r.length
 ·have hd':(dep r:Int)=(r.length:Int):=by omega
  simp only [pwA,seval,-iQ0,hd',wrapS hlt (by omega:L.length≤4611686018427387904)]
  refine⟨_,by omega,.here ⟨i+1,u,_,by omega,rfl,rfl,hkp,hu,?_⟩⟩
  rw [List.take_succ_eq_append_getElem hlt];exact hskip (by omega)
 have hdn:dep r<r.length:=by omega
 have hd':¬(dep r:Int)=(r.length:Int):=by omega
 have hne:=qP hdn;have hbd:=hb0 (dep r);rw [at_eq hdn]at hne hbd
 simp only [pwA,seval,-iQ0,hd',hdn,zQ,gi hdn];refine zHa hp (by omega) fun k hk1 hk2 hk3=>?_
 simp only [pwA,seval,-iQ0];refine Qx hpb (by omega) (el_ve (by omega) hre) (by omega) hz0 fun zy hzy=>?_
 obtain⟨c1,c2,c3,c4⟩:=hput k (by omega) (by rw [at_eq hdn];exact hk3)
 generalize hyy:scl p k r=y at *
 have hyl:=c3.1.1;have hzy0:=hzy;obtain⟨wy,ay,rfl⟩:=hzy;have hu0:=hu;obtain⟨wu,au,ru,rfl,hru⟩:=hu;generalize hg:u.map (gOff p y)=g at c1
 have hgl:g.length=u.length:=by rw [←hg,List.length_map]
 have hgat:∀j (h:j<u.length),g[j]'(by omega)=gOff p y u[j]:=fun j h=>by simp [←hg]
 have hgd:∀j (h:j<u.length),dep (g[j]'(by omega))=dep u[j]:=fun j h=>by
  rw [hgat j h];exact(zEA hpb c3 (hc.base.led _ (List.getElem_mem h)) (by rw [c2];exact c4 _ (List.getElem_mem h))).2
 simp only [pwA,seval,-iQ0];have hkn:=zF h' [];refine zM (fun m vs h2=>∃(j:Nat) (b:Bool) (vN:PV) (rows:List PV),j≤u.length∧m=u.length-j∧vs=[.int .i64 p,.fz wL aL L.length rL,.fz wu au u.length ru,.int .i64 i,.fz wy ay y.length (pis y),.int .i64 (dep r),vN,.bool b,.int .i64 j]∧Keep σ h2∧PSl σ.next 1 h2 vN (part (g.take j) y b).length rows∧All2 FI rows (part (g.take j) y b)∧(b=true→∃q∈g.take j,¬dep q<dep y)∧(b=false→∀q∈g.take j,dep q<dep y)) u.length ?_ ?_
 ·refine⟨0,false,_,[],by omega,by omega,rfl,hkp.new _,?_,by rw [List.take_zero];exact All2.nil _,fun h=>(by cases h),fun _ q hq=>(by rw [List.take_zero]at hq;cases hq)⟩
  rw [List.take_zero];exact PSl.new _ 1 rfl hkp.next
 rintro m vs h2 ⟨j,b,vN,rows,hj,rfl,rfl,hkp2,ha,hall,hb1,hb2⟩
 have hpl:(part (g.take j) y b).length≤65:=by rw [zDo,List.length_take];cases b<;>simp<;>omega
 have hpl1:(part (g.take j) y b).length=min j g.length+b.toNat:=by rw [zDo,List.length_take]
 by_cases hlj:j<u.length
 rotate_left
 ·have hje:j=u.length:=by omega
  subst hje;have ht:g.take u.length=g:=by rw [←hgl];exact List.take_length
  rw [ht]at ha hall hb1 hb2 hpl
  have fin:∀{vF:PV} {h3:PHeap} {rs:List PV},Keep σ h3→PSl σ.next 1 h3 vF (insD g y).length rs→All2 FI rs (insD g y)→∃m',m'<L.length-i∧GL (fun vs h'=>∃(i:Nat) (u:List (List Int)) (vu:PV),i≤L.length∧m'=L.length-i∧vs=[.int .i64 p,.fz wL aL L.length rL,vu,.int .i64 i]∧Keep σ h'∧FII vu u∧Canon p n (W0 n) (L.take i) u) [.int .i64 p,.fz wL aL L.length rL,vF,.int .i64 ((i+1:Nat):Int)] h3:=fun {vF h3 rs} k3 a3 all3=>by
   obtain⟨s,cap,rfl,hcap,q2,q3,q4,q5⟩:=a3;refine⟨L.length-(i+1),by omega,.fz s rs q2 (all3.bI 0) fun o2=>.here ⟨i+1,insD g y,_,by omega,rfl,?_,k3.kill q4,⟨true,.sl o2 0 (insD g y).length cap,rs,rfl,all3⟩,by rw [List.take_succ_eq_append_getElem hlt];exact c1⟩⟩
   simp only [sbs,sb,hcap.ok,and_self,if_true]
  cases b with
  | true=>
   simp only [part,if_true]at ha hall
   simp only [pwA,seval,-iQ0,hlj,wrapS hlt (by omega:L.length≤4611686018427387904)]
   exact fin hkp2 ha hall
  | false=>
   simp only [part,Bool.false_eq_true,if_false]at ha hall hpl
   simp only [pwA,seval,-iQ0,hlj];refine PSl.push (bytes:=24) hkp2 ha (by omega) (by omega) fun v' h3 k3 a3=>?_
   simp only [pwA,seval,-iQ0,wrapS hlt (by omega:L.length≤4611686018427387904)]
   have e:=zD4 (l:=g) (y:=y) fun q hq=>hb2 rfl q hq
   exact fin k3 (by rw [e,List.length_append];exact a3) (by rw [e];exact hall.snoc hzy0)
 obtain⟨w5,a5,hr5⟩:=hru.rowI hlj;have hL5:=hc.base.led _ (List.getElem_mem hlj);have hl5:=hL5.1.1;have hd5:dep r<u[j].length:=by omega
 have hb5:=hL5.1.at0 o (dep r);rw [at_eq hd5]at hb5
 have hw5:IntKind.i64.wrap (p-u[j][dep r])=p-u[j][dep r]:=wrap64 (by omega) (by omega)
 have hne5:=c4 _ (List.getElem_mem hlj);have hgo:gOff p y u[j]=vstep p (p-u[j][dep r]) y u[j]:=by unfold gOff;rw [c2,at_eq hd5]
 have htk:g.take (j+1)=g.take j++[gOff p y u[j]]:=by rw [List.take_succ_eq_append_getElem (by omega),hgat j hlj]
 have hdd:=hgd j hlj;rw [hgat j hlj]at hdd
 -- what follows once the row stands: one more
 have rest:∀{vN:PV} {h2:PHeap} {rows:List PV} {N:List (List Int)} (b':Bool),N++[gOff p y u[j]]=part (g.take (j+1)) y b'→(b'=true→∃q∈g.take (j+1),¬dep q<dep y)→(b'=false→∀q∈g.take (j+1),dep q<dep y)→All2 FI rows N→
   ∀z,FI z (gOff p y u[j])→Keep σ h2→PSl σ.next 1 h2 vN (N.length+1) (rows++[z])→∃m',m'<u.length-j∧∃(j':Nat) (b:Bool) (vN':PV) (rows:List PV),j'≤u.length∧m'=u.length-j'∧[PV.int .i64 p,.fz wL aL L.length rL,.fz wu au u.length ru,.int .i64 i,.fz wy ay y.length (pis y),.int .i64 (dep r),vN,.bool b',.int .i64 ((j+1:Nat):Int)]=[.int .i64 p,.fz wL aL L.length rL,.fz wu au u.length ru,.int .i64 i,.fz wy ay y.length (pis y),.int .i64 (dep r),vN',.bool b,.int .i64 j']∧Keep σ h2∧PSl σ.next 1 h2 vN' (part (g.take j') y b).length rows∧All2 FI rows (part (g.take j') y b)∧(b=true→∃q∈g.take j',¬dep q<dep y)∧(b=false→∀q∈g.take j',dep q<dep y):=by
  intro vN h2 rows N b' he h1' h2' all2 z hz k3 a3;refine⟨_,by omega,j+1,b',vN,rows++[z],by omega,rfl,rfl,k3,?_,?_,h1',h2'⟩
  ·rw [←he,List.length_append];exact a3
  ·rw [←he];exact all2.snoc hz
 have hcall:∀{h3:PHeap} {K':PV→PHeap→Prop},(∀z,FI z (gOff p y u[j])→K' z h3)→zB Try.prog 95 [.int .i64 p,.fz w5 a5 u[j].length (pis u[j]),.int .i64 (p-u[j][dep r]),.fz wy ay y.length (pis y)] h3 K':=fun {h3 K'} k'=>
  zBi hpb (by omega) (el_ve (by omega) hL5.1) (el_ve (by omega) c3.1) (by omega) ⟨w5,a5,rfl⟩ hzy0 fun z hz=>k' z (by rw [hgo];exact hz)
 have hin:gOff p y u[j]∈g.take (j+1):=by rw [htk];simp
 cases b with
 | true=>
  simp only [part,if_true]at ha hall hpl
  obtain⟨q,hq,hqd⟩:=hb1 rfl;simp only [pwA,seval,-iQ0,hlj,hr5,zQ,hd5,gi hd5,hw5];refine hcall fun z hz=>?_
  have hz0:=hz;obtain⟨wq,aq,rfl⟩:=hz;simp only [pwA,seval,-iQ0];refine PSl.push (bytes:=24) hkp2 ha (by omega) (by omega) fun v' h3 k3 a3=>?_
  simp only [pwA,seval,-iQ0,wrapS hlj (by omega:u.length≤4611686018427387904)]
  exact rest true (by simp only [part,if_true];rw [htk,zC1 ⟨q,hq,hqd⟩]) (fun _=>⟨q,by rw [htk];exact List.mem_append_left _ hq,hqd⟩) (fun h=>by cases h) hall _ hz0 k3 a3
 | false=>
  simp only [part,Bool.false_eq_true,if_false]at ha hall hpl
  simp only [pwA,seval,-iQ0,hlj,hr5];refine Zn rfl (by omega) ?_
  by_cases hlt5:dep u[j] < dep y
  ·have h5':¬(dep r:Int)<(dep u[j]:Int):=by omega
   simp only [pwA,seval,-iQ0,h5',hlj,hr5,zQ,hd5,gi hd5,hw5];refine hcall fun z hz=>?_
   have hz0:=hz;obtain⟨wq,aq,rfl⟩:=hz;simp only [pwA,seval,-iQ0];refine PSl.push (bytes:=24) hkp2 ha (by omega) (by omega) fun v' h3 k3 a3=>?_
   simp only [pwA,seval,-iQ0,wrapS hlj (by omega:u.length≤4611686018427387904)]
   exact rest false (by simp only [part,Bool.false_eq_true,if_false];rw [htk]) (fun h=>by cases h) (fun _ q hq=>by
    rw [htk]at hq
    rcases List.mem_append.1 hq with hq|hq
    ·exact hb2 rfl q hq
    ·rw [List.mem_singleton.1 hq,hdd];exact hlt5) hall _ hz0 k3 a3
  ·have h5':(dep r:Int)<(dep u[j]:Int):=by omega
   simp only [pwA,seval,-iQ0,h5',hlj];refine PSl.push (bytes:=24) hkp2 ha (by omega) (by omega) fun v' h3 k3 a3=>?_
   simp only [pwA,seval,-iQ0,hlj,hr5,zQ,hd5,gi hd5,hw5];refine hcall fun z hz=>?_
   have hz0:=hz;obtain⟨wq,aq,rfl⟩:=hz;simp only [pwA,seval,-iQ0];refine PSl.push (bytes:=24) k3 a3 (by omega) (by omega) fun v4 h4 k4 a4=>?_
   simp only [pwA,seval,-iQ0,wrapS hlj (by omega:u.length≤4611686018427387904)]
   refine rest (N:=g.take j++[y]) true (by simp only [part,if_true];rw [htk,zC2 (fun q hq=>hb2 rfl q hq) (by rw [hdd];exact hlt5)]) (fun _=>⟨_,hin,by rw [hdd];exact hlt5⟩) (fun h=>by cases h) (hall.snoc hzy0) _ hz0 k4 (by rw [List.length_append];exact a4)
end Go.Proofs
namespace Go.Grp
end Go.Grp
namespace Go.Proofs
open Go.Ab Go.Lie Go.Grp Go.Mx
variable {σ h:PHeap} {K:PV→PHeap→Prop} {p:Int} {n s0:Nat} {A L X u:List (List Int)} {vA vL:PV} {rows:List SR}
theorem ql {h:PHeap} {t i:Nat} {cs:List PV} {v:PV} (ho:h.obj t=some cs) (hi:i<cs.length) (hv:v.one=true):h.wr t i [v]=some (h.set t (cs.set i v)):=by
 rw [Qd ho,if_pos ⟨by simp;omega,by simp [hv]⟩]
 congr 2
 rw [List.append_assoc];exact take_set cs hi v
theorem Zm {α β:Type} (f:α→β) {xs:List α} {i:Nat} {x y:α} (hx:xs[i]? = some x) (e:f y=f x):(xs.set i y).map f=xs.map f:=by
 rw [List.map_set,e];refine List.ext_getElem? fun j=>?_
 rw [List.getElem?_set]
 split
 ·rename_i e2
  subst e2;rw [List.getElem?_map,hx]
  split
  ·rfl
  ·rename_i e3
   have:=(List.getElem?_eq_some_iff.1 hx).1
   simp only [List.length_map]at e3
   omega
 ·rfl
structure RM (σ h:PHeap) (s0:Nat) (rows:List SR):Prop where
 keep:Keep σ h
 obj:h.obj s0=some (rows.map SR.pv)
 lo:σ.next≤s0
 lt:s0<h.next
 ok:∀q∈rows,q.ok h σ.next
 nd:(qm rows).Nodup
 ne:s0∉qm rows
theorem zDV (nd:(qm rows).Nodup) {i j:Nat} (hi:i<rows.length) (hj:j<rows.length) (e:rows[i].s=rows[j].s):i=j:=by
 have:=(List.getElem_inj (xs:=qm rows) (i:=i) (j:=j) (h₀:=by simpa [qm]using hi) (h₁:=by simpa [qm]using hj) nd).1 (by simpa [qm]using e)
 exact this
theorem RM.put (a:RM σ h s0 rows) {i:Nat} (hi:i<rows.length) {x:List Int} (hx:x.length=rows[i].x.length):RM σ (h.set rows[i].s (pis x)) s0 (rows.set i ⟨rows[i].s,rows[i].cap,x⟩):=by
 have hm:=List.getElem_mem hi;obtain⟨g1,g2,g3,g4⟩:=a.ok _ hm;have hne:s0≠rows[i].s:=fun e=>a.ne (List.mem_map.2 ⟨_,hm,e.symm⟩)
 have hsl:qm (rows.set i ⟨rows[i].s,rows[i].cap,x⟩)=qm rows:=Zm SR.s (List.getElem?_eq_getElem hi) rfl;have hpv:(rows.set i ⟨rows[i].s,rows[i].cap,x⟩).map SR.pv=rows.map SR.pv:=Zm SR.pv (List.getElem?_eq_getElem hi) (by show PV.sl _ 0 x.length _=PV.sl _ 0 rows[i].x.length _;rw [hx])
 refine⟨a.keep.set g3 _,by rw [zL,if_neg hne,hpv];exact a.obj,a.lo,a.lt,fun q hq=>?_,by rw [hsl];exact a.nd,by rw [hsl];exact a.ne⟩
 obtain⟨j,hj,rfl⟩:=List.mem_iff_getElem.1 hq;rw [List.length_set]at hj
 rw [List.getElem_set]
 split
 ·exact⟨by show full 1 rows[i].cap x.length;rw [hx];exact g1,by rw [zL,if_pos rfl],g3,g4⟩
 ·rename_i e
  obtain⟨f1,f2,f3,f4⟩:=a.ok _ (List.getElem_mem hj);exact⟨f1,by rw [zL,if_neg fun e2=>e (zDV a.nd hi hj e2.symm)];exact f2,f3,f4⟩
theorem RM.swap (a:RM σ h s0 rows) {i j:Nat} (hi:i<rows.length) (hj:j<rows.length):RM σ (h.set s0 (((rows.set i rows[j]).set j rows[i]).map SR.pv)) s0 ((rows.set i rows[j]).set j rows[i]):=by
 have hp:=List.set_set_perm hi hj;have hne:∀q∈rows,q.s≠s0:=fun q hq e=>a.ne (List.mem_map.2 ⟨q,hq,e⟩)
 refine⟨a.keep.set a.lo _,by rw [zL,if_pos rfl],a.lo,a.lt,fun q hq=>?_,((hp.map SR.s).nodup_iff).2 a.nd,fun hm=>a.ne ((hp.map SR.s).mem_iff.1 hm)⟩
 have hq':=hp.mem_iff.1 hq;obtain⟨f1,f2,f3,f4⟩:=a.ok _ hq';exact⟨f1,by rw [zL,if_neg (hne q hq')];exact f2,f3,f4⟩
def RX (σ h:PHeap) (s0:Nat) (X:List (List Int)):Prop:=∃rows,RM σ h s0 rows∧rows.map SR.x=X
theorem RX.get (a:RX σ h s0 X) {i:Nat} (hi:i<X.length):∃s cap,h.rd1 s0 i=some (.sl s 0 X[i].length cap)∧h.obj s=some (pis X[i])∧full 1 cap X[i].length∧s≠s0∧s<h.next∧∀x:List Int,x.length=X[i].length→RX σ (h.set s (pis x)) s0 (X.set i x):=by
 obtain⟨rows,a,rfl⟩:=a;rw [List.length_map]at hi
 have hm:=List.getElem_mem hi;obtain⟨g1,g2,g3,g4⟩:=a.ok _ hm;rw [List.getElem_map];refine⟨rows[i].s,rows[i].cap,?_,g2,g1,fun e=>a.ne (List.mem_map.2 ⟨_,hm,e⟩),g4,fun x hx=>⟨_,a.put hi hx,?_⟩⟩
 ·rw [zG a.obj,List.getElem?_map,List.getElem?_eq_getElem hi];rfl
 ·rw [List.map_set]
theorem RX.two (a:RX σ h s0 X) {i j:Nat} (hi:i<X.length) (hj:j<X.length) (hne:i≠j):∃s cap t cap',h.rd1 s0 i=some (.sl s 0 X[i].length cap)∧h.obj s=some (pis X[i])∧h.rd1 s0 j=some (.sl t 0 X[j].length cap')∧h.obj t=some (pis X[j])∧s≠t∧s≠s0∧t≠s0∧∀x:List Int,x.length=X[i].length→RX σ (h.set s (pis x)) s0 (X.set i x):=by
 obtain⟨rows,a,rfl⟩:=a;rw [List.length_map]at hi hj
 obtain⟨g1,g2,g3,g4⟩:=a.ok _ (List.getElem_mem hi);obtain⟨f1,f2,f3,f4⟩:=a.ok _ (List.getElem_mem hj);rw [List.getElem_map,List.getElem_map];refine⟨rows[i].s,rows[i].cap,rows[j].s,rows[j].cap,?_,g2,?_,f2,fun e=>hne (zDV a.nd hi hj e),fun e=>a.ne (List.mem_map.2 ⟨_,List.getElem_mem hi,e⟩),fun e=>a.ne (List.mem_map.2 ⟨_,List.getElem_mem hj,e⟩),fun x hx=>⟨_,a.put hi hx,?_⟩⟩
 ·rw [zG a.obj,List.getElem?_map,List.getElem?_eq_getElem hi];rfl
 ·rw [zG a.obj,List.getElem?_map,List.getElem?_eq_getElem hj];rfl
 ·rw [List.map_set]
theorem RX.swap (a:RX σ h s0 X) {i j:Nat} (hi:i<X.length) (hj:j<X.length):∃s cap t cap' h1 h2,h.rd1 s0 i=some (.sl s 0 X[i].length cap)∧h.rd1 s0 j=some (.sl t 0 X[j].length cap')∧h.wr s0 i [.sl t 0 X[j].length cap']=some h1∧h1.wr s0 j [.sl s 0 X[i].length cap]=some h2∧RX σ h2 s0 ((X.set i X[j]).set j X[i]):=by
 obtain⟨rows,a,rfl⟩:=a;rw [List.length_map]at hi hj
 rw [List.getElem_map,List.getElem_map];refine⟨rows[i].s,rows[i].cap,rows[j].s,rows[j].cap,h.set s0 ((rows.map SR.pv).set i rows[j].pv),h.set s0 (((rows.map SR.pv).set i rows[j].pv).set j rows[i].pv),?_,?_,?_,?_,⟨(rows.set i rows[j]).set j rows[i],?_,?_⟩⟩
 ·rw [zG a.obj,List.getElem?_map,List.getElem?_eq_getElem hi];rfl
 ·rw [zG a.obj,List.getElem?_map,List.getElem?_eq_getElem hj];rfl
 ·exact ql a.obj (by simpa using hi) rfl
 ·have:=ql (h:=h.set s0 ((rows.map SR.pv).set i rows[j].pv)) (t:=s0) (i:=j) (v:=rows[i].pv) (by rw [zL,if_pos rfl]) (by simpa using hj) rfl
  rw [zAc]at this
  exact this
 ·have:=a.swap hi hj
  rw [List.map_set,List.map_set]at this
  exact this
 ·rw [List.map_set,List.map_set]
theorem zEH (hL:∀r∈A,r.length≤1048576) (hll:A.length≤1000) (hvA:FII vA A) (hk:∀v h' rows,Keep σ h'→PAcc σ.next 1 h' v A.length rows→All2 FI rows A→K v h'):zB Try.prog 70 [vA] σ K:=by
 obtain⟨wA,aA,rA,rfl,hrA⟩:=hvA;refine zC mix Try.func70 ?_
 conv=>arg 2;cbv
 refine zD rfl ?_;simp only [pwA,seval,-iQ0];refine zM (fun m vs h'=>∃(i:Nat) (v:PV) (rows:List PV),i≤A.length∧m=A.length-i∧vs=[v,.fz wA aA A.length rA,.int .i64 A.length,.int .i64 i]∧Keep σ h'∧PAcc σ.next 1 h' v i rows∧All2 FI rows (A.take i)) A.length ?_ ?_
 ·exact⟨0,_,[],by omega,by omega,rfl,Keep.refl σ,PAcc.nil _ _ _,by rw [List.take_zero];exact All2.nil _⟩
 rintro m vs h' ⟨i,v,rows,hi,rfl,rfl,hkp,ha,hall⟩
 simp only [pwA,seval,-iQ0];refine iteI (fun hlt=>?_) fun hge=>?_
 rotate_left
 ·have hie:i=A.length:=by omega
  subst hie;rw [List.take_length]at hall
  exact hk _ _ _ hkp ha hall
 obtain⟨w4,a4,hr⟩:=hrA.rowI hlt;simp only [pwA,seval,-iQ0,hlt,hr];refine zB.fzI (fun K' k'=>Qh rfl (by have:=hL _ (List.getElem_mem hlt);omega) k') fun a5=>?_
 simp only [pwA,seval,-iQ0];refine PAcc.push (bytes:=24) hkp ha (by omega) (by omega) fun v' h2 k2 a2=>?_
 simp only [pwA,seval,-iQ0,wrapS hlt (by omega:A.length≤4611686018427387904)]
 exact⟨_,by omega,i+1,v',rows++[.fz true a5 A[i].length (pis A[i])],by omega,rfl,rfl,k2,a2.acc,by rw [List.take_succ_eq_append_getElem hlt];exact hall.snoc ⟨true,a5,rfl⟩⟩
theorem zFB (hL:∀r∈A,r.length=n) (hn:0<n∧n≤1000) (hll:A.length≤1000) (hvA:FII vA A) (hk:∀v h' rows,RowsI σ h' v rows→rows.map SR.x=A→K v h'):zB Try.prog 70 [vA] σ K:=by
 obtain⟨wA,aA,rA,rfl,hrA⟩:=hvA;refine zC mix Try.func70 ?_
 conv=>arg 2;cbv
 refine zD rfl ?_;simp only [pwA,seval,-iQ0];refine zM (fun m vs h'=>∃(i:Nat) (v:PV) (rows:List SR),i≤A.length∧m=A.length-i∧vs=[v,.fz wA aA A.length rA,.int .i64 A.length,.int .i64 i]∧RowsI σ h' v rows∧rows.map SR.x=A.take i) A.length ?_ ?_
 ·exact⟨0,_,[],by omega,by omega,rfl,RowsI.nil σ,by rw [List.take_zero];rfl⟩
 rintro m vs h' ⟨i,v,rows,hi,rfl,rfl,ha,hall⟩
 simp only [pwA,seval,-iQ0];refine iteI (fun hlt=>?_) fun hge=>?_
 rotate_left
 ·have hie:i=A.length:=by omega
  subst hie;rw [List.take_length]at hall
  exact hk _ _ _ ha hall
 obtain⟨w4,a4,hr⟩:=hrA.rowI hlt;have hl:=hL _ (List.getElem_mem hlt);have hrl:rows.length=i:=by have:=congrArg List.length hall;rw [List.length_map,List.length_take]at this;omega
 simp only [pwA,seval,-iQ0,hlt,hr];refine Qh rfl (by omega) ⟨fun h0=>by rw [h0]at hl;simp at hl;omega,fun cap hcap=>?_⟩
 simp only [pwA,seval,-iQ0];refine RowsI.push ha (zF _ _) (t:=h'.next) (cap:=cap) (x:=A[i]) (Nat.le_refl _) (Nat.lt_succ_self _) (by rw [zN,if_pos rfl]) hcap (by omega) fun v' h2 a2 k2 l2=>?_
 simp only [pwA,seval,-iQ0,wrapS hlt (by omega:A.length≤4611686018427387904)]
 exact⟨_,by omega,i+1,v',_,by omega,rfl,rfl,a2,by rw [List.take_succ_eq_append_getElem hlt,List.map_append,hall];rfl⟩
theorem RowsI.rx {v:PV} (a:RowsI σ h v rows) (hpos:0<rows.length):∃s0 cap,v=.sl s0 0 rows.length cap∧full 1 cap rows.length∧RX σ h s0 (rows.map SR.x):=by
 obtain⟨s0,cap,rfl,hf,q2,q3,q4,q5⟩:=a.acc.pos hpos;exact⟨s0,cap,rfl,hf,rows,⟨a.keep,q2,q4,q5,a.ok,a.nd,fun hm=>a.ne s0 hm 0 _ cap rfl⟩,rfl⟩
end Go.Proofs
namespace Go.Grp
end Go.Grp
namespace Go.Proofs
open Go.Ab Go.Lie Go.Grp Go.Mx
variable {σ h:PHeap} {K:PV→PHeap→Prop} {p:Int} {n s0:Nat} {A L X u:List (List Int)} {vA vL:PV} {rows:List SR}
theorem zDS {P:Program} {c:IC} {Q:Exit→PEnv→PHeap→Prop} {e:PEnv} {h:PHeap} (id:Nat) (J:PEnv→PHeap→Prop) (h1:∀Q':Exit→PEnv→PHeap→Prop,(∀e h,J e h→Q' (.exit id) e h)→vp P c Q' e h) (h2:∀e h,J e h→Q (.exit id) e h):vp P c Q e h:=h1 Q h2
theorem zCv {m d:Nat} {cap:Cap} (hf:full 1 cap m) (hd:d≤m):qg 1 (.sl s0 0 m cap) none (some (.int .i64 d)) (some (.int .i64 d))=some (.sl s0 0 d (.known d)):=by
 have h1:(0:Int)≤(d:Int)∧(d:Int)≤(m:Int):=by omega
 have h2:(0:Int)≤(d:Int)∧(d:Int)≤(d:Int):=by omega
 rcases hf with rfl|rfl
 ·rw [zGo]
  simp [zO,qC,h1,h2]
 ·rw [Zj]
  simp [zO,qC,h1,h2]
theorem zC9 (hp:isP p) (hL:∀r∈L,El p n r) (hn:0<n∧n≤64) (hll:0<L.length∧L.length≤64) (hvL:FII vL L)
  (hk:∀s0 d X h',RX σ h' s0 X→X.length=L.length→d≤X.length→Canon p n (W0 n) L (X.take d)→K (.sl s0 0 d (.known d)) h'):
  zB Try.prog 101 [.int .i64 p,vL] σ K:=by
 have hpb:=hp.bd;have hq:pr7 p:=hp;have o:=W0_ok hpb n;refine zC mix Try.func101 ?_
 conv=>arg 2;cbv
 refine zD rfl ?_;simp only [pwA,seval,-iQ0];refine zFB (n:=n) (fun r hr=>(hL r hr).1) ⟨hn.1,by omega⟩ (by omega) hvL fun v h0 rows ha hX=>?_
 have hrl:rows.length=L.length:=by rw [←hX,List.length_map]
 obtain⟨s0,cap,rfl,hf,rx⟩:=RowsI.rx ha (by omega)
 rw [hrl]at hf ⊢
 rw [hX]at rx
 simp only [pwA,seval,-iQ0];refine zM (fun m vs h'=>∃(c d:Nat) (X:List (List Int)),m=n-c∧vs=[.int .i64 p,.sl s0 0 L.length cap,.int .i64 d,.int .i64 c]∧RX σ h' s0 X∧X.length=L.length∧Ech p n L X d c) n ?_ ?_
 ·exact⟨0,0,L,by omega,rfl,rx,rfl,Ech.start hL⟩
 clear rx ha hX hrl
 rintro m vs h' ⟨c,d,X,rfl,rfl,rx,hXl,he⟩
 have hcn:=he.cn;have hdl:=he.dl;have hXn:∀i (hi:i<X.length),X[i].length=n:=fun i hi=>(he.el _ (List.getElem_mem hi)).1
 obtain⟨s1,cap1,q1,q2,q3,q4,q5,q6⟩:=rx.get (i:=0) (by omega)
 rw [hXn]at q1
 have hpos:(0:Int)<(L.length:Int):=by omega
 have fin:c=n∨d=X.length→K (.sl s0 0 d (.known d)) h':=fun hcd=>hk s0 d X h' rx hXl hdl (he.done hcd)
 have hsl:=zCv (s0:=s0) hf (d:=d) (by omega)
 by_cases hc:c<n
 rotate_left
 ·have hce:c=n:=by omega
  simp only [pwA,seval,-iQ0,hpos,q1,hc,decide_false,hsl];exact fin (.inl hce)
 by_cases hd:d<L.length
 rotate_left
 ·have hde:d=X.length:=by omega
  simp only [pwA,seval,-iQ0,hpos,q1,hc,hd,decide_true,decide_false,hsl];exact fin (.inr hde)
 clear fin;have wc1:IntKind.i64.wrap ((c:Int)+1)=((c+1:Nat):Int):=by rw [wrap64 (by omega) (by omega)];omega
 simp only [pwA,seval,-iQ0,hpos,q1,hc,hd,decide_true];have row0:∀k (hk:k<X.length) j (hj:j<X[k].length),at_ (row X k) j=X[k][j]:=fun k hk j hj=>by rw [zP hk,at_eq hj]
 refine zDS 2 (fun e h=>∃(t:Nat) (b0:PV),e=PEnv.mk [0,1,5,6,7,47] [.int .i64 p,.sl s0 0 L.length cap,.int .i64 d,.int .i64 c,.int .i64 t,b0]∧h=h'∧d≤t∧t≤L.length∧(∀k,d≤k→k<t→at_ (row X k) c=0)∧(t<L.length→at_ (row X t) c≠0)) (fun Q2 hQ2=>?_) ?_
 ·refine zM (fun m us h=>∃t:Nat,m=L.length-t∧us=[.int .i64 p,.sl s0 0 L.length cap,.int .i64 d,.int .i64 c,.int .i64 t]∧h=h'∧d≤t∧t≤L.length∧∀k,d≤k→k<t→at_ (row X k) c=0) (L.length-d) ⟨d,rfl,rfl,rfl,Nat.le_refl _,by omega,fun k h1 h2=>by omega⟩ ?_
  rintro m us h ⟨t,rfl,rfl,rfl,hdt,htl,hz⟩
  by_cases hlt:t<L.length
  rotate_left
  ·simp only [pwA,seval,-iQ0,hlt,decide_false]
   exact hQ2 _ _ ⟨t,_,rfl,rfl,hdt,htl,hz,fun g=>absurd g hlt⟩
  have htX:t<X.length:=by omega
  obtain⟨s2,cap2,r1,r2,r3,r4,r5,r6⟩:=rx.get htX;rw [hXn]at r1
  have hcr:c<X[t].length:=by rw [hXn];exact hc
  have r7:h.rd1 s2 c=some (.int .i64 X[t][c]):=by rw [zG r2,zQ,gi hcr];rfl
  have hat:=row0 t htX c hcr
  by_cases h0:X[t][c]=0
  ·simp only [pwA,seval,-iQ0,hlt,decide_true,r1,hc,r7,h0,wrapS hlt (by omega:L.length≤4611686018427387904)]
   refine⟨_,by omega,t+1,rfl,rfl,by omega,by omega,fun k h1 h2=>?_⟩
   by_cases hk:k=t
   ·rw [hk,hat,h0]
   ·exact hz k h1 (by omega)
  ·simp only [pwA,seval,-iQ0,hlt,decide_true,r1,hc,r7,h0,decide_false]
   exact hQ2 _ _ ⟨t,_,rfl,rfl,hdt,htl,hz,fun _=>by rw [hat];exact h0⟩
 rintro e h ⟨t,b0,rfl,rfl,hdt,htl,hz,hnz⟩
 simp only [pwA,seval,-iQ0]
 by_cases hlt:t<L.length
 rotate_left
 ·have hte:(t:Int)=(L.length:Int):=by omega
  simp only [pwA,seval,-iQ0,hte,wc1];exact⟨_,by omega,c+1,d,X,rfl,rfl,rx,hXl,he.skip hc fun k h1 h2=>hz k h1 (by omega)⟩
 have htX:t<X.length:=by omega
 have hdX:d<X.length:=by omega
 have hte:¬(t:Int)=(L.length:Int):=by omega
 have hnz:=hnz hlt;have htel:=he.el _ (List.getElem_mem htX);have htb:=htel.at0 o c;have hcr:c<X[t].length:=by rw [hXn];exact hc
 rw [zP htX]at hnz
 obtain⟨s2,cap2,s3,cap3,h1,h2,r1,r2,r3,r4,rx2⟩:=rx.swap hdX htX;rw [hXn]at r1 r2 r3 r4
 simp only [pwA,seval,-iQ0,hte,hd,hlt,r1,r2,r3,r4];have hBl:((X.set d X[t]).set t X[d]).length=L.length:=by simp [hXl]
 have hBr:∀i,row ((X.set d X[t]).set t X[d]) i=if i=t then row X d else if i=d then row X t else row X i:=fun i=>by
  rw [zA4 (by rw [List.length_set];omega),zA4 (by omega),zP hdX,zP htX]
 have hBB:(X.set d X[t]).set t X[d]=(X.set d (row X t)).set t (row X d):=by rw [zP hdX,zP htX]
 generalize hB:(X.set d X[t]).set t X[d]=B at *
 have hrX:∀i,i<L.length→El p n (row X i):=fun i hi=>he.el _ (by rw [zP (by omega)];exact List.getElem_mem _)
 have hBE:∀i,i<L.length→El p n (row B i):=fun i hi=>by
  rw [hBr]
  split
  ·exact hrX d hd
  ·split
   ·exact hrX t hlt
   ·exact hrX i hi
 have hdB:d<B.length:=by omega
 have hBd:row B d=X[t]:=by
  rw [hBr,zP htX]
  split
  ·rename_i h;subst h;exact zP hdX
  ·rw [if_pos rfl]
 obtain⟨sd,capd,g1,g2,g3,g4,g5,gp⟩:=rx2.get hdB;have eBd:B[d]=X[t]:=by rw [←hBd,zP hdB]
 rw [eBd,hXn]at g1 gp
 rw [eBd]at g2
 have g6:h2.rd1 sd c=some (.int .i64 X[t][c]):=by rw [zG g2,zQ,gi hcr];rfl
 rw [at_eq hcr]at hnz htb
 simp only [pwA,seval,-iQ0,hd,g1,hc,g6];refine zDI hp ⟨by omega,by omega⟩ fun k b hk0 hk1 hk2=>?_
 have hyl:=hXn t htX;generalize hy:X[t]=y at *
 have hsl2:(scl p k y).length=n:=by rw [zg];exact hyl
 simp only [pwA,seval,-iQ0,hd,g1];refine zDS 4 (fun e h=>∃b0:PV,e=PEnv.mk [0,1,5,6,8,84,85,86] [.int .i64 p,.sl s0 0 L.length cap,.int .i64 d,.int .i64 c,.int .i64 k,.int .i64 n,.int .i64 n,b0]∧h=h2.set sd (pis (scl p k y))) (fun Q4 hQ4=>?_) ?_
 ·refine zM (fun m us h=>∃i:Nat,i≤n∧m=n-i∧us=[.int .i64 p,.sl s0 0 L.length cap,.int .i64 d,.int .i64 c,.int .i64 k,.int .i64 n,.int .i64 i]∧h=h2.set sd (pis ((scl p k y).take i++y.drop i))) n ⟨0,by omega,by omega,rfl,by rw [List.take_zero,List.drop_zero,List.nil_append,Zz g2]⟩ ?_
  rintro m us h ⟨i,hi,rfl,rfl,rfl⟩
  simp only [pwA,seval,-iQ0];refine iteI (fun hin=>?_) fun hge=>?_
  rotate_left
  ·have hie:i=n:=by omega
   subst hie;rw [List.drop_of_length_le (by omega),List.append_nil,List.take_of_length_le (by omega)]
   exact hQ4 _ _ ⟨_,rfl,rfl⟩
  have hiy:i<y.length:=by omega
  have e1:=zA3 (hsl2.trans hyl.symm) hiy;have hyb:=htel.at0 o i;rw [at_eq hiy]at hyb
  have hb:=sm7 (a:=y[i]) (b:=k) (by omega) (by omega)
  have ew1:IntKind.i64.wrap (y[i] * k)=y[i] * k:=wrap64 (by omega) (by omega)
  have hg7:¬s0=sd:=Ne.symm g4;have hp0:p≠0:=by omega
  have hlen:i+1≤((scl p k y).take i++y.drop i).length:=by simp;omega
  have hiv:i<(scl p k y).length:=by omega
  have hge:(scl p k y)[i]=y[i] * k % p:=by simp [scl]
  have etm:(y[i] * k).tmod p=(scl p k y)[i]:=by rw [hge];exact Int.tmod_eq_emod_of_nonneg (Int.mul_nonneg (by omega) (by omega))
  have eset:List.take i (pis ((scl p k y).take i++y.drop i))++[PV.int .i64 ((y[i] * k).tmod p)]++List.drop (i+1) (pis ((scl p k y).take i++y.drop i))=pis ((scl p k y).take (i+1)++y.drop (i+1)):=by
   rw [etm,ZO (by simp;omega),QS (hsl2.trans hyl.symm) hiv]
  simp only [pwA,seval,-iQ0,hd,g1,hg7,hin,e1,ew1,hp0,zQ,zJ,hlen,eset,wrapS hin (by omega:n≤4611686018427387904)]
  exact⟨_,by omega,i+1,by omega,rfl,rfl,rfl⟩
 rintro e h ⟨b0,rfl,rfl⟩
 have rx3:=gp (scl p k y) hsl2;have hRr:∀i,row (B.set d (scl p k y)) i=if i=d then scl p k y else row B i:=fun i=>zA4 hdB i
 have hRl:(B.set d (scl p k y)).length=L.length:=by rw [List.length_set];exact hBl
 have hRE:∀i,i<L.length→El p n (row (B.set d (scl p k y)) i):=fun i hi=>by
  rw [hRr]
  split
  ·exact Q9 (by omega) hyl
  ·exact hBE i hi
 generalize hRR:B.set d (scl p k y)=R at rx3 hRr hRl hRE
 have hCl:∀m,(clrM p c d R m).length=L.length:=fun m=>by rw [Z9];exact hRl
 have hCr:=fun m (hm:m≤L.length) i=>zEJ (p:=p) (c:=c) (d:=d) (R:=R) m (by omega) i
 have hech:Ech p n L (clrM p c d R L.length) (d+1) (c+1):=by
  refine he.piv hpb (B:=B) (t:=t) (k:=k) hc hdt htX hBB (by rw [zP htX,hy,at_eq hcr];exact hk2) (by rw [hCl,hXl]) (by rw [hCr _ (Nat.le_refl _),if_neg (by omega),hRr,if_pos rfl,zP htX,hy]) fun i hi hne=>?_
  rw [hCr _ (Nat.le_refl _) i,if_pos ⟨by omega,hne⟩,hCr _ (Nat.le_refl _) d,if_neg (by omega),hRr i,if_neg hne]
 simp only [pwA,seval,-iQ0];generalize hH3:h2.set sd (pis (scl p k y))=H3 at *
 refine zDS 6 (fun e h=>∃b0:PV,e=PEnv.mk [0,1,5,6,107,108,109] [.int .i64 p,.sl s0 0 L.length cap,.int .i64 d,.int .i64 c,.int .i64 L.length,.int .i64 L.length,b0]∧RX σ h s0 (clrM p c d R L.length)) (fun Q6 hQ6=>?_) ?_
 ·refine zM (fun m us h=>∃i:Nat,i≤L.length∧m=L.length-i∧us=[.int .i64 p,.sl s0 0 L.length cap,.int .i64 d,.int .i64 c,.int .i64 L.length,.int .i64 i]∧RX σ h s0 (clrM p c d R i)) L.length ⟨0,by omega,by omega,rfl,rx3⟩ ?_
  rintro m us h ⟨i,hi,rfl,rfl,rx4⟩
  simp only [pwA,seval,-iQ0];refine iteI (fun hin=>?_) fun hge=>?_
  rotate_left
  ·have hie:i=L.length:=by omega
   subst hie;exact hQ6 _ _ ⟨_,rfl,rx4⟩
  have wi1:=wrapS hin (by omega:L.length≤4611686018427387904)
  by_cases hid:i=d
  ·subst hid
   simp only [pwA,seval,-iQ0,wi1];refine⟨_,by omega,i+1,by omega,rfl,rfl,?_⟩
   unfold clrM;rw [if_pos rfl];exact rx4
  have hid':¬(i:Int)=(d:Int):=by omega
  have hiC:i<(clrM p c d R i).length:=by rw [hCl];exact hin
  have hdC:d<(clrM p c d R i).length:=by rw [hCl];exact hd
  obtain⟨si,capi,sj,capj,f1,f2,f3,f4,f5,f6,f7,f8⟩:=rx4.two hiC hdC hid;have ei:(clrM p c d R i)[i]=row R i:=by rw [←zP hiC,hCr i (by omega),if_neg (by omega)]
  have ed:(clrM p c d R i)[d]=row R d:=by rw [←zP hdC,hCr i (by omega),if_neg (by omega)]
  have gi1:=hRE i hin;have gd1:=hRE d hd;rw [ei,gi1.1]at f1 f8
  rw [ei]at f2
  rw [ed,gd1.1]at f3
  rw [ed]at f4
  have hci:c<(row R i).length:=by rw [gi1.1];exact hc
  have f9:h.rd1 si c=some (.int .i64 (row R i)[c]):=by rw [zG f2,zQ,gi hci];rfl
  have gib:=gi1.at0 o c;rw [at_eq hci]at gib
  have ewn:IntKind.i64.wrap (0-(row R i)[c])=0-(row R i)[c]:=wrap64 (by omega) (by omega)
  simp only [pwA,seval,-iQ0,hid',hin,hd,f1,f3,hc,f9,ewn];refine zCo (xs:=row R i) (ys:=row R d) (by omega) f2 f4 (Ne.symm f5) gi1.1.symm gd1.1.symm (by rw [gi1.1,gd1.1]) (by rw [gi1.1];omega) (fun j g1 g2=>?_) ?_
  ·have b1:=gd1.at0 o j
   have b2:=gi1.at0 o j;rw [at_eq g2]at b1
   rw [at_eq g1]at b2
   have:=sm7 (a:=0-(row R i)[c]) (b:=(row R d)[j]) (by omega) (by omega)
   unfold sm9;omega
  simp only [pwA,seval,-iQ0,wi1];refine⟨_,by omega,i+1,by omega,rfl,rfl,?_⟩
  have:=f8 (vstep p (0-(row R i)[c]) (row R d) (row R i)) (by rw [zX (by rw [gi1.1,gd1.1]),gi1.1])
  unfold clrM;rw [if_neg hid,at_eq hci,show -(row R i)[c]=0-(row R i)[c] by omega]
  exact this
 rintro e h ⟨b0,rfl,rx5⟩
 have wd1:IntKind.i64.wrap ((d:Int)+1)=((d+1:Nat):Int):=by rw [wrap64 (by omega) (by omega)];omega
 simp only [pwA,seval,-iQ0,wc1,wd1];exact⟨_,by omega,c+1,d+1,_,rfl,rfl,rx5,hCl _,hech⟩
end Go.Proofs
namespace Go.Grp
end Go.Grp
namespace Go.Proofs
open Go.Ab Go.Lie Go.Grp Go.Mx
variable {σ h:PHeap} {K:PV→PHeap→Prop} {p:Int} {n s0 b:Nat} {A L X u:List (List Int)} {vA vL:PV} {rows:List SR}
theorem zHV:∀xs:List PV,TR.pvs (xs.map TR.leaf)=xs
 | []=>rfl
 | x::xs=>by simp only [List.map_cons,TR.pvs,TR.pv,zHV xs]
theorem zHW:∀{xs:List PV},Bels 0 xs→TR.okFs h b (xs.map TR.leaf)
 | [],_=>trivial
 | x::xs,hb=>⟨hb.1,zHW hb.2⟩
theorem zBj:∀x:List Int,TR.okFs h b (x.map fun n=>.leaf (.int .i64 n))
 | []=>trivial
 | n::x=>⟨trivial,zBj x⟩
theorem SR.ok.trF {q:SR} (a:q.ok h b):q.tr.okF h b:=⟨⟨by rw [List.length_map];exact a.1,by rw [TR.ints_pvs];exact a.2.1,a.2.2.1,a.2.2.2⟩,zBj q.x⟩
theorem zBb:∀{rows:List SR},(∀q∈rows,q.ok h b)→TR.okFs h b (rows.map SR.tr)
 | [],_=>trivial
 | q::rows,a=>⟨SR.ok.trF (a q (List.mem_cons_self ..)),zBb fun q' hq=>a q' (List.mem_cons_of_mem _ hq)⟩
theorem RX.fin {d:Nat} (a:RX σ h s0 X) (hd:d≤X.length) (k:∀z,FII z (X.take d)→K z σ):Gh σ K (.sl s0 0 d (.known d)) h:=by
 obtain⟨rows,r,rfl⟩:=a;rw [List.length_map]at hd
 have et:(TR.cut s0 0 d (.known d) (rows.map SR.tr)).pv=.sl s0 0 d (.known d):=rfl;rw [←et];refine Gh.treeF r.keep ⟨⟨fun c e=>by cases e;exact Nat.le_refl _,by rw [TR.rows_pvs];exact r.obj,r.lo,r.lt,by rw [List.length_map];omega⟩,zBb r.ok⟩ fun aa=>k _ ⟨false,.sl (aa s0) 0 d (.known d),(TR.fzs aa (rows.map SR.tr)).take d,?_,(TR.rows_all2 rows).take d⟩
 have hl:(List.take d (rows.map SR.x)).length=d:=by simp;omega
 rw [hl];rfl
theorem ZB (hp:isP p) (hL:∀r∈L,El p n r) (hn:n≤64) (hll:L.length≤64) (hvL:FII vL L) (hk:∀z u,FII z u→Canon p n (W0 n) L u→K z σ):
  zB Try.prog 101 [.int .i64 p,vL] σ K:=by
 refine zB.gh ?_
 by_cases h0:0<n∧0<L.length
 ·exact zC9 hp hL ⟨h0.1,hn⟩ ⟨h0.2,hll⟩ hvL fun s0 d X h' rx hXl hd hc=>rx.fin hd fun z hz=>hk z _ hz hc
 -- nothing to do
 have hcan:Canon p n (W0 n) L []:=by
  have hE:=Ech.start hL
  have:=hE.done (by
   by_cases h1:0<n
   ·exact .inr (by have:¬0<L.length:=fun h=>h0 ⟨h1,h⟩;omega)
   ·exact .inl (by omega))
  rwa [List.take_zero]at this
 refine zC mix Try.func101 ?_
 conv=>arg 2;cbv
 refine zD rfl ?_;simp only [pwA,seval,-iQ0];refine zEH (fun r hr=>by rw [(hL r hr).1];omega) (by omega) hvL fun v h1 rows hk1 ha hall=>?_
 rcases ha with ⟨rfl,e1,e2⟩|⟨s0,cap,rfl,hf,q2,q3,q4,q5⟩
 ·have hsl:qg 1 (.fz true .nils 0 []) none (some (.int .i64 0)) (some (.int .i64 0))=some (.fz true .nils 0 []):=rfl
  simp only [pwA,seval,-iQ0,hsl];refine zM (fun m vs h'=>m=0∧vs=[.int .i64 p,.fz true .nils 0 [],.int .i64 0,.int .i64 0]∧h'=h1) 0 ⟨rfl,rfl,rfl⟩ ?_
  rintro m vs h' ⟨rfl,rfl,rfl⟩
  have hz0:¬(0:Int)<((0:Nat):Int):=by omega
  simp only [pwA,seval,-iQ0,hz0,decide_false,hsl];exact Gh.fin0 hk1 (show Bel _ (PV.fz true .nils 0 []) from trivial) (hk _ _ ⟨true,.nils,[],rfl,All2.nil _⟩ hcan)
 ·have hsl:qg 1 (.sl s0 0 L.length cap) none (some (.int .i64 0)) (some (.int .i64 0))=some (.sl s0 0 0 (.known 0)):=zCv (s0:=s0) hf (d:=0) (Nat.zero_le _)
  have hfin:Gh σ K (.sl s0 0 0 (.known 0)) h1:=by
   have et:(TR.cut s0 0 0 (.known 0) (rows.map TR.leaf)).pv=.sl s0 0 0 (.known 0):=rfl;rw [←et];exact Gh.treeF hk1 ⟨⟨fun c e=>by cases e;exact Nat.le_refl _,by rw [zHV];exact q2,q4,q5,by simp⟩,zHW (hall.bI 0)⟩ fun aa=>hk _ [] ⟨false,.sl (aa s0) 0 0 (.known 0),[],by simp [TR.fz],All2.nil _⟩ hcan
  simp only [pwA,seval,-iQ0];refine zM (fun m vs h'=>m=0∧vs=[.int .i64 p,.sl s0 0 L.length cap,.int .i64 0,.int .i64 0]∧h'=h1) 0 ⟨rfl,rfl,rfl⟩ ?_
  rintro m vs h' ⟨rfl,rfl,rfl⟩
  by_cases hpos:0<L.length
  ·have hn0:n=0:=by
    rcases Nat.eq_zero_or_pos n with g|g
    ·exact g
    ·exact absurd ⟨g,hpos⟩ h0
   obtain⟨w4,a4,hr⟩:=hall.rowI hpos;have hl0:L[0].length=0:=by rw [(hL _ (List.getElem_mem hpos)).1];exact hn0
   have r1:h'.rd1 s0 0=some (.fz w4 a4 L[0].length (pis L[0])):=by rw [zG q2];exact hr
   rw [hl0]at r1
   have hpos':(0:Int)<(L.length:Int):=by omega
   have hz0:¬(0:Int)<((0:Nat):Int):=by omega
   simp only [pwA,seval,-iQ0,hpos',r1,hz0,decide_false,hsl];exact hfin
  ·have hpos':¬(0:Int)<(L.length:Int):=by omega
   simp only [pwA,seval,-iQ0,hpos',hsl];exact hfin
end Go.Proofs
namespace Go.Grp
end Go.Grp
namespace Go.Proofs
open Go.Ab Go.Lie Go.Grp Go.Mx
variable {σ:PHeap} {K:PV→PHeap→Prop} {p p' c c':Int} {n m:Nat} {x y bs:List Int} {A B F F' u xs ys:List (List Int)} {vx vy va vb vA vB vF vF' vC:PV}
theorem zG3 {i:Nat} (hi:i<x.length):(pis x)[i]? = some (.int .i64 (at_ x i)):=by rw [zQ,gi hi,at_eq hi];rfl
theorem zBU (hx:FI vx x) (hy:FI vy y) (hl:x.length≤1048576) (hk:∀t:Bool,(t=true↔x=y)→K (.bool t) σ):zB Try.prog 35 [vx,vy] σ K:=by
 obtain⟨wx,ax,rfl⟩:=hx;obtain⟨wy,ay,rfl⟩:=hy;refine zC mix Try.func35 ?_
 conv=>arg 2;cbv
 refine zD rfl ?_;simp only [pwA,seval,-iQ0]
 by_cases hxy:x.length=y.length
 rotate_left
 ·have hne:¬(x.length:Int)=(y.length:Int):=by omega
  simp only [pwA,seval,-iQ0,hne];exact hk false ⟨fun h=>(by cases h),fun h=>absurd (by rw [h]) hxy⟩
 have heq:(x.length:Int)=(y.length:Int):=by omega
 simp only [pwA,seval,-iQ0,heq];refine zM (fun m us g=>∃i:Nat,i≤y.length∧m=y.length-i∧us=[.fz wx ax x.length (pis x),.fz wy ay y.length (pis y),.int .i64 i]∧g=σ∧∀j,j<i→x[j]? = y[j]?) y.length ⟨0,by omega,by omega,rfl,rfl,fun j hj=>absurd hj (Nat.not_lt_zero _)⟩ ?_
 rintro m us g ⟨i,hi,rfl,rfl,rfl,he⟩
 simp only [pwA,seval,-iQ0,heq];refine iteI (fun hlt=>?_) fun hge=>?_
 rotate_left
 ·refine hk true ⟨fun _=>List.ext_getElem? fun j=>?_,fun _=>rfl⟩
  rcases Nat.lt_or_ge j i with e|e
  ·exact he j e
  ·rw [List.getElem?_eq_none (by omega),List.getElem?_eq_none (by omega)]
 have hltx:i<x.length:=by omega
 have hlty:i<y.length:=by omega
 have wi1:IntKind.i64.wrap ((i:Int)+1)=((i+1:Nat):Int):=wrapS hlty (by omega)
 simp only [pwA,seval,-iQ0,zG3 hltx,zG3 hlty,hltx,hlty,wi1];refine iteI (fun hv=>?_) fun hv=>?_
 ·refine⟨_,by omega,i+1,by omega,rfl,rfl,fun j hj=>?_⟩
  rcases Nat.lt_or_ge j i with e|e
  ·exact he j e
  ·obtain rfl:j=i:=by omega
   rw [List.getElem?_eq_getElem hltx,List.getElem?_eq_getElem hlty,←at_eq hltx,←at_eq hlty,hv]
 ·refine hk false ⟨fun h=>(by cases h),fun h=>absurd ?_ hv⟩
  rw [h]
theorem zKM (hb:FB vC bs) (hk:∀t:Bool,(t=true↔4096<bs.length)→K (.bool t) σ):zB Try.prog 8 [vC] σ K:=by
 obtain⟨w,a,rfl⟩:=hb;refine zC mix Try.func8 ?_
 conv=>arg 2;cbv
 refine zD rfl ?_;simp only [pwA,seval,-iQ0];refine hk _ ?_;rw [decide_eq_true_eq];omega
end Go.Proofs
namespace Go.Grp
end Go.Grp
namespace Go.Proofs
open Go.Ab Go.Lie Go.Grp Go.Mx
variable {σ H:PHeap} {K:PV→PHeap→Prop} {p p' c c' a b:Int} {n m r:Nat} {x y bs:List Int} {A B F F' u xs ys:List (List Int)} {v vx vy va vb vA vB vF vF' vC:PV}
theorem res3 (hor:H.obj r=some [.int .i64 0,.int .i64 0,.fz true .nils 0 []]) (hv:v.one=true):
  H.wr r 0 [.int .i64 a,.int .i64 b,v]=some (H.set r [.int .i64 a,.int .i64 b,v])∧(H.set r [.int .i64 a,.int .i64 b,v]).rd r 0 3=some [.int .i64 a,.int .i64 b,v]:=
 ⟨by rw [Qd hor,if_pos ⟨by simp,by simp only [List.all_cons,List.all_nil,hv];rfl⟩];rfl,by rw [zFQ,if_pos rfl];rfl⟩
def RetM (K:PV→PHeap→Prop) (σ:PHeap) (r:(Int×Int×List (List Int))×Int):Prop:=∀v,FII v r.1.2.2→K (.tup [.agg [.int .i64 r.1.1,.int .i64 r.1.2.1,v],.int .i64 r.2]) σ
theorem RetM.fin {R:(Int×Int×List (List Int))×Int} (k:RetM K σ R) {e:Int} {h:PHeap} (hk:Keep σ h) (hv:FII v A) (hR:R=((a,b,A),e)):Gh σ K (.tup [.agg [.int .i64 a,.int .i64 b,v],.int .i64 e]) h:=by
 subst hR;exact Gh.fin0 hk ⟨⟨trivial,trivial,hv.bel _,trivial⟩,trivial,trivial⟩ (k v hv)
theorem nilM:FII (.fz true .nils 0 []) []:=⟨true,.nils,[],rfl,All2.nil _⟩
theorem mx_n (h:isMx p c F):∃n:Nat,c=(n:Int)∧n≤8∧isP p∧F.length≤8∧Ma p n F:=by
 obtain⟨h1,h2,h3,h4⟩:=h;exact⟨c.toNat,by omega,by omega,h1,h3,h4⟩
open Classical in
noncomputable def mpRes (p c:Int) (F:List (List Int)) (p' c':Int) (F':List (List Int)):(Int×Int×List (List Int))×Int:=
 if isMx p c F∧isMx p' c' F' then(if p=p'∧(F'.length:Int)=c then((p,c',mm p c'.toNat F F'),0)else((0,0,[]),2))else((0,0,[]),1)
theorem Qt (hF:FII vF F) (sz:SzL F) (hF':FII vF' F') (sz':SzL F') (hk:RetM K σ (mpRes p c F p' c' F')):zB Try.prog 10 [.agg [.int .i64 p,.int .i64 c,vF],.agg [.int .i64 p',.int .i64 c',vF']] σ K:=by
 have h1:=hF.one;have h2:=hF'.one;have hF0:=hF;have hF0':=hF';refine zB.gh ?_;generalize hH:((σ.new [.int .i64 p,.int .i64 c,vF]).new [.int .i64 p',.int .i64 c',vF']).new [.int .i64 0,.int .i64 0,.fz true .nils 0 []]=H;have hkp:Keep σ H:=by rw [←hH];exact((zF σ _).new _).new _
 have g0:H.rd σ.next 0 3=some [.int .i64 p,.int .i64 c,vF]:=by rw [←hH];simp only [pwA,seval,-iQ0]
 have g1:H.rd (σ.next+1) 0 3=some [.int .i64 p',.int .i64 c',vF']:=by rw [←hH];simp only [pwA,seval,-iQ0]
 have m0:H.rd1 σ.next 0=some (.int .i64 p):=by rw [←hH];simp only [pwA,seval,-iQ0]
 have m1:H.rd1 σ.next 1=some (.int .i64 c):=by rw [←hH];simp only [pwA,seval,-iQ0]
 have m2:H.rd1 (σ.next+1) 0=some (.int .i64 p'):=by rw [←hH];simp only [pwA,seval,-iQ0]
 have m3:H.rd1 (σ.next+1) 2=some vF':=by rw [←hH];simp only [pwA,seval,-iQ0]
 have hor:H.obj (σ.next+2)=some [.int .i64 0,.int .i64 0,.fz true .nils 0 []]:=by rw [←hH];simp only [pwA,seval,-iQ0]
 obtain⟨w0,r0⟩:=res3 (a:=0) (b:=0) hor (v:=.fz true .nils 0 []) rfl;have no:∀e,mpRes p c F p' c' F'=((0,0,[]),e)→Gh σ K (.tup [.agg [.int .i64 0,.int .i64 0,.fz true .nils 0 []],.int .i64 e]) (H.set (σ.next+2) [.int .i64 0,.int .i64 0,.fz true .nils 0 []]):=fun e he=>hk.fin (hkp.set (by omega) _) nilM he
 refine zC mix Try.func10 ?_
 conv=>arg 2;cbv
 refine zD rfl ?_;simp only [pwA,seval,-iQ0,h1,h2];rw [hH];simp only [pwA,seval,-iQ0,g0];refine qb sz hF fun t ht=>?_
 cases t with
 | false=>
  simp only [pwA,seval,-iQ0,w0,r0];exact no _ (by unfold mpRes;rw [if_neg fun h=>by cases ht.2 h.1])
 | true=>
 simp only [pwA,seval,-iQ0,g1];refine qb sz' hF' fun t' ht'=>?_
 cases t' with
 | false=>
  simp only [pwA,seval,-iQ0,w0,r0];exact no _ (by unfold mpRes;rw [if_neg fun h=>by cases ht'.2 h.2])
 | true=>
 have hm:=ht.1 rfl;have hm':=ht'.1 rfl;have hlen:pLen vF'=some (.int .i64 F'.length):=by obtain⟨w,a,r,rfl,_⟩:=hF';rfl
 by_cases hpp:p=p'
 rotate_left
 ·simp only [pwA,seval,-iQ0,m0,m2,hpp,w0,r0]
  exact no _ (by unfold mpRes;rw [if_pos ⟨hm,hm'⟩,if_neg fun h=>hpp h.1])
 subst hpp
 by_cases hc:(F'.length:Int)=c
 rotate_left
 ·simp only [pwA,seval,-iQ0,m0,m1,m2,m3,hlen,hc,w0,r0]
  exact no _ (by unfold mpRes;rw [if_pos ⟨hm,hm'⟩,if_neg fun h=>hc h.2])
 obtain⟨n,rfl,hn,hp,hl,hA⟩:=mx_n hm;obtain⟨n',rfl,hn',_,hl',hB⟩:=mx_n hm';have hnn:n=F'.length:=by omega
 subst hnn;simp only [pwA,seval,-iQ0,m0,m1,m2,m3,hlen,g0,g1];refine zFr hp.bd hA hB hn' hl' hl hF0 hF0' rfl fun v hv=>?_
 obtain⟨w1,r1⟩:=res3 (a:=p) (b:=(n':Int)) hor hv.one;simp only [pwA,seval,-iQ0,w1,r1,hv.one,hv.cells];exact hk.fin (hkp.set (by omega) _) hv (by unfold mpRes;rw [if_pos ⟨hm,hm'⟩,if_pos ⟨rfl,rfl⟩];rfl)
theorem zGc (hp:isP p) (hL:∀r∈A,El p n r) (hn:n≤64) (hll:A.length≤64) (hvL:FII vA A) (hk:∀z u,FII z u→Canon p n (W0 n) A u→K (.agg [.int .i64 p,.int .i64 n,z]) σ):zB Try.prog 69 [.int .i64 p,.int .i64 n,vA] σ K:=by
 refine zB.gh ?_;generalize hH:σ.new [.int .i64 0,.int .i64 0,.fz true .nils 0 []]=H;have hkp:Keep σ H:=by rw [←hH];exact zF σ _
 have hor:H.obj σ.next=some [.int .i64 0,.int .i64 0,.fz true .nils 0 []]:=by rw [←hH];simp only [pwA,seval,-iQ0]
 refine zC mix Try.func69 ?_
 conv=>arg 2;cbv
 refine zD rfl ?_;simp only [pwA,seval,-iQ0];rw [hH];simp only [pwA,seval,-iQ0];refine ZB hp hL hn hll hvL fun z u hz hu=>?_
 obtain⟨w1,r1⟩:=res3 (a:=p) (b:=(n:Int)) hor hz.one;simp only [pwA,seval,-iQ0,w1,r1,hz.one,hz.cells];exact Gh.fin0 (hkp.set (by omega) _) ⟨trivial,trivial,hz.bel _,trivial⟩ (hk z u hz hu)
theorem zB2 (hp:isP p) (hL:∀r∈A,El p n r) (hn:n≤64) (hll:A.length≤64) (hvL:FII vA A) (hk:∀z u,FII z u→Canon p n (W0 n) A u→K (.agg [.int .i64 p,.int .i64 n,z]) σ):zB Try.prog 51 [.agg [.int .i64 p,.int .i64 n,vA]] σ K:=by
 have h1:=hvL.one;refine zB.gh ?_;generalize hH:(σ.new [.int .i64 p,.int .i64 n,vA]).new [.int .i64 0,.int .i64 0,.fz true .nils 0 []]=H;have hkp:Keep σ H:=by rw [←hH];exact(zF σ _).new _
 have m0:H.rd1 σ.next 0=some (.int .i64 p):=by rw [←hH];simp only [pwA,seval,-iQ0]
 have m1:H.rd1 σ.next 1=some (.int .i64 n):=by rw [←hH];simp only [pwA,seval,-iQ0]
 have m2:H.rd1 σ.next 2=some vA:=by rw [←hH];simp only [pwA,seval,-iQ0]
 have hor:H.obj (σ.next+1)=some [.int .i64 0,.int .i64 0,.fz true .nils 0 []]:=by rw [←hH];simp only [pwA,seval,-iQ0]
 refine zC mix Try.func51 ?_
 conv=>arg 2;cbv
 refine zD rfl ?_;simp only [pwA,seval,-iQ0,h1];rw [hH];simp only [pwA,seval,-iQ0,m0,m1,m2];refine zGc hp hL hn hll hvL fun z u hz hu=>?_
 obtain⟨w1,r1⟩:=res3 (a:=p) (b:=(n:Int)) hor hz.one;simp only [pwA,seval,-iQ0,w1,r1,hz.one,hz.cells];exact Gh.fin0 (hkp.set (by omega) _) ⟨trivial,trivial,hz.bel _,trivial⟩ (hk z u hz hu)
theorem zEU (hm:isMx p n F) (hF:FII vF F) (hk:∀z u,FII z u→Canon p n (W0 n) F u→K (.tup [.agg [.int .i64 p,.int .i64 n,z],.int .i64 0]) σ):zB Try.prog 14 [.agg [.int .i64 p,.int .i64 n,vF]] σ K:=by
 have h1:=hF.one;obtain⟨n',e,hn,hp,hl,hA⟩:=mx_n hm
 have:n'=n:=by omega
 subst this;have sz:SzL F:=⟨by omega,fun r hr=>by rw [(hA r hr).len];omega⟩
 refine zB.gh ?_;generalize hH:(σ.new [.int .i64 p,.int .i64 n',vF]).new [.int .i64 0,.int .i64 0,.fz true .nils 0 []]=H;have hkp:Keep σ H:=by rw [←hH];exact(zF σ _).new _
 have g0:H.rd σ.next 0 3=some [.int .i64 p,.int .i64 n',vF]:=by rw [←hH];simp only [pwA,seval,-iQ0]
 have hor:H.obj (σ.next+1)=some [.int .i64 0,.int .i64 0,.fz true .nils 0 []]:=by rw [←hH];simp only [pwA,seval,-iQ0]
 refine zC mix Try.func14 ?_
 conv=>arg 2;cbv
 refine zD rfl ?_;simp only [pwA,seval,-iQ0,h1];rw [hH];simp only [pwA,seval,-iQ0,g0];refine qb sz hF fun t ht=>?_
 obtain rfl:t=true:=ht.2 hm;simp only [pwA,seval,-iQ0,g0];refine zB2 hp (ma_el hA) (by omega) (by omega) hF fun v u hv hu=>?_
 obtain⟨w1,r1⟩:=res3 (a:=p) (b:=(n':Int)) hor hv.one;simp only [pwA,seval,-iQ0,w1,r1,hv.one,hv.cells];exact Gh.fin0 (hkp.set (by omega) _) ⟨⟨trivial,trivial,hv.bel _,trivial⟩,trivial,trivial⟩ (hk v u hv hu)
end Go.Proofs
namespace Go.Grp
end Go.Grp
namespace Go.Proofs
open Go.Ab Go.Lie Go.Grp Go.Mx
variable {σ h:PHeap} {K:PV→PHeap→Prop} {p c:Int} {n m s:Nat} {x y v w:List Int} {A B u:List (List Int)} {vA vB v0:PV} {rows:List SR}
theorem zIO {h:PHeap} {o d m len:Nat} {c1:Cap} {x:PV} {cs:List PV} (hx:plen x=some m) (hm:min m len≠0) (hf:ZG 1 h x (min m len)=some cs) {h':PHeap} (hw:h.wr o d cs=some h'):pcopy 1 h (.sl o d len c1) x=some (.int .i64 (min m len:Nat),h'):=by
 unfold pcopy;rw [show plen (.sl o d len c1)=some len from rfl,hx]
 simp only [Option.bind_some];rw [if_neg hm];simp only [hf,Option.bind_some,hw,Option.map_some]
theorem zG5 {h:PHeap} {o d m len:Nat} {c1:Cap} {x:PV} (hx:plen x=some m) (hm:min m len=0):pcopy 1 h (.sl o d len c1) x=some (.int .i64 0,h):=by
 unfold pcopy;rw [show plen (.sl o d len c1)=some len from rfl,hx]
 simp only [Option.bind_some];rw [if_pos hm]
theorem RowsI.finF (a:RowsI σ h v0 rows) (k:∀z,FII z (rows.map SR.x)→K z σ):Gh σ K v0 h:=by
 rcases a.acc with ⟨rfl,e1,e2⟩|⟨s0,cap,rfl,hf,q2,q3,q4,q5⟩
 ·have:rows=[]:=List.eq_nil_of_length_eq_zero e1
  subst this;exact Gh.fin0 a.keep (show Bel _ (PV.fz true .nils 0 []) from trivial) (k _ ⟨true,.nils,[],rfl,All2.nil _⟩)
 ·have et:(TR.rows s0 cap rows).pv=.sl s0 0 rows.length cap:=by simp [TR.rows,TR.pv]
  rw [←et];exact Gh.treeF a.keep ⟨⟨by rw [List.length_map];exact hf,by rw [TR.rows_pvs];exact q2,q4,q5⟩,zBb a.ok⟩ fun aa=>k _ TR.rows_FII
theorem zFJ {i:Nat} (hi:i<A.length):(wd A).take (i+1)=(wd A).take i++[A[i]++uv A.length i]:=by
 rw [List.take_succ_eq_append_getElem (by rw [zb];exact hi)]
 congr 2
 rw [←zP (by rw [zb];exact hi),Q7 hi,zP hi]
theorem Qj (hA:∀r∈A,r.length=n) (hn:n≤64) (hal:A.length≤64) (hvA:FII vA A) (hk:∀z,FII z (wd A)→K z σ):zB Try.prog 102 [vA] σ K:=by
 obtain⟨wA,aA,rA,rfl,hrA⟩:=hvA;refine zB.gh ?_;refine zC mix Try.func102 ?_
 conv=>arg 2;cbv
 refine zD rfl ?_;simp only [pwA,seval,-iQ0];refine zM (fun k us h=>∃(i:Nat) (v0:PV) (rows:List SR),i≤A.length∧k=A.length-i∧us=[.fz wA aA A.length rA,v0,.fz wA aA A.length rA,.int .i64 A.length,.int .i64 i]∧RowsI σ h v0 rows∧rows.map SR.x=(wd A).take i) A.length ⟨0,_,[],by omega,by omega,rfl,RowsI.nil σ,by rw [List.take_zero];rfl⟩ ?_
 rintro k us h ⟨i,v0,rows,hi,rfl,rfl,a,hx⟩
 simp only [pwA,seval,-iQ0];refine iteI (fun hlt=>?_) fun hge=>?_
 rotate_left
 ·have hie:i=A.length:=by omega
  subst hie;rw [List.take_of_length_le (by rw [zb];exact Nat.le_refl _)]at hx
  rw [←hx]at hk
  exact RowsI.finF a hk
 obtain⟨w4,a4,hr⟩:=hrA.rowI hlt;have hl:=hA _ (List.getElem_mem hlt);have hrl:rows.length=i:=by have:=congrArg List.length hx;rw [List.length_map,List.length_take,zb]at this;omega
 have ew:IntKind.i64.wrap ((A[i].length:Int)+(A.length:Int))=((A[i].length+A.length:Nat):Int):=by rw [wrap64 (by omega) (by omega)];omega
 have ew2:IntKind.i64.wrap ((A[i].length:Int)+(i:Int))=((A[i].length+i:Nat):Int):=by rw [wrap64 (by omega) (by omega)];omega
 have hmk1:((A[i].length+A.length:Nat):Int)*((8:Nat):Int)≤140737488355328:=by omega
 have hmk2:((A[i].length+A.length:Nat):Int)≤9223372036854775807:=by omega
 have hlt2:A[i].length+i<A[i].length+A.length:=by omega
 -- the row is copied
 have cp:pcopy 1 (h.new (pis (List.replicate (A[i].length+A.length) 0))) (.sl h.next 0 (A[i].length+A.length) (.known (A[i].length+A.length))) (.fz w4 a4 A[i].length (pis A[i]))=some (.int .i64 (min A[i].length (A[i].length+A.length):Nat),h.new (pis (A[i]++List.replicate A.length 0))):=by
  by_cases h0:A[i].length=0
  ·have e:A[i]=[]:=List.eq_nil_of_length_eq_zero h0
   rw [zG5 (m:=A[i].length) rfl (by omega)]
   rw [e];simp
  ·refine zIO (m:=A[i].length) (cs:=pis A[i]) rfl (by omega) ?_ ?_
   ·rw [zAi,if_neg (by omega),if_pos ⟨by omega,by rw [zJ];omega,by omega⟩,List.take_of_length_le (by rw [zJ];omega)]
   ·rw [Qd (cs:=pis (List.replicate (A[i].length+A.length) 0)) (by rw [zN,if_pos rfl]),if_pos ⟨by simp [pis],zJX _⟩,zAd]
    congr 2
    rw [List.take_zero,List.nil_append,Nat.zero_add,zJ,QZ,Zk,List.drop_replicate,Nat.add_sub_cancel_left]
 have hset:(A[i]++List.replicate A.length 0).set (A[i].length+i) 1=A[i]++uv A.length i:=by
  rw [List.set_append_right _ _ (by omega),Nat.add_sub_cancel_left]
  rfl
 have hlen9:(A[i]++List.replicate A.length 0).length=A[i].length+A.length:=by simp
 have hw:(h.new (pis (A[i]++List.replicate A.length 0))).wr h.next (A[i].length+i) [.int .i64 1]=some (h.new (pis (A[i]++uv A.length i))):=by
  rw [ql (cs:=pis (A[i]++List.replicate A.length 0)) (by rw [zN,if_pos rfl]) (by rw [zJ,hlen9];omega) rfl,zAd,zAB,hset]
 simp only [pwA,seval,-iQ0,hlt,hr,ew,ew2,hmk1,hmk2,ZP];rw [cp];generalize hH1:h.new (pis (A[i]++List.replicate A.length 0))=H1 at *
 generalize hH2:h.new (pis (A[i]++uv A.length i))=H2 at *
 simp only [pwA,seval,-iQ0,ew2,hlt2,hw];have hul:(A[i]++uv A.length i).length=A[i].length+A.length:=by simp [uv]
 have ez:PV.sl h.next 0 (A[i].length+A.length) (.known (A[i].length+A.length))=.sl h.next 0 (A[i]++uv A.length i).length (.known (A[i].length+A.length)):=by rw [hul]
 rw [ez];refine RowsI.push a (h:=H2) (t:=h.next) (cap:=.known (A[i].length+A.length)) (x:=A[i]++uv A.length i) (by rw [←hH2];exact zF _ _) (Nat.le_refl _) (by rw [←hH2];exact Nat.lt_succ_self _) (by rw [←hH2,zN,if_pos rfl]) (by rw [hul];exact .inr rfl) (by omega) fun v' h3 a3 k3 l3=>?_
 simp only [pwA,seval,-iQ0,wrapS hlt (by omega:A.length≤4611686018427387904)]
 refine⟨_,by omega,i+1,v',_,by omega,rfl,rfl,a3,?_⟩
 rw [zFJ hlt,List.map_append,hx];rfl
theorem zBG (hp:isP p) (hA:Ma p n A) (hn:n≤16) (hal:A.length≤16) (hvA:FII vA A) (hk:∀z u,FII z (nul n u)→Canon p (n+A.length) (W0 (n+A.length)) (wd A) u→K z σ):zB Try.prog 71 [.int .i64 p,vA,.int .i64 n] σ K:=by
 have hq:pr7 p:=hp;have hpb:=hp.bd;refine zB.gh ?_;refine zC mix Try.func71 ?_
 conv=>arg 2;cbv
 refine zD rfl ?_;simp only [pwA,seval,-iQ0];refine Qj (fun r hr=>(hA r hr).len) (by omega) (by omega) hvA fun zw hzw=>?_
 simp only [pwA,seval,-iQ0];refine ZB hp (wd_el hq hA) (by omega) (by rw [zb];omega) hzw fun zu u hzu hu=>?_
 have hul:=zAZ hq hA hu;obtain⟨wu,au,ru,rfl,hru⟩:=hzu;simp only [pwA,seval,-iQ0];have hrow:∀i (h:i<u.length),u[i].length=n+A.length:=fun i h=>(hu.base.els _ (List.getElem_mem h)).1
 refine zM (fun k us h=>∃(i:Nat) (v0:PV) (rows:List PV),i≤u.length∧k=u.length-i∧us=[.int .i64 p,.int .i64 n,v0,.fz wu au u.length ru,.int .i64 u.length,.int .i64 i]∧Keep σ h∧PAcc σ.next 1 h v0 (nul n (u.take i)).length rows∧All2 FI rows (nul n (u.take i))) u.length ⟨0,_,[],by omega,by omega,rfl,Keep.refl σ,by rw [List.take_zero];exact PAcc.nil _ _ _,by rw [List.take_zero];exact All2.nil _⟩ ?_
 rintro k us h ⟨i,v0,rows,hi,rfl,rfl,hkp,ha,hall⟩
 have hnl:(nul n (u.take i)).length≤u.length:=by
  have:=Zb (n:=n) (u:=u.take i)
  rw [List.length_take]at this;omega
 simp only [pwA,seval,-iQ0];refine iteI (fun hlt=>?_) fun hge=>?_
 rotate_left
 ·have hie:i=u.length:=by omega
  subst hie;rw [List.take_length]at ha hall
  obtain⟨cn,hn'⟩:=zAm hq hA hu;have lenN:(nul n u).length≤64:=by rw [List.take_length]at hnl;omega
  have fin:∀{z:PV} {w:List (List Int)},FII z w→Canon p A.length (W0 A.length) (nul n u) w→K z σ:=fun {z w} hz hw=>by
   have:w=nul n u:=hw.unique (W0_ok hq.ok _) cn
   subst this;exact hk z u hz hu
  rcases ha with ⟨rfl,e1,e2⟩|⟨s0,cap,rfl,hf,q2,q3,q4,q5⟩
  ·have e3:nul n u=[]:=List.eq_nil_of_length_eq_zero e1
   have hz0:FII (.fz true .nils 0 []) (nul n u):=by rw [e3];exact nilM
   simp only [pwA,seval,-iQ0];refine ZB hp cn.base.els (by omega) lenN hz0 fun z w hz hw=>?_
   simp only [pwA,seval,-iQ0];exact Gh.fin0 hkp (hz.bel _) (fin hz hw)
  ·simp only [pwA,seval,-iQ0]
   refine zB.frz q2 (hall.bI 0) fun o1=>?_
   simp only [sbs,sb,hf.ok,and_self,if_true,nm_eq];refine ZB hp cn.base.els (by omega) lenN (vL:=.fz true (.sl o1 0 (nul n u).length cap) (nul n u).length rows) ⟨true,_,rows,rfl,hall⟩ fun z w hz hw=>?_
   simp only [pwA,seval,-iQ0];exact Gh.fin0 (hkp.kill q4) (hz.bel _) (fin hz hw)
 obtain⟨w4,a4,hr⟩:=hru.rowI hlt;have hl:=hrow i hlt;have hE:=hu.base.els _ (List.getElem_mem hlt);have h0n:(0:Int)≤((n:Nat):Int):=by omega
 have hnl2:((n:Nat):Int)≤(u[i].length:Int):=by omega
 have wi1:=wrapS hlt (by omega:u.length≤4611686018427387904)
 have htk:u.take (i+1)=u.take i++[u[i]]:=List.take_succ_eq_append_getElem hlt;simp only [pwA,seval,-iQ0,hlt,hr,h0n,hnl2,zBf,Nat.sub_zero];refine zAp (by simp;omega) (by simp;omega) ?_
 have hz:isZ (u[i].take n)↔n≤dep u[i]:=by
  constructor
  ·intro h
   refine zHk (by omega) fun j hj=>?_
   have:=h (at_ u[i] j) (by rw [at_eq (by omega),List.mem_take_iff_getElem];exact⟨j,by omega,rfl⟩)
   exact this
  ·intro h x hx
   rw [List.mem_take_iff_getElem]at hx
   obtain⟨j,hj,rfl⟩:=hx;rw [←at_eq (by omega)]
   exact zR (by omega)
 by_cases hd:n≤dep u[i]
 ·have hzt:=hz.2 hd
  have e1:nul n (u.take (i+1))=nul n (u.take i)++[u[i].drop n]:=by
   unfold nul Fp;rw [htk,List.filter_append,List.map_append];simp [hd]
  have hnl3:n≤u[i].length:=by omega
  have htf:List.take (u[i].length-n) (pis (List.drop n u[i]))=pis (List.drop n u[i]):=List.take_of_length_le (by rw [zJ,List.length_drop];exact Nat.le_refl _)
  simp only [pwA,seval,-iQ0,hzt,hlt,hr,h0n,hnl2,hnl3,htf,QZ,Nat.sub_zero];refine PAcc.push (bytes:=24) hkp ha (by omega) (by omega) fun v' h2 k2 a2=>?_
  simp only [pwA,seval,-iQ0,wi1];refine⟨_,by omega,i+1,v',rows++[.fz false (pslA 1 a4 n u[i].length) (u[i].length-n) (pis (List.drop n u[i]))],by omega,rfl,rfl,k2,?_,?_⟩
  ·rw [e1,List.length_append];exact a2.acc
  ·rw [e1]
   exact hall.snoc ⟨false,_,by rw [List.length_drop]⟩
 ·have hzt:¬isZ (u[i].take n):=fun h=>hd (hz.1 h)
  have e1:nul n (u.take (i+1))=nul n (u.take i):=by
   unfold nul Fp;rw [htk,List.filter_append,List.map_append];simp [hd]
  simp only [pwA,seval,-iQ0,hzt,wi1];exact⟨_,by omega,i+1,v0,rows,by omega,rfl,rfl,hkp,by rw [e1];exact ha,by rw [e1];exact hall⟩
end Go.Proofs
namespace Go.Grp
end Go.Grp
namespace Go.Proofs
open Go.Ab Go.Lie Go.Grp Go.Mx
variable {σ h:PHeap} {K:PV→PHeap→Prop} {p c:Int} {n m s:Nat} {x y v w:List Int} {A B F u:List (List Int)} {vA vB vF v0:PV} {rows:List SR}
theorem zCE (hp:isP p) (hA:Ma p n A) (hn:n≤16) (hal:A.length≤8) (hvA:FII vA A) (hk:∀z u,FII z u→Canon p (n+A.length) (W0 (n+A.length)) (wd A) u→K z σ):zB Try.prog 104 [.int .i64 p,vA] σ K:=by
 have hq:pr7 p:=hp;obtain⟨wA,aA,rA,rfl,hrA⟩:=hvA;refine zB.pwf fun w0=>zB.gh ?_
 refine zC mix Try.func104 ?_
 conv=>arg 2;cbv
 refine zD rfl ?_;simp only [pwA,seval,-iQ0];refine zGD hal fun vU hU=>?_
 obtain⟨wU,aU,rU,rfl,hrU⟩:=hU;rw [q8];simp only [pwA,seval,-iQ0];refine zAN (fun k us h=>∃(i:Nat) (v0:PV) (rows:List PV),i≤A.length∧k=A.length-i∧us=[.int .i64 p,.fz wA aA A.length rA,.fz wU aU A.length rU,v0,.int .i64 i]∧Keep σ h∧PSl σ.next 1 h v0 i rows∧All2 FI rows ((wd A).take i)) A.length (.here ⟨0,_,[],by omega,by omega,rfl,zF σ _,PSl.new _ 1 rfl (Nat.le_refl _),by rw [List.take_zero];exact All2.nil _⟩) ?_
 rintro k us h ⟨i,v0,rows,hi,rfl,rfl,hkp,ha,hall⟩
 simp only [pwA,seval,-iQ0];refine iteI (fun hlt=>?_) fun hge=>?_
 rotate_left
 ·have hie:i=A.length:=by omega
  subst hie;rw [List.take_of_length_le (by rw [zb];exact Nat.le_refl _)]at hall
  obtain⟨s0,cap,rfl,hf,q2,q3,q4,q5⟩:=ha;simp only [pwA,seval,-iQ0];refine zB.frz q2 (hall.bI 0) fun o1=>?_
  simp only [sbs,sb,hf.ok,and_self,if_true,nm_eq];refine zD0 hp (wd_el hq hA) (by rw [zb];omega) (by omega) (vL:=.fz true (.sl o1 0 A.length cap) A.length rows) ⟨true,_,rows,by rw [zb],hall⟩ fun z u hz hu=>?_
  simp only [pwA,seval,-iQ0];exact Gh.fin0 (hkp.kill q4) (hz.bel _) (hk z u hz hu)
 obtain⟨w4,a4,hr⟩:=hrA.rowI hlt;have hiU:i<(idm A.length).length:=by rw [q8];exact hlt
 obtain⟨w5,a5,hr5⟩:=hrU.rowI hiU;have eu:(idm A.length)[i]=uv A.length i:=by rw [←zP hiU,zJi hlt]
 rw [eu]at hr5
 have hul:(uv A.length i).length=A.length:=by simp [uv]
 have hl:=(hA _ (List.getElem_mem hlt)).len;have hkn:=hkp.next;simp only [pwA,seval,-iQ0,hlt,hr,hr5];refine Zf rfl (by omega) fun cap hcap=>?_
 have r5:(h.new (pis A[i])).obj h.next=some (pis A[i]):=by rw [zN,if_pos rfl]
 simp only [pwA,seval,-iQ0,hr5];refine PSl.cat (bytes:=8) (σb:=h) (m:=(uv A.length i).length) (news:=pis (uv A.length i)) (zF _ _) (PSl.own hcap r5 (by rw [zJ,Nat.mul_one]) (Nat.le_refl _) (Nat.lt_succ_self _)) (zJ _) (by omega) (by omega) fun v1 h1 k1 a1=>?_
 obtain⟨t,cap1,rfl,c1,c2,c3,c4,c5⟩:=a1;rw [Zk]at c2
 have hwl:A[i].length+(uv A.length i).length=n+A.length:=by omega
 simp only [pwA,seval,-iQ0];refine PAcc.pushS (σb:=σ) (bytes:=24) (hkp.trans k1) (ha.keep k1).acc rfl (by omega) (by omega) fun v2 h3 k3 a3 o3 n3 l3=>?_
 simp only [pwA,seval,-iQ0,wrapS hlt (by omega:A.length≤4611686018427387904)]
 have vne:∀off l c,v0≠.sl t off l c:=ha.acc.ne c4
 refine⟨A.length-(i+1),by omega,.fzh t (pis (A[i]++uv A.length i)) (by rw [o3 t c5 vne];exact c2) (zi _ _) fun o1=>?_⟩
 obtain⟨f1,f2,f3⟩:=PSl.fzr w0 k3 a3 (s:=t) (cs:=pis (A[i]++uv A.length i)) (by omega) (n3 t c5) o1
 refine .here ⟨i+1,v2,rows++[.fz true (.sl o1 0 (A[i].length+(uv A.length i).length) cap1) (A[i].length+(uv A.length i).length) (pis (A[i]++uv A.length i))],by omega,rfl,?_,f1,?_,?_⟩
 ·simp only [sbs,sb,f3]
 ·rw [zFM (hall.bI 0) c1.ok]at f2
  exact f2
 ·rw [zFJ hlt]
  exact hall.snoc ⟨true,_,by rw [List.length_append]⟩
theorem zGE (hp:isP p) (hA:Ma p n A) (hn:n≤16) (hal:A.length≤8) (hvA:FII vA A) (hk:∀z u,FII z (nul n u)→Canon p (n+A.length) (W0 (n+A.length)) (wd A) u→K z σ):zB Try.prog 112 [.int .i64 p,vA,.int .i64 n] σ K:=by
 have hq:pr7 p:=hp;refine zB.gh ?_;refine zC mix Try.func112 ?_
 conv=>arg 2;cbv
 refine zD rfl ?_;simp only [pwA,seval,-iQ0];refine zCE hp hA hn hal hvA fun zu u hzu hu=>?_
 have hul:=zAZ hq hA hu;obtain⟨wu,au,ru,rfl,hru⟩:=hzu;have hrow:∀i (h:i<u.length),u[i].length=n+A.length:=fun i h=>(hu.base.els _ (List.getElem_mem h)).1
 simp only [pwA,seval,-iQ0];refine zM (fun k us h=>∃(i:Nat) (v0:PV) (rows:List PV),i≤u.length∧k=u.length-i∧us=[.int .i64 n,.fz wu au u.length ru,v0,.int .i64 i]∧Keep σ h∧PSl σ.next 1 h v0 (nul n (u.take i)).length rows∧All2 FI rows (nul n (u.take i))) u.length ⟨0,_,[],by omega,by omega,rfl,zF σ _,by rw [List.take_zero];exact PSl.new _ 1 rfl (Nat.le_refl _),by rw [List.take_zero];exact All2.nil _⟩ ?_
 rintro k us h ⟨i,v0,rows,hi,rfl,rfl,hkp,ha,hall⟩
 have hnl:(nul n (u.take i)).length≤u.length:=by
  have:=Zb (n:=n) (u:=u.take i)
  rw [List.length_take]at this;omega
 simp only [pwA,seval,-iQ0];refine iteI (fun hlt=>?_) fun hge=>?_
 rotate_left
 ·have hie:i=u.length:=by omega
  subst hie;rw [List.take_length]at ha hall
  exact ha.fin hkp (hall.bI 0) fun o cap=>hk _ u ⟨true,_,rows,rfl,hall⟩ hu
 obtain⟨w4,a4,hr⟩:=hru.rowI hlt;have hl:=hrow i hlt;have h0n:(0:Int)≤((n:Nat):Int):=by omega
 have hnl2:((n:Nat):Int)≤(u[i].length:Int):=by omega
 have wi1:=wrapS hlt (by omega:u.length≤4611686018427387904)
 have htk:u.take (i+1)=u.take i++[u[i]]:=List.take_succ_eq_append_getElem hlt;simp only [pwA,seval,-iQ0,hlt,hr];refine Zn rfl (by omega) ?_
 by_cases hd:n≤dep u[i]
 ·have e1:nul n (u.take (i+1))=nul n (u.take i)++[u[i].drop n]:=by
   unfold nul Fp;rw [htk,List.filter_append,List.map_append];simp [hd]
  have hd':(n:Int)≤(dep u[i]:Int):=by omega
  have hnl3:n≤u[i].length:=by omega
  have htf:List.take (u[i].length-n) (pis (List.drop n u[i]))=pis (List.drop n u[i]):=List.take_of_length_le (by rw [zJ,List.length_drop];exact Nat.le_refl _)
  simp only [pwA,seval,-iQ0,hd',hlt,hr,h0n,hnl2,hnl3,htf,QZ,Nat.sub_zero];refine zB.fz (e:=1) (l:=(List.drop n u[i]).length) (cs:=pis (List.drop n u[i])) (fun K' k'=>Zf (by rw [List.length_drop]) (by rw [List.length_drop];omega) k') (zi _ _) fun o cap=>?_
  simp only [pwA,seval,-iQ0];refine PSl.push (bytes:=24) hkp ha (by omega) (by omega) fun v' h2 k2 a2=>?_
  simp only [pwA,seval,-iQ0,wi1];refine⟨_,by omega,i+1,v',rows++[.fz true (.sl o 0 (List.drop n u[i]).length cap) (List.drop n u[i]).length (pis (List.drop n u[i]))],by omega,rfl,rfl,k2,?_,?_⟩
  ·rw [e1,List.length_append];exact a2
  ·rw [e1]
   exact hall.snoc ⟨true,_,rfl⟩
 ·have e1:nul n (u.take (i+1))=nul n (u.take i):=by
   unfold nul Fp;rw [htk,List.filter_append,List.map_append];simp [hd]
  have hd':¬(n:Int)≤(dep u[i]:Int):=by omega
  simp only [pwA,seval,-iQ0,hd',wi1];exact⟨_,by omega,i+1,v0,rows,by omega,rfl,rfl,hkp,by rw [e1];exact ha,by rw [e1];exact hall⟩
theorem QJ (hp:isP p) (hA:Ma p n A) (hn:n≤16) (hal:A.length≤16) (hvA:FII vA A) (hk:∀z u,FII z (nul n u)→Canon p (n+A.length) (W0 (n+A.length)) (wd A) u→K (.agg [.int .i64 p,.int .i64 A.length,z]) σ):zB Try.prog 72 [.agg [.int .i64 p,.int .i64 n,vA]] σ K:=by
 have h1:=hvA.one;have hlen:pLen vA=some (.int .i64 A.length):=by obtain⟨w,a,r,rfl,_⟩:=hvA;rfl
 refine zB.gh ?_;generalize hH:(σ.new [.int .i64 p,.int .i64 n,vA]).new [.int .i64 0,.int .i64 0,.fz true .nils 0 []]=H;have hkp:Keep σ H:=by rw [←hH];exact(zF σ _).new _
 have m0:H.rd1 σ.next 0=some (.int .i64 p):=by rw [←hH];simp only [pwA,seval,-iQ0]
 have m1:H.rd1 σ.next 1=some (.int .i64 n):=by rw [←hH];simp only [pwA,seval,-iQ0]
 have m2:H.rd1 σ.next 2=some vA:=by rw [←hH];simp only [pwA,seval,-iQ0]
 have hor:H.obj (σ.next+1)=some [.int .i64 0,.int .i64 0,.fz true .nils 0 []]:=by rw [←hH];simp only [pwA,seval,-iQ0]
 refine zC mix Try.func72 ?_
 conv=>arg 2;cbv
 refine zD rfl ?_;simp only [pwA,seval,-iQ0,h1];rw [hH];simp only [pwA,seval,-iQ0,m0,m1,m2,hlen];refine zBG hp hA hn hal hvA fun z u hz hu=>?_
 obtain⟨w1,r1⟩:=res3 (a:=p) (b:=(A.length:Int)) hor hz.one;simp only [pwA,seval,-iQ0,m0,m1,m2,hlen,w1,r1,hz.one,hz.cells];exact Gh.fin0 (hkp.set (by omega) _) ⟨trivial,trivial,hz.bel _,trivial⟩ (hk z u hz hu)
theorem zEV (hm:isMx p n F) (hF:FII vF F) (hk:∀z u,FII z (nul n u)→Canon p (n+F.length) (W0 (n+F.length)) (wd F) u→K (.tup [.agg [.int .i64 p,.int .i64 F.length,z],.int .i64 0]) σ):zB Try.prog 29 [.agg [.int .i64 p,.int .i64 n,vF]] σ K:=by
 have h1:=hF.one;obtain⟨n',e,hn,hp,hl,hA⟩:=mx_n hm
 have:n'=n:=by omega
 subst this;have sz:SzL F:=⟨by omega,fun r hr=>by rw [(hA r hr).len];omega⟩
 refine zB.gh ?_;generalize hH:(σ.new [.int .i64 p,.int .i64 n',vF]).new [.int .i64 0,.int .i64 0,.fz true .nils 0 []]=H;have hkp:Keep σ H:=by rw [←hH];exact(zF σ _).new _
 have g0:H.rd σ.next 0 3=some [.int .i64 p,.int .i64 n',vF]:=by rw [←hH];simp only [pwA,seval,-iQ0]
 have hor:H.obj (σ.next+1)=some [.int .i64 0,.int .i64 0,.fz true .nils 0 []]:=by rw [←hH];simp only [pwA,seval,-iQ0]
 refine zC mix Try.func29 ?_
 conv=>arg 2;cbv
 refine zD rfl ?_;simp only [pwA,seval,-iQ0,h1];rw [hH];simp only [pwA,seval,-iQ0,g0];refine qb sz hF fun t ht=>?_
 obtain rfl:t=true:=ht.2 hm;simp only [pwA,seval,-iQ0,g0];refine QJ hp hA (by omega) (by omega) hF fun v u hv hu=>?_
 obtain⟨w1,r1⟩:=res3 (a:=p) (b:=(F.length:Int)) hor hv.one;simp only [pwA,seval,-iQ0,w1,r1,hv.one,hv.cells];exact Gh.fin0 (hkp.set (by omega) _) ⟨⟨trivial,trivial,hv.bel _,trivial⟩,trivial,trivial⟩ (hk v u hv hu)
end Go.Proofs
namespace Go.Grp
end Go.Grp
namespace Go.Proofs
open Go.Ab Go.Lie Go.Grp Go.Mx
variable {σ h:PHeap} {K:PV→PHeap→Prop} {p c:Int} {n m s:Nat} {x y v w b:List Int} {A B F u:List (List Int)} {vA vB vF vU v0 vx vb:PV} {rows:List SR}
theorem zHs {off l:Nat} {cap:Cap} {xs:List Int} (hr:σ.rd s off l=some (pis xs)) (hs:s<σ.next) (hl:l=xs.length) (hb:xs.length≤1000000) (hk:∀cap,full 1 cap xs.length→K (.sl σ.next 0 xs.length cap) (σ.new (pis xs))):zB Try.prog 103 [.sl s off l cap] σ K:=by
 subst hl;refine zB.gh ?_;refine zC mix Try.func103 ?_
 conv=>arg 2;cbv
 refine zD rfl ?_;simp only [pwA,seval,-iQ0];refine PSl.app (b:=0) (bytes:=8) (σb:=σ) (n:=0) (cs:=[]) (m:=xs.length) (news:=pis xs) (zF σ _) (Nat.zero_le _) (PSl.new _ 1 rfl (Nat.le_refl _)) rfl (fun h0=>?_) (by rw [zJ];omega) (by omega) (by omega) fun v' h' hk' ha=>?_
 ·rw [QA,if_neg h0,if_pos (Nat.le_refl _),Nat.mul_one]
  rw [zAA,if_neg (by omega)]
  exact hr
 ·simp only [pwA,seval,-iQ0]at ha ⊢
  exact ha.out hk' (zi _ _) hk
theorem PSl.catZ {σb h:PHeap} {n m:Nat} {v:PV} {xs:List Int} {k:IntKind} {K:PV→PHeap→Prop} (hk:Keep σb h) (a:PSl σb.next 1 h v n (pis xs)) (hb:n+m≤1000) (kk:∀v' h',Keep σb h'→PSl σb.next 1 h' v' (n+m) (pis (xs++List.replicate m 0))→K v' h'):Qc 1 8 [.int .i64 0] v (.int k m) h K:=by
 have A:=PSl.cat (bytes:=8) (w:=true) (av:=.nils) (m:=m) (news:=pis (List.replicate m 0)) (K:=fun q=>K q.1 q.2) hk a (by rw [zJ,List.length_replicate]) (by omega) (by omega) fun v' h' k' a'=>kk v' h' k' (by rw [Zk]at a';exact a')
 obtain⟨s,cap,rfl,_⟩:=a;rw [zHL];refine⟨⟨by omega,by omega,by omega⟩,?_⟩
 rw [QM]at A
 rw [Int.toNat_natCast]
 by_cases h0:m=0
 ·subst h0
  simp only [zCd,Option.bind_some,if_true]at A
  rw [if_neg (by omega)]
  exact A
 ·simp only [zCd,Option.bind_some,if_neg h0,zAi,Nat.mul_one]at A
  rw [if_pos ⟨Nat.le_refl _,by rw [zJ,List.length_replicate];exact Nat.le_refl _,by omega⟩]at A
  rw [if_pos (by omega)]
  have e:ofAVs (zeros [.int .i64 0] m)=pis (List.replicate m 0):=by
   rw [QU];rw [zCf];exact ZP m 0
  rw [e];simp only [Option.bind_some]at A
  rw [List.take_of_length_le (by rw [zJ,List.length_replicate];exact Nat.le_refl _)]at A
  exact A
theorem Zi {ca:PV} (hp:isP p) (hu:∀r∈u,Led p n r) (hul:u.length≤1000) (hx:El p n x) (hn:n≤1000) (hvu:FII vU u) (hca:ca.one=true) (hcl:∀{g:PHeap} {K':PV→PHeap→Prop},Keep σ g→ResI g K' x→zB Try.prog 103 [vx] g K')
  (hk:∀z,FI z (redL p (W0 n) u x)→K z σ):zB Try.prog 83 [.agg [.int .i64 p,ca,vU],vx] σ K:=by
 have hpb:=hp.bd;have hq:pr7 p:=hp;have o:=W0_ok hpb n;have h1:=hvu.one;have hvu0:=hvu;have hdl:∀r∈u,dep r<r.length∧r.length≤1048576:=fun r hr=>by
  have:=hu r hr
  have h2:=this.1.1;have h3:=this.2.1;omega
 obtain⟨wu,au,ru,rfl,hru⟩:=hvu;refine zB.gh ?_;generalize hH:σ.new [.int .i64 p,ca,.fz wu au u.length ru]=H;have hHn:H.next=σ.next+1:=by rw [←hH];rfl
 have hkp:Keep σ H:=by rw [←hH];exact zF σ _
 have hob:H.obj σ.next=some [.int .i64 p,ca,.fz wu au u.length ru]:=by rw [←hH];simp only [pwA,seval,-iQ0]
 refine zC mix Try.func83 ?_
 conv=>arg 2;cbv
 refine zD rfl ?_;simp only [pwA,seval,-iQ0,h1,hca];rw [hH];simp only [pwA,seval,-iQ0];refine hcl hkp ⟨fun h0=>?_,fun cap hc=>?_⟩
 ·subst h0
  have hn0:n=0:=by rw [←hx.1];rfl
  have hu0:u=[]:=by
   rcases u with _|⟨r,u⟩
   ·rfl
   ·have:=(hu r (List.mem_cons_self ..)).2.1;omega
  subst hu0;have m2:H.rd1 σ.next 2=some (.fz wu au 0 ru):=by rw [zG hob];rfl
  simp only [pwA,seval,-iQ0,m2];refine zCw hvu0 hdl (by omega) fun v=>?_
  simp only [pwA,seval,-iQ0];refine zM (fun m vs h'=>m=0∧vs=[.ptr σ.next 0,.fz true .nils 0 [],.fz true v 0 (pis (deps [])),.int .i64 0,.int .i64 0]∧h'=H) 0 ⟨rfl,rfl,rfl⟩ ?_
  rintro m vs h' ⟨rfl,rfl,rfl⟩
  simp only [pwA,seval,-iQ0];exact Gh.fin0 hkp (show Bel _ (PV.fz true .nils 0 []) from trivial) (hk _ ⟨true,.nils,rfl⟩)
 have hxl:=hx.1;rw [hxl]at hc ⊢
 have st:∀y,(H.new (pis y)).obj σ.next=some [.int .i64 p,ca,.fz wu au u.length ru]:=fun y=>by rw [zN,if_neg (by omega)];exact hob
 have m2:∀y,(H.new (pis y)).rd1 σ.next 2=some (.fz wu au u.length ru):=fun y=>by rw [zG (st y)];rfl
 have m0:∀y,(H.new (pis y)).rd1 σ.next 0=some (.int .i64 p):=fun y=>by rw [zG (st y)];rfl
 have hne:¬σ.next=H.next:=by omega
 have M2:H.rd1 σ.next 2=some (.fz wu au u.length ru):=by rw [zG hob];rfl
 have M0:H.rd1 σ.next 0=some (.int .i64 p):=by rw [zG hob];rfl
 simp only [pwA,seval,-iQ0,m2,M2,hne];refine zCw hvu0 hdl (by omega) fun v=>?_
 simp only [pwA,seval,-iQ0];refine zM (fun m vs h'=>∃i:Nat,i≤u.length∧m=u.length-i∧vs=[.ptr σ.next 0,.sl H.next 0 n cap,.fz true v u.length (pis (deps u)),.int .i64 u.length,.int .i64 i]∧h'=H.new (pis (redL p (W0 n) (u.take i) x))) u.length ⟨0,by omega,by omega,rfl,rfl⟩ ?_
 rintro m vs h' ⟨i,hi,rfl,rfl,rfl⟩
 have hyE:El p n (redL p (W0 n) (u.take i) x):=qc o (fun r hr=>(hu r (List.mem_of_mem_take hr)).1) hx
 simp only [pwA,seval,-iQ0];refine iteI (fun hlt=>?_) fun hge=>?_
 rotate_left
 ·have hie:i=u.length:=by omega
  subst hie;rw [List.take_length]at hyE ⊢
  refine Gh.finF (s:=H.next) (hkp.new _) (by rw [zN,if_pos rfl]) (by omega) (zi _ _) hc.ok fun o=>hk _ ⟨true,.sl o 0 n cap,by rw [hyE.1]⟩
 obtain⟨w4,a4,hr⟩:=hru.rowI hlt;have hL:=hu _ (List.getElem_mem hlt);have hd:=hL.2.1;have hrl:=hL.1.1;have hidd:i<(deps u).length:=by simp [deps];exact hlt
 have hde:(deps u)[i]=(dep u[i]:Int):=by simp [deps]
 have hred:redL p (W0 n) (u.take (i+1)) x=vstep p (0-at_ (redL p (W0 n) (u.take i) x) (dep u[i])) u[i] (redL p (W0 n) (u.take i) x):=by
  rw [List.take_succ_eq_append_getElem hlt,zCs,zDX hpb hyE.1 hrl]
  congr 1;omega
 generalize redL p (W0 n) (u.take i) x=y at *
 have hyl:=hyE.1;have hdy:dep u[i] < y.length:=by omega
 have hyb:=(el_ve (by omega) hyE).bd (dep u[i])
 rw [at_eq hdy]at hyb hred
 have ewn:IntKind.i64.wrap (0-y[dep u[i]])=0-y[dep u[i]]:=wrap64 (by omega) (by omega)
 have r5:(H.new (pis y)).rd1 H.next (dep u[i])=some (.int .i64 y[dep u[i]]):=by rw [zG (cs:=pis y) (by rw [zN,if_pos rfl]),zQ,gi hdy];rfl
 have hdn:((dep u[i]:Nat):Int)<(n:Int):=by omega
 simp only [pwA,seval,-iQ0,hlt,hr,zQ,gi hidd,hde,m2,m0,M0,M2,hne,r5,hd,hdy,gi hdy,ewn];refine Z7 (xs:=y) (ys:=u[i]) (by omega) (by rw [zN,if_pos rfl]) hyl.symm rfl (by omega) (by omega) (fun t g1 g2=>?_) ?_
 ·have b1:=(el_ve (by omega) hyE).bd t
  have b2:=(el_ve (by omega) hL.1).bd t
  rw [at_eq g1]at b1
  rw [at_eq g2]at b2
  have:=sm7 (a:=0-y[dep u[i]]) (b:=u[i][t]) (by omega) (by omega)
  unfold sm2;omega
 simp only [pwA,seval,-iQ0,wrapS hlt (by omega:u.length≤4611686018427387904)]
 refine⟨_,by omega,i+1,by omega,rfl,rfl,?_⟩
 rw [hred]
theorem zDT {i:Nat} (hi:i<u.length):top n (u.take (i+1))=if dep u[i] < n then top n (u.take i)++[u[i]]else top n (u.take i):=by
 rw [List.take_succ_eq_append_getElem hi];unfold top;rw [List.filter_append]
 by_cases h:dep u[i] < n<;>simp [h]
theorem zE5 (hp:isP p) (hA:Ma p n A) (hn:n≤8) (hal:A.length≤8) (hvA:FII vA A) (hb:El p n b) (hvb:FI vb b) (hk1:∀z u,FI z (redL p (W0 A.length) (nul n u) (scl p (p-1) ((left p n A.length u b).drop n)))→Canon p (n+A.length) (W0 (n+A.length)) (wd A) u→isZ ((left p n A.length u b).take n)→K (.tup [z,.bool true]) σ)
  (hk0:∀u,Canon p (n+A.length) (W0 (n+A.length)) (wd A) u→¬isZ ((left p n A.length u b).take n)→K (.tup [.fz true .nils 0 [],.bool false]) σ):zB Try.prog 80 [.int .i64 p,vA,.int .i64 n,vb] σ K:=by
 have hq:pr7 p:=hp;have hpb:=hp.bd;have hlen:pLen vA=some (.int .i64 A.length):=by obtain⟨w,a,r,rfl,_⟩:=hvA;rfl
 have hbl:=hb.1;have hvA0:=hvA;obtain⟨wA,aA,rA,rfl,hrA⟩:=hvA;obtain⟨wb,ab,rfl⟩:=hvb;refine zB.pwf fun w0=>zB.gh ?_
 refine zC mix Try.func80 ?_
 conv=>arg 2;cbv
 refine zD rfl ?_;simp only [pwA,seval,-iQ0];refine zCE hp hA (by omega) hal hvA0 fun zu u hzu hu=>?_
 have hul:=zAZ hq hA hu;obtain⟨wu,au,ru,rfl,hru⟩:=hzu;have hrow:∀i (h:i<u.length),u[i].length=n+A.length:=fun i h=>(hu.base.els _ (List.getElem_mem h)).1
 simp only [pwA,seval,-iQ0];refine Zf rfl (by omega) fun cap hcap=>?_
 simp only [pwA,seval,-iQ0,hlen];refine PSl.catZ (σb:=σ) (m:=A.length) (zF σ _) (PSl.own hcap (by rw [zN,if_pos rfl]) (by rw [zJ,Nat.mul_one]) (Nat.le_refl _) (Nat.lt_succ_self _)) (by omega) fun v1 h1 k1 a1=>?_
 obtain⟨t,cap1,rfl,c1,c2,c3,c4,c5⟩:=a1;rw [hbl]at c1 c3 ⊢
 simp only [pwA,seval,-iQ0];obtain⟨hE1,hE2⟩:=zBA (m:=A.length) hq hu.base.els hb;have tl:∀r∈top n u,Led p (n+A.length) r:=fun r hr=>hu.base.led _ (qO.1 hr).1
 have tlen:∀i,(top n (u.take i)).length≤u.length:=fun i=>by
  have:=Zb (n:=n) (u:=u.take i)
  rw [List.length_take]at this;omega
 refine zAN (fun k us h=>∃(i:Nat) (v0:PV) (a9:AV) (rows:List PV),i≤u.length∧k=u.length-i∧us=[.int .i64 p,.fz wA aA A.length rA,.int .i64 n,.fz wu au u.length ru,.fz true a9 (n+A.length) (pis (b++List.replicate A.length 0)),v0,.int .i64 i]∧Keep σ h∧PSl σ.next 1 h v0 (top n (u.take i)).length rows∧All2 FI rows (top n (u.take i))) u.length ?_ ?_
 ·have k2:Keep σ (h1.new []):=k1.new []
  have a2:PSl σ.next 1 (h1.new []) (.sl h1.next 0 0 (.known 0)) 0 []:=PSl.new _ 1 rfl k1.next;refine .fzh t (pis (b++List.replicate A.length 0)) (by rw [zN,if_neg (by omega)];exact c2) (zi _ _) fun o1=>?_
  obtain⟨f1,f2,f3⟩:=PSl.fzr w0 k2 a2 (s:=t) (cs:=pis (b++List.replicate A.length 0)) (by omega) (fun off l c e=>by cases e;omega) o1
  refine .here ⟨0,.sl h1.next 0 0 (.known 0),.sl o1 0 (n+A.length) cap1,[],by omega,by omega,?_,f1,?_,?_⟩
  ·simp only [pwA,seval,-iQ0]
   have hne:¬h1.next=t:=by omega
   simp only [sbs,sb,c1.ok,hne,and_self,if_true,false_and,if_false];rfl
  ·rw [List.take_zero];exact f2
  ·rw [List.take_zero];exact All2.nil _
 rintro k us h ⟨i,v0,a9,rows,hi,rfl,rfl,hkp,ha,hall⟩
 have tli:=tlen i;simp only [pwA,seval,-iQ0];refine iteI (fun hlt=>?_) fun hge=>?_
 ·obtain⟨w4,a4,hr⟩:=hru.rowI hlt
  have hl:=hrow i hlt;have wi1:=wrapS hlt (by omega:u.length≤4611686018427387904)
  have ts:=zDT (n:=n) hlt;simp only [pwA,seval,-iQ0,hlt,hr];refine Zn rfl (by omega) ?_
  by_cases hd:dep u[i] < n
  ·have hd':(dep u[i]:Int)<(n:Int):=by omega
   rw [if_pos hd]at ts
   simp only [pwA,seval,-iQ0,hd',hlt,hr];refine PSl.push (bytes:=24) hkp ha (by omega) (by omega) fun v' h2 k2 a2=>?_
   simp only [pwA,seval,-iQ0,wi1];refine⟨u.length-(i+1),by omega,.here ⟨i+1,v',a9,rows++[.fz w4 a4 u[i].length (pis u[i])],by omega,rfl,rfl,k2,?_,?_⟩⟩
   ·rw [ts,List.length_append];exact a2
   ·rw [ts];exact hall.snoc ⟨w4,a4,rfl⟩
  ·have hd':¬(dep u[i]:Int)<(n:Int):=by omega
   rw [if_neg hd]at ts
   simp only [pwA,seval,-iQ0,hd',wi1];exact⟨u.length-(i+1),by omega,.here ⟨i+1,v0,a9,rows,by omega,rfl,rfl,hkp,by rw [ts];exact ha,by rw [ts];exact hall⟩⟩
 have hie:i=u.length:=by omega
 subst hie;rw [List.take_length]at ha hall tli
 obtain⟨s0,cap0,rfl,hf,q2,q3,q4,q5⟩:=ha;simp only [pwA,seval,-iQ0];refine zB.frz q2 (hall.bI 0) fun o1=>?_
 simp only [sbs,sb,hf.ok,and_self,if_true,nm_eq];refine Qy hp tl (by omega) hE1 (by omega) (vu:=.fz true (.sl o1 0 (top n u).length cap0) (top n u).length rows) (vx:=.fz true a9 (n+A.length) (pis (b++List.replicate A.length 0))) ⟨true,_,rows,rfl,hall⟩ ⟨true,a9,by rw [hE1.1]⟩ fun z hz=>?_
 have hlE:El p (n+A.length) (left p n A.length u b):=hE2;have hsol:=fun h0=>zBh hq hA hu hb h0
 have hz':FI z (left p n A.length u b):=hz;have hk1':=fun z h=>hk1 z u h hu
 have hk0':=hk0 u hu;generalize left p n A.length u b=L at *
 clear hz;have hLl:=hlE.1;obtain⟨wz,az,rfl⟩:=hz';have h0n:(0:Int)≤((n:Nat):Int):=by omega
 have hnl2:((n:Nat):Int)≤(L.length:Int):=by omega
 have hnl3:n≤L.length:=by omega
 have htf:List.take (L.length-n) (pis (List.drop n L))=pis (List.drop n L):=List.take_of_length_le (by rw [zJ,List.length_drop];exact Nat.le_refl _)
 have hk2:=hkp.kill q4;simp only [pwA,seval,-iQ0,h0n,hnl2,hnl3,zBf,Nat.sub_zero];refine zGF (by simp;omega) (by simp;omega) ?_
 by_cases hzz:isZ (L.take n)
 rotate_left
 ·simp only [pwA,seval,-iQ0,hzz]
  exact Gh.fin0 hk2 ⟨trivial,trivial,trivial⟩ (hk0' hzz)
 have hz0:∀j,j<n→at_ L j=0:=fun j hj=>by
  have:=hzz (at_ L j) (by rw [at_eq (by omega),List.mem_take_iff_getElem];exact⟨j,by omega,rfl⟩)
  exact this
 obtain⟨hS,_⟩:=hsol hz0;have ew:IntKind.i64.wrap (p-1)=p-1:=wrap64 (by omega) (by omega)
 have hdE:El p A.length (L.drop n):=zAH hlE;have hdV:Ve p A.length (L.drop n):=el_ve (by omega) hdE
 simp only [pwA,seval,-iQ0,hzz,h0n,hnl2,hnl3,htf,QZ,Nat.sub_zero,ew];refine Qx hpb (by omega) hdV (by omega) ⟨false,pslA 1 az n L.length,by rw [List.length_drop]⟩ fun zs hzs=>?_
 simp only [pwA,seval,-iQ0];refine zGE hp hA (by omega) hal hvA0 fun zk u' hzk hu'=>?_
 obtain rfl:u'=u:=hu'.unique (W0_ok hq.ok _) hu;obtain⟨cn,_⟩:=zAm hq hA hu;have nlen:(nul n u').length≤u'.length:=by
  have:=Zb (n:=n) (u:=u')
  omega
 simp only [pwA,seval,-iQ0];refine Qy hp cn.base.led (by omega) (ve_el hS) (by omega) hzk hzs fun zf hzf=>?_
 simp only [pwA,seval,-iQ0];exact Gh.fin0 hk2 ⟨hzf.bel _,trivial,trivial⟩ (hk1' zf hzf hzz)
end Go.Proofs
namespace Go.Grp
end Go.Grp
namespace Go.Proofs
open Go.Ab Go.Lie Go.Grp Go.Mx
variable {σ h:PHeap} {K:PV→PHeap→Prop} {p c:Int} {n m s:Nat} {x y v w b:List Int} {A B F u:List (List Int)} {vA vB vF vU v0 vx vb:PV} {rows:List SR}
theorem zHb {l:Nat} {cap:Cap} {xs ys:List Int} (ho:σ.obj s=some (pis (xs++ys))) (hl:l=xs.length) (hb:xs.length≤4611686018427387904) (hk:K (.bool (decide (isZ xs))) σ):zB Try.prog 82 [.sl s 0 l cap] σ K:=by
 subst hl;refine zC mix Try.func82 ?_
 conv=>arg 2;cbv
 refine zD rfl ?_;simp only [pwA,seval,-iQ0];refine zM (fun m vs h'=>∃i:Nat,i≤xs.length∧m=xs.length-i∧vs=[.sl s 0 xs.length cap,.int .i64 xs.length,.int .i64 i]∧h'=σ∧∀x∈xs.take i,x=0) xs.length ?_ ?_
 ·exact⟨0,by omega,by omega,rfl,rfl,by simp⟩
 ·rintro m vs h' ⟨i,hi,rfl,rfl,rfl,hall⟩
  simp only [pwA,seval,-iQ0]
  split
  ·rename_i hlt
   have hlt2:i<(xs++ys).length:=by rw [List.length_append];omega
   have r1:h'.rd1 s i=some (.int .i64 xs[i]):=by rw [zG ho,zQ,gi hlt2,List.getElem_append_left hlt];rfl
   simp only [pwA,seval,-iQ0,hlt,r1]
   split
   ·rename_i h0
    simp only [pwA,seval,-iQ0,wrapS hlt hb];exact⟨_,by omega,i+1,by omega,rfl,rfl,ZU hlt hall h0⟩
   ·rename_i hn
    exact pkf hk fun hv=>hn (hv _ (List.getElem_mem hlt))
  ·refine pkt hk (Zp (by omega) hall)
theorem zJE {x:Int} (hk:K (.bool (!decide (x=0))) σ):zB Try.prog 109 [.int .i64 x] σ K:=by
 refine zC mix Try.func109 ?_
 conv=>arg 2;cbv
 refine zD rfl ?_;simp only [pwA,seval,-iQ0];exact hk
theorem zJ4:okF Try.prog 109=true:=by kernel_rfl
theorem zDM {l:Nat} {w:Bool} {a:AV} {xs:List Int} (hl:l=xs.length) (hb:xs.length≤1048576) (hd:dep xs<xs.length) (hk:K (.int .i64 (dep xs)) σ):
  zB Try.prog 108 [.fz w a l (pis xs),.clo 109 [] []] σ K:=by
 subst hl;refine zC mix Try.func108 ?_
 conv=>arg 2;cbv
 refine zD rfl ?_;simp only [pwA,seval,-iQ0];refine zM (fun m vs h'=>∃i:Nat,i≤dep xs∧m=dep xs-i∧vs=[.fz w a xs.length (pis xs),.clo 109 [] [],.int .i64 xs.length,.int .i64 i]∧σ=h') (dep xs) ?_ ?_
 ·exact⟨0,by omega,by omega,rfl,rfl⟩
 rintro m vs h' ⟨i,hi,rfl,rfl,rfl⟩
 have hlt:i<xs.length:=by omega
 simp only [pwA,seval,-iQ0,hlt,zQ,gi hlt];refine⟨zJ4,zJE ?_⟩
 by_cases h0:xs[i]=0
 ·have hid:i<dep xs:=by
   rcases Nat.lt_or_ge i (dep xs)with x|x
   ·exact x
   ·have:i=dep xs:=by omega
    subst this;exact absurd (by rw [at_eq hlt];exact h0) (qP hlt)
  simp only [pwA,seval,-iQ0,h0,ne_eq,not_true,decide_false,wrapS hlt (by omega:xs.length≤4611686018427387904)]
  exact⟨_,by omega,i+1,by omega,rfl,rfl⟩
 ·have hid:i=dep xs:=by
   rcases Nat.lt_or_ge i (dep xs)with x|x
   ·exact absurd (by rw [←at_eq hlt];exact zR x) h0
   ·omega
  subst hid;simp only [pwA,seval,-iQ0,h0,ne_eq,not_false_iff,decide_true];exact hk
theorem zHt {w:Bool} {a:AV} {xs:List Int} {l:Nat} (hl:l=xs.length) (hb:xs.length≤1000) (hk:∀v' h',Keep σ h'→PAcc σ.next 1 h' v' xs.length (pis xs)→K v' h'):zB Try.prog 103 [.fz w a l (pis xs)] σ K:=
 Qh hl (by omega) ⟨fun h0=>by subst h0;exact hk _ _ (Keep.refl σ) (PAcc.nil _ _ _),fun cap hc=>hk _ _ (zF σ _) (PSl.own hc (by rw [zN,if_pos rfl]) (by rw [zJ,Nat.mul_one]) (Nat.le_refl _) (Nat.lt_succ_self _)).acc⟩
theorem PAcc.catZ {σb h:PHeap} {n m:Nat} {v:PV} {xs:List Int} {k:IntKind} {K:PV→PHeap→Prop} (hk:Keep σb h) (a:PAcc σb.next 1 h v n (pis xs)) (hb:n+m≤1000) (kk:∀v' h',Keep σb h'→PAcc σb.next 1 h' v' (n+m) (pis (xs++List.replicate m 0))→K v' h'):Qc 1 8 [.int .i64 0] v (.int k m) h K:=by
 rcases a with ⟨rfl,e1,e2⟩|a
 ·have hx:xs=[]:=List.eq_nil_of_length_eq_zero (by rw [←zJ,e2];rfl)
  subst hx;subst e1;rw [zBS];refine⟨⟨by omega,by omega,by omega⟩,?_⟩
  rw [Int.toNat_natCast,List.nil_append,Nat.zero_add]at *
  by_cases h0:0<m
  ·rw [if_pos (by omega),QU,zCf,show(ofAV (.int .i64 0))=.int .i64 0 from rfl,ZP]
   exact kk _ _ (hk.new _) (PSl.own (.inl rfl) (by rw [zN,if_pos rfl]) (by rw [zJ,List.length_replicate,Nat.mul_one]) hk.next (Nat.lt_succ_self _)).acc
  ·obtain rfl:m=0:=by omega
   rw [if_neg (by omega)]
   exact kk _ _ hk (PAcc.nil _ _ _)
 ·exact PSl.catZ hk a hb fun v' h' k' a'=>kk v' h' k' a'.acc
theorem zGn {d:Nat} {cap:Cap} {s0:Nat} (hf:full 1 cap m) (hd:d≤m):∃cap',qg 1 (.sl s0 0 m cap) none (some (.int .i64 d)) none=some (.sl s0 0 d cap'):=by
 have h1:(0:Int)≤(d:Int)∧(d:Int)≤(m:Int):=by omega
 rcases hf with rfl|rfl
 ·exact⟨.grown 1,by rw [QY];simp [zO,qC,h1,hd]⟩
 ·exact⟨.known m,by rw [Zj];simp [zO,qC,h1,hd]⟩
end Go.Proofs
namespace Go.Grp
end Go.Grp
namespace Go.Proofs
open Go.Ab Go.Lie Go.Grp Go.Mx
variable {σ h:PHeap} {K:PV→PHeap→Prop} {p c:Int} {n m s:Nat} {x y v w b:List Int} {A B F u:List (List Int)} {vA vB vF vU v0 vx vb:PV} {rows:List SR}
def negT (p:Int) (L:List Int) (n i:Nat):List Int:=L.take n++((scl p (p-1) (L.drop n)).take i++(L.drop n).drop i)
theorem zDw {L:List Int} {i:Nat} (hn:n≤L.length) (hi:i≤L.length-n):(negT p L n i).length=L.length:=by
 unfold negT;simp only [List.length_append,List.length_take,List.length_drop,zg];omega
theorem zIg {L:List Int} {i:Nat} (hn:n≤L.length) (hi:n+i<L.length):(negT p L n i)[n+i]'(by rw [zDw hn (by omega)];exact hi)=L[n+i]:=by
 unfold negT;rw [List.getElem_append_right (by rw [List.length_take];omega)]
 simp only [List.length_take,Nat.min_eq_left hn,Nat.add_sub_cancel_left];rw [List.getElem_append_right (by simp [zg];omega)]
 simp only [List.length_take,zg,List.length_drop];rw [List.getElem_drop,List.getElem_drop]
 congr 1
 omega
theorem zIf {L:List Int} {i:Nat} (hp:0<p) (hn:n≤L.length) (hi:n+i<L.length):(negT p L n i).set (n+i) ((0-L[n+i]) % p)=negT p L n (i+1):=by
 have hd:i<(scl p (p-1) (L.drop n)).length:=by rw [zg,List.length_drop];omega
 have hv:(scl p (p-1) (L.drop n))[i]=(0-L[n+i]) % p:=by
  rw [←at_eq hd,qf,QT,at_eq hi];rw [show L[n+i] * (p-1)=(0-L[n+i])+L[n+i] * p by grind,Int.add_mul_emod_self_right]
 unfold negT;rw [List.set_append_right _ _ (by rw [List.length_take];omega)]
 congr 1
 simp only [List.length_take,Nat.min_eq_left hn,Nat.add_sub_cancel_left];rw [←hv,QS (by rw [zg]) hd]
theorem zGq {m d s0:Nat} {cap:Cap} (hf:full 1 cap m) (hd:d≤m):∃off cap',qg 1 (.sl s0 0 m cap) (some (.int .i64 d)) none none=some (.sl s0 off (m-d) cap')∧(off=d∨m=d∧off=0):=by
 have h1:(0:Int)≤(d:Int)∧(d:Int)≤(m:Int):=by omega
 rcases hf with rfl|rfl
 ·refine⟨d,.grown 1,?_,.inl rfl⟩
  rw [QY];simp [zO,qC,h1,hd]
 ·rw [Zj]
  by_cases e:m=d
  ·subst e
   exact⟨0,.known 0,by simp [zO,qC],.inr ⟨rfl,rfl⟩⟩
  ·exact⟨d,.known (m-d),by simp [zO,qC,h1,hd,e],.inl rfl⟩
theorem zDU (hp:isP p) (hA:Ma p n A) (hn:n≤8) (hal:A.length≤8) (hvA:FII vA A) (hb:El p n b) (hvb:FI vb b) (hk1:∀z u,FI z (redL p (W0 A.length) (nul n u) (scl p (p-1) ((left p n A.length u b).drop n)))→Canon p (n+A.length) (W0 (n+A.length)) (wd A) u→isZ ((left p n A.length u b).take n)→K (.tup [z,.bool true]) σ)
  (hk0:∀u,Canon p (n+A.length) (W0 (n+A.length)) (wd A) u→¬isZ ((left p n A.length u b).take n)→K (.tup [.fz true .nils 0 [],.bool false]) σ):zB Try.prog 78 [.agg [.int .i64 p,.int .i64 n,vA],vb] σ K:=by
 have hq:pr7 p:=hp;have hpb:=hp.bd;have o:=W0_ok hpb (n+A.length);have hlen:pLen vA=some (.int .i64 A.length):=by obtain⟨w,a,r,rfl,_⟩:=hvA;rfl
 have hbl:=hb.1;have a1:=hvA.one;obtain⟨wb,ab,rfl⟩:=hvb;refine zB.gh ?_;generalize hH:σ.new [.int .i64 p,.int .i64 n,vA]=H;have hHn:H.next=σ.next+1:=by rw [←hH];rfl
 have hkp:Keep σ H:=by rw [←hH];exact zF σ _
 have hob:H.obj σ.next=some [.int .i64 p,.int .i64 n,vA]:=by rw [←hH];simp only [pwA,seval,-iQ0]
 have st:∀{g:PHeap},Keep H g→g.obj σ.next=some [.int .i64 p,.int .i64 n,vA]:=fun {g} k=>by rw [k.obj _ (by omega)];exact hob
 have m0:∀{g:PHeap},Keep H g→g.rd1 σ.next 0=some (.int .i64 p):=fun {g} k=>by rw [zG (st k)];rfl
 have m1:∀{g:PHeap},Keep H g→g.rd1 σ.next 1=some (.int .i64 n):=fun {g} k=>by rw [zG (st k)];rfl
 have m2:∀{g:PHeap},Keep H g→g.rd1 σ.next 2=some vA:=fun {g} k=>by rw [zG (st k)];rfl
 have m9:∀{g:PHeap},Keep H g→g.rd σ.next 0 3=some [.int .i64 p,.int .i64 n,vA]:=fun {g} k=>by rw [zm (st k)];rfl
 have q1:=m1 (Keep.refl H);have q2:=m2 (Keep.refl H);refine zC mix Try.func78 ?_
 conv=>arg 2;cbv
 refine zD rfl ?_;simp only [pwA,seval,-iQ0,a1];rw [hH];simp only [pwA,seval,-iQ0,q1,q2,hlen];refine zHt rfl (by omega) fun v1 h1 k1 c1=>?_
 have s2:=m2 k1;simp only [pwA,seval,-iQ0,hlen,s2];refine PAcc.catZ (m:=A.length) k1 c1 (by omega) fun v7 h7 k7 c7=>?_
 rw [hbl]at c7
 have r0:=m0 k7;have r2:=m2 k7;simp only [pwA,seval,-iQ0,r0,r2];refine Qj (n:=n) (fun r hr=>(hA r hr).len) (by omega) (by omega) hvA fun zw hzw=>?_
 simp only [pwA,seval,-iQ0,r0,r2];refine ZB (n:=n+A.length) hp (wd_el hq hA) (by omega) (by rw [zb];omega) hzw fun zu u hzu hu=>?_
 have hul:=zAZ hq hA hu;obtain⟨wu,au,ru,rfl,hru⟩:=hzu;have hrow:∀i (h:i<u.length),u[i].length=n+A.length:=fun i h=>(hu.base.els _ (List.getElem_mem h)).1
 obtain⟨hE1,hE2⟩:=zBA (m:=A.length) hq hu.base.els hb;obtain⟨cn,_⟩:=zAm hq hA hu;have nlen:(nul n u).length≤u.length:=by
  have:=Zb (n:=n) (u:=u)
  omega
 simp only [pwA,seval,-iQ0];rcases c7 with ⟨rfl,e1,e2⟩|c7
 ·-- nothing at all
  have hn0:n=0:=by omega
  subst hn0;have hA0:A=[]:=List.eq_nil_of_length_eq_zero (by omega)
  subst hA0;have hb0:b=[]:=List.eq_nil_of_length_eq_zero hbl;subst hb0;have hu0:u=[]:=List.eq_nil_of_length_eq_zero hul;subst hu0;refine zM (fun m vs h'=>m=0∧vs=[.ptr σ.next 0,.int .i64 0,.fz true .nils 0 [],.fz wu au 0 ru,.int .i64 0,.int .i64 0]∧h'=h7) 0 ⟨rfl,rfl,rfl⟩ ?_
  rintro m vs h' ⟨rfl,rfl,rfl⟩
  have el:left p 0 0 [] []=[]:=rfl;have hz:isZ (List.take 0 (left p 0 0 [] [])):=fun x hx=>by cases hx
  have g9:=m9 k7;simp only [pwA,seval,-iQ0,isZ];refine zAp (xs:=[]) rfl (by simp) ?_
  simp only [pwA,seval,-iQ0,show isZ [] from fun x hx=>by cases hx]
  refine zM (fun m vs h2=>m=0∧(∃wz az,vs=[.ptr σ.next 0,.fz wz az 0 [],.int .i64 0,.int .i64 0])∧h2=h') 0 ⟨rfl,⟨_,_,rfl⟩,rfl⟩ ?_
  rintro m vs h2 ⟨rfl,⟨wz,az,rfl⟩,rfl⟩
  simp only [pwA,seval,-iQ0,g9];refine QJ hp hA (by omega) (by omega) hvA fun z u' hzk hu'=>?_
  obtain rfl:u'=[]:=hu'.unique (W0_ok hq.ok _) hu;have z1:=hzk.one;have z2:=hzk.cells;simp only [pwA,seval,-iQ0,z1,z2];refine Zi (n:=0) (x:=[]) (u:=nul 0 []) hp (fun r hr=>by cases hr) (Nat.zero_le _) ⟨rfl,fun x hx=>by cases hx⟩ (by omega) hzk rfl (fun kg r=>Qh (xs:=[]) rfl (by simp) r) fun zf hzf=>?_
  simp only [pwA,seval,-iQ0];exact Gh.fin0 (hkp.trans k7) ⟨hzf.bel _,trivial,trivial⟩ (hk1 zf [] hzf hu hz)
 obtain⟨s,cap,rfl,hf,g2,g3,g4,g5⟩:=c7;have tl:∀i,∀r∈top n (u.take i),El p (n+A.length) r:=fun i r hr=>hu.base.els _ (List.mem_of_mem_take (qO.1 hr).1)
 have kk:∀y,Keep H (h7.set s (pis y)):=fun y=>k7.set g4 _
 refine zM (fun m vs h'=>∃i:Nat,i≤u.length∧m=u.length-i∧vs=[.ptr σ.next 0,.int .i64 n,.sl s 0 (n+A.length) cap,.fz wu au u.length ru,.int .i64 u.length,.int .i64 i]∧h'=h7.set s (pis (redL p (W0 (n+A.length)) (top n (u.take i)) (b++List.replicate A.length 0)))) u.length ⟨0,by omega,by omega,rfl,by rw [List.take_zero];exact(Zz g2).symm⟩ ?_
 rintro m vs h' ⟨i,hi,rfl,rfl,rfl⟩
 have hyE:=qc o (tl i) hE1;have ts:=fun hlt=>zDT (n:=n) (u:=u) (i:=i) hlt
 simp only [pwA,seval,-iQ0];refine iteI (fun hlt=>?_) fun hge=>?_
 ·obtain⟨w4,a4,hr⟩:=hru.rowI hlt
  have hL:=hu.base.led _ (List.getElem_mem hlt);have hrl:=hL.1.1;have hdl:=hL.2.1;have wi1:=wrapS hlt (by omega:u.length≤4611686018427387904)
  have ts:=ts hlt;have hred:=zCs (p:=p) (W:=W0 (n+A.length)) (top n (u.take i)) u[i] (b++List.replicate A.length 0);rw [zDX hpb hyE.1 hrl]at hred
  generalize hyy:redL p (W0 (n+A.length)) (top n (u.take i)) (b++List.replicate A.length 0)=y at *
  have hyl:=hyE.1;have hdy:dep u[i] < y.length:=by omega
  have hyb:=(el_ve (by omega) hyE).bd (dep u[i])
  rw [at_eq hdy]at hyb hred
  simp only [pwA,seval,-iQ0,hlt,hr];refine zDM rfl (by omega) (by omega) ?_
  by_cases hd:dep u[i] < n
  ·have hd':(dep u[i]:Int)<(n:Int):=by omega
   rw [if_pos hd]at ts
   have ewn:IntKind.i64.wrap (0-y[dep u[i]])=0-y[dep u[i]]:=wrap64 (by omega) (by omega)
   have r5:(h7.set s (pis y)).rd1 s (dep u[i])=some (.int .i64 y[dep u[i]]):=by rw [zG (cs:=pis y) (by rw [zL,if_pos rfl]),zQ,gi hdy];rfl
   have hdn:dep u[i] < n+A.length:=by omega
   have r0:=m0 (kk y);have hsn:¬σ.next=s:=by omega
   simp only [pwA,seval,-iQ0,hd',hlt,hr,zQ,r0,r5,hdn,hdy,gi hdy,ewn,hsn];refine Z7 (xs:=y) (ys:=u[i]) (by omega) (by rw [zL,if_pos rfl]) hyl.symm rfl (by omega) (by omega) (fun t g1 g2=>?_) ?_
   ·have b1:=(el_ve (by omega) hyE).bd t
    have b2:=(el_ve (by omega) hL.1).bd t
    rw [at_eq g1]at b1
    rw [at_eq g2]at b2
    have:=sm7 (a:=0-y[dep u[i]]) (b:=u[i][t]) (by omega) (by omega)
    unfold sm2;omega
   simp only [pwA,seval,-iQ0,wi1];refine⟨_,by omega,i+1,by omega,rfl,rfl,?_⟩
   rw [ts,hred,Int.zero_sub]
  ·have hd':¬(dep u[i]:Int)<(n:Int):=by omega
   rw [if_neg hd]at ts
   simp only [pwA,seval,-iQ0,hd',wi1];refine⟨_,by omega,i+1,by omega,rfl,rfl,?_⟩
   rw [ts,hyy]
 have hie:i=u.length:=by omega
 subst hie;rw [List.take_length]at hyE ⊢
 have eL:redL p (W0 (n+A.length)) (top n u) (b++List.replicate A.length 0)=left p n A.length u b:=rfl;rw [eL]at hyE ⊢
 have hk1':=fun z h=>hk1 z u h hu
 have hk0':=hk0 u hu;have hsol:=fun h0=>zBh hq hA hu hb h0
 generalize left p n A.length u b=L at *
 have hLl:=hyE.1;obtain⟨cap2,hsl2⟩:=zGn (s0:=s) hf (d:=n) (by omega)
 simp only [pwA,seval,-iQ0,hsl2];refine zHb (xs:=L.take n) (ys:=L.drop n) (by rw [zL,if_pos rfl,List.take_append_drop]) (by simp;omega) (by simp;omega) ?_
 by_cases hzz:isZ (L.take n)
 rotate_left
 ·simp only [pwA,seval,-iQ0,hzz]
  exact Gh.fin0 (hkp.trans (kk L)) ⟨trivial,trivial,trivial⟩ (hk0' hzz)
 obtain⟨off,capS,hsl,hoff⟩:=zGq (s0:=s) hf (d:=n) (by omega)
 rw [Nat.add_sub_cancel_left]at hsl
 simp only [pwA,seval,-iQ0,hzz,hsl];refine zM (fun k vs h'=>∃i:Nat,i≤A.length∧k=A.length-i∧vs=[.ptr σ.next 0,.sl s off A.length capS,.int .i64 A.length,.int .i64 i]∧h'=h7.set s (pis (negT p L n i))) A.length ⟨0,by omega,by omega,rfl,by unfold negT;rw [List.take_zero,List.drop_zero,List.nil_append,List.take_append_drop]⟩ ?_
 rintro k vs h' ⟨i,hi,rfl,rfl,rfl⟩
 have hTl:=zDw (p:=p) (L:=L) (n:=n) (i:=i) (by omega) (by omega)
 by_cases hlt:i<A.length
 ·obtain rfl:off=n:=by omega
  have hni:off+i<L.length:=by omega
  have hT:=zIg (p:=p) (L:=L) (n:=off) (i:=i) (by omega) hni
  have hTs:=zIf (p:=p) (L:=L) (n:=off) (i:=i) (by omega) (by omega) hni
  have hTi:off+i<(negT p L off i).length:=by omega
  have r5:(h7.set s (pis (negT p L off i))).rd1 s (off+i)=some (.int .i64 L[off+i]):=by rw [zG (cs:=pis (negT p L off i)) (by rw [zL,if_pos rfl]),zQ,gi hTi,hT];rfl
  have r0:=m0 (kk (negT p L off i));have hyb:=(el_ve (by omega) hyE).bd (off+i)
  rw [at_eq hni]at hyb
  have ewn:IntKind.i64.wrap (0-L[off+i])=0-L[off+i]:=wrap64 (by omega) (by omega)
  have hwr:(h7.set s (pis (negT p L off i))).wr s (off+i) [.int .i64 ((0-L[off+i]) % p)]=some (h7.set s (pis (negT p L off (i+1)))):=by
   rw [ql (cs:=pis (negT p L off i)) (by rw [zL,if_pos rfl]) (by rw [zJ];exact hTi) rfl,zAB,hTs,zAc]
  have hsn:¬σ.next=s:=by omega
  simp only [pwA,seval,-iQ0,hlt,r0,r5,ewn];refine QL (by omega) (by omega) ?_
  simp only [pwA,seval,-iQ0,hlt,hwr,r0,r5,ewn,wrapS hlt (by omega:A.length≤4611686018427387904)]
  exact⟨_,by omega,i+1,by omega,rfl,rfl,rfl⟩
 have hie:i=A.length:=by omega
 subst hie;have g9:=m9 (kk (negT p L n A.length));simp only [pwA,seval,-iQ0,hlt,Nat.lt_irrefl,g9];refine QJ hp hA (by omega) (by omega) hvA fun z u' hzk hu'=>?_
 obtain rfl:u'=u:=hu'.unique (W0_ok hq.ok _) hu;have z1:=hzk.one;have z2:=hzk.cells;have hdl:(L.drop n).length=A.length:=by rw [List.length_drop];omega
 have hsl9:(scl p (p-1) (L.drop n)).length=A.length:=by rw [zg];exact hdl
 simp only [pwA,seval,-iQ0,z1,z2];refine Zi (n:=A.length) (x:=scl p (p-1) (L.drop n)) (u:=nul n u') hp cn.base.led (by omega) (Q9 (by omega) hdl) (by omega) hzk rfl (fun {g K'} kg r=>zHs (xs:=scl p (p-1) (L.drop n)) ?_ ?_ hsl9.symm (by omega) r.2) fun zf hzf=>?_
 ·rw [zm (cs:=pis (negT p L n A.length)) (by rw [kg.obj _ g5,zL,if_pos rfl])]
  rw [if_pos (by rw [zJ];omega),QZ,zBf]
  congr 2
  rcases hoff with rfl|⟨e1,rfl⟩
  ·unfold negT
   rw [List.drop_left' (by rw [List.length_take];omega),List.take_append_of_le_length (by rw [List.length_take];omega),List.take_take,Nat.min_self,List.take_of_length_le (by omega)]
  ·have hA0:A.length=0:=by omega
   rw [hA0,List.take_zero];exact(List.eq_nil_of_length_eq_zero (by omega)).symm
 ·have:=kg.next
  exact Nat.lt_of_lt_of_le g5 this
 simp only [pwA,seval,-iQ0];exact Gh.fin0 (hkp.trans (kk _)) ⟨hzf.bel _,trivial,trivial⟩ (hk1' zf hzf hzz)
end Go.Proofs
namespace Go.Grp
end Go.Grp
namespace Go.Proofs
open Go.Ab Go.Lie Go.Grp Go.Mx
variable {σ h:PHeap} {K:PV→PHeap→Prop} {p c:Int} {n m s:Nat} {x y v w b:List Int} {A B F u:List (List Int)} {vA vB vF vU v0 vx vb:PV} {rows:List SR}
def isSp (p c:Int) (F:List (List Int)):Prop:=isMx p c F∧Canon p c.toNat (W0 c.toNat) F F
theorem zCp (sz:SzL F) (hF:FII vF F) (hk:∀t:Bool,(t=true↔isSp p c F)→K (.bool t) σ):zB Try.prog 56 [.agg [.int .i64 p,.int .i64 c,vF]] σ K:=by
 have h1:=hF.one;refine zB.gh ?_;generalize hH:σ.new [.int .i64 p,.int .i64 c,vF]=H;have hkp:Keep σ H:=by rw [←hH];exact zF σ _
 have hob:H.obj σ.next=some [.int .i64 p,.int .i64 c,vF]:=by rw [←hH];simp only [pwA,seval,-iQ0]
 have g0:H.rd σ.next 0 3=some [.int .i64 p,.int .i64 c,vF]:=by rw [zm hob];rfl
 have m2:H.rd1 σ.next 2=some vF:=by rw [zG hob];rfl
 refine zC mix Try.func56 ?_
 conv=>arg 2;cbv
 refine zD rfl ?_;simp only [pwA,seval,-iQ0,h1];rw [hH];simp only [pwA,seval,-iQ0,g0];refine qb sz hF fun t ht=>?_
 cases t with
 | false=>
  simp only [pwA,seval,-iQ0,g0];exact Gh.fin0 hkp trivial (hk false ⟨fun h=>(by cases h),fun h=>(by cases ht.2 h.1)⟩)
 | true=>
 have hm:=ht.1 rfl;obtain⟨n,rfl,hn,hp,hl,hA⟩:=mx_n hm;have hq:pr7 p:=hp;simp only [pwA,seval,-iQ0,g0,m2];refine zB2 hp (ma_el hA) (by omega) (by omega) hF fun z u hz hu=>?_
 have ul:u.length≤F.length:=zFP hq (ma_el hA) hu;have z1:=hz.one;have z2:=hz.cells;simp only [pwA,seval,-iQ0,g0,m2,z1,z2];refine zEb hz hF (by omega) (fun x hx=>by have:=(hu.base.els _ hx).1;omega) fun t ht2=>?_
 simp only [pwA,seval,-iQ0,g0,m2];refine Gh.fin0 hkp trivial (hk t ⟨fun h=>⟨hm,?_⟩,fun h=>ht2.2 ?_⟩)
 ·rw [Int.toNat_natCast]
  have:=ht2.1 h
  subst this;exact hu
 ·have:=h.2
  rw [Int.toNat_natCast]at this
  exact hu.unique (W0_ok hq.ok _) this
theorem zFI (hm:isMx p n u) (hu:Canon p n (W0 n) u u) (hU:FII vU u) (hb:El p n b) (hvb:FI vb b) (hg:Gen p n (W0 n) u (at_ b)) (hk:K (.tup [.bool true,.int .i64 0]) σ):zB Try.prog 39 [.agg [.int .i64 p,.int .i64 n,vU],vb] σ K:=by
 obtain⟨n',e,hn,hp,hl,hA⟩:=mx_n hm;obtain rfl:n'=n:=by omega
 have hq:pr7 p:=hp;have hpb:=hp.bd;have h1:=hU.one;have hbl:=hb.1;have sz:SzL u:=⟨by omega,fun r hr=>by rw [(hA r hr).len];omega⟩
 have hv0:=hvb;obtain⟨wb,ab,rfl⟩:=hvb;have hvv:isVec b p n':=⟨by omega,fun x hx=>by have:=hb.2 x hx;omega⟩
 refine zB.gh ?_;generalize hH:σ.new [.int .i64 p,.int .i64 n',vU]=H;have hkp:Keep σ H:=by rw [←hH];exact zF σ _
 have hob:H.obj σ.next=some [.int .i64 p,.int .i64 n',vU]:=by rw [←hH];simp only [pwA,seval,-iQ0]
 have g0:H.rd σ.next 0 3=some [.int .i64 p,.int .i64 n',vU]:=by rw [zm hob];rfl
 have m0:H.rd1 σ.next 0=some (.int .i64 p):=by rw [zG hob];rfl
 have m1:H.rd1 σ.next 1=some (.int .i64 n'):=by rw [zG hob];rfl
 refine zC mix Try.func39 ?_
 conv=>arg 2;cbv
 refine zD rfl ?_;simp only [pwA,seval,-iQ0,h1];rw [hH];simp only [pwA,seval,-iQ0,g0];refine zCp sz hU fun t ht=>?_
 obtain rfl:t=true:=ht.2 ⟨hm,by rw [Int.toNat_natCast];exact hu⟩
 simp only [pwA,seval,-iQ0,g0,m0,m1];refine Qz rfl (by omega) (by omega) (by omega) ?_
 simp only [pwA,seval,-iQ0,hvv,g0];refine Zi hp hu.base.led (by omega) hb (by omega) hU rfl (fun kg r=>Qh rfl (by omega) r) fun z hz=>?_
 have hrl:=(qc (W0_ok hq.ok n') hu.base.els hb).1;have hzz:isZ (redL p (W0 n') u b):=fun x hx=>by
  obtain⟨j,hj,rfl⟩:=List.mem_iff_getElem.1 hx;rw [←at_eq hj];exact(zCa (W0_ok hq.ok n') hu.base hb).2 hg j
 obtain⟨wz,az,rfl⟩:=hz;simp only [pwA,seval,-iQ0];refine zAp rfl (by omega) ?_
 simp only [pwA,seval,-iQ0,hzz];exact Gh.fin0 hkp ⟨trivial,trivial,trivial⟩ hk
def Sol (p c:Int) (F:List (List Int)) (b:List Int) (r:List Int) (e:Int):Prop:=
 (¬(isMx p c F∧isVec b p c)∧r=[]∧e=1)∨
 ∃(n:Nat) (u:List (List Int)),isMx p c F∧c=n∧n≤8∧F.length≤8∧isP p∧Ma p n F∧El p n b∧Canon p (n+F.length) (W0 (n+F.length)) (wd F) u∧
  ((isZ ((left p n F.length u b).take n)∧r=redL p (W0 F.length) (nul n u) (scl p (p-1) ((left p n F.length u b).drop n))∧e=0)∨(¬isZ ((left p n F.length u b).take n)∧r=[]∧e=4))
theorem Sol.unique {r r':List Int} {e e':Int} (a:Sol p c F b r e) (a':Sol p c F b r' e'):r=r'∧e=e':=by
 have vec:∀{n:Nat},c=n→El p n b→isVec b p c:=fun {n} hc hb=>⟨by rw [hb.1,hc],fun x hx=>by have:=hb.2 x hx;omega⟩
 rcases a with ⟨a1,rfl,rfl⟩|⟨n,u,a1,rfl,a2,a3,a4,a5,a6,a7,a8⟩
 ·rcases a' with ⟨b1,rfl,rfl⟩ | ⟨n,u,b1,b2,_,_,_,_,b6,_,_⟩
  ·exact⟨rfl,rfl⟩
  ·exact absurd ⟨b1,vec b2 b6⟩ a1
 ·rcases a' with ⟨b1,rfl,rfl⟩ | ⟨n',u',b1,b2,_,_,_,_,b6,b7,b8⟩
  ·exact absurd ⟨a1,vec rfl a6⟩ b1
  ·obtain rfl:n=n':=by omega
   have hq:pr7 p:=a4;obtain rfl:u=u':=a7.unique (W0_ok hq.ok _) b7;rcases a8 with ⟨c1,rfl,rfl⟩|⟨c1,rfl,rfl⟩
   ·rcases b8 with ⟨d1,rfl,rfl⟩ | ⟨d1,rfl,rfl⟩
    ·exact⟨rfl,rfl⟩
    ·exact absurd c1 d1
   ·rcases b8 with ⟨d1,rfl,rfl⟩ | ⟨d1,rfl,rfl⟩
    ·exact absurd d1 c1
    ·exact⟨rfl,rfl⟩
theorem zFE (hF:FII vF F) (sz:SzL F) (hvb:FI vb b) (hbl:b.length≤1000) (hk:∀v r e,FI v r→Sol p c F b r e→K (.tup [v,.int .i64 e]) σ):zB Try.prog 33 [.agg [.int .i64 p,.int .i64 c,vF],vb] σ K:=by
 have h1:=hF.one;have hv0:=hvb;obtain⟨wb,ab,rfl⟩:=hvb;have nilI:FI (.fz true .nils 0 []) []:=⟨true,.nils,rfl⟩;refine zB.gh ?_;generalize hH:σ.new [.int .i64 p,.int .i64 c,vF]=H;have hkp:Keep σ H:=by rw [←hH];exact zF σ _
 have hob:H.obj σ.next=some [.int .i64 p,.int .i64 c,vF]:=by rw [←hH];simp only [pwA,seval,-iQ0]
 have g0:H.rd σ.next 0 3=some [.int .i64 p,.int .i64 c,vF]:=by rw [zm hob];rfl
 have m0:H.rd1 σ.next 0=some (.int .i64 p):=by rw [zG hob];rfl
 have m1:H.rd1 σ.next 1=some (.int .i64 c):=by rw [zG hob];rfl
 refine zC mix Try.func33 ?_
 conv=>arg 2;cbv
 refine zD rfl ?_;simp only [pwA,seval,-iQ0,h1];rw [hH];simp only [pwA,seval,-iQ0,g0];refine qb sz hF fun t ht=>?_
 cases t with
 | false=>
  simp only [pwA,seval,-iQ0,g0];exact Gh.fin0 hkp ⟨trivial,trivial,trivial⟩ (hk _ [] 1 nilI (.inl ⟨fun h=>(by cases ht.2 h.1),rfl,rfl⟩))
 | true=>
 have hm:=ht.1 rfl;obtain⟨n,rfl,hn,hp,hl,hA⟩:=mx_n hm;have hpb:=hp.bd;simp only [pwA,seval,-iQ0,g0,m0,m1];refine Qz rfl (by omega) (by omega) (by omega) ?_
 by_cases hvv:isVec b p n
 rotate_left
 ·simp only [pwA,seval,-iQ0,hvv,g0]
  exact Gh.fin0 hkp ⟨trivial,trivial,trivial⟩ (hk _ [] 1 nilI (.inl ⟨fun h=>hvv h.2,rfl,rfl⟩))
 have hb:El p n b:=⟨by have:=hvv.1;omega,fun x hx=>by have:=hvv.2 x hx;omega⟩
 simp only [pwA,seval,-iQ0,hvv,g0];refine zDU hp hA hn hl hF hb ⟨wb,ab,rfl⟩ (fun z u hz hu h0=>?_) fun u hu h0=>?_
 ·have z1:=hz.one
  have z2:=hz.cells;simp only [pwA,seval,-iQ0,z1,z2];exact Gh.fin0 hkp ⟨hz.bel _,trivial,trivial⟩ (hk z _ 0 hz (.inr ⟨n,u,hm,rfl,hn,hl,hp,hA,hb,hu,.inl ⟨h0,rfl,rfl⟩⟩))
 ·simp only [pwA,seval,-iQ0]
  exact Gh.fin0 hkp ⟨trivial,trivial,trivial⟩ (hk _ [] 4 nilI (.inr ⟨n,u,hm,rfl,hn,hl,hp,hA,hb,hu,.inr ⟨h0,rfl,rfl⟩⟩))
theorem zFD (hF:FII vF F) (sz:SzL F) (hvb:FI vb b) (hbl:b.length≤1000) (hk:∀v r e,FI v r→Sol p c F b r e→K (.tup [v,.int .i64 e]) σ):zB Try.prog 34 [.agg [.int .i64 p,.int .i64 c,vF],vb] σ K:=by
 have h1:=hF.one;have hv0:=hvb;obtain⟨wb,ab,rfl⟩:=hvb;have nilI:FI (.fz true .nils 0 []) []:=⟨true,.nils,rfl⟩;refine zB.gh ?_;generalize hH:σ.new [.int .i64 p,.int .i64 c,vF]=H;have hkp:Keep σ H:=by rw [←hH];exact zF σ _
 have hob:H.obj σ.next=some [.int .i64 p,.int .i64 c,vF]:=by rw [←hH];simp only [pwA,seval,-iQ0]
 have g0:H.rd σ.next 0 3=some [.int .i64 p,.int .i64 c,vF]:=by rw [zm hob];rfl
 have m0:H.rd1 σ.next 0=some (.int .i64 p):=by rw [zG hob];rfl
 have m1:H.rd1 σ.next 1=some (.int .i64 c):=by rw [zG hob];rfl
 have m2:H.rd1 σ.next 2=some vF:=by rw [zG hob];rfl
 refine zC mix Try.func34 ?_
 conv=>arg 2;cbv
 refine zD rfl ?_;simp only [pwA,seval,-iQ0,h1];rw [hH];simp only [pwA,seval,-iQ0,g0];refine Qe sz hF fun t ht=>?_
 cases t with
 | false=>
  simp only [pwA,seval,-iQ0,g0];exact Gh.fin0 hkp ⟨trivial,trivial,trivial⟩ (hk _ [] 1 nilI (.inl ⟨fun h=>(by cases ht.2 h.1),rfl,rfl⟩))
 | true=>
 have hm:=ht.1 rfl;obtain⟨n,rfl,hn,hp,hl,hA⟩:=mx_n hm;have hpb:=hp.bd;simp only [pwA,seval,-iQ0,g0,m0,m1];refine zAn rfl (by omega) (by omega) (by omega) ?_
 by_cases hvv:isVec b p n
 rotate_left
 ·simp only [pwA,seval,-iQ0,hvv,g0]
  exact Gh.fin0 hkp ⟨trivial,trivial,trivial⟩ (hk _ [] 1 nilI (.inl ⟨fun h=>hvv h.2,rfl,rfl⟩))
 have hb:El p n b:=⟨by have:=hvv.1;omega,fun x hx=>by have:=hvv.2 x hx;omega⟩
 simp only [pwA,seval,-iQ0,hvv,m0,m1,m2];refine zE5 hp hA hn hl hF hb ⟨wb,ab,rfl⟩ (fun z u hz hu h0=>?_) fun u hu h0=>?_
 ·have z1:=hz.one
  have z2:=hz.cells;simp only [pwA,seval,-iQ0,z1,z2];exact Gh.fin0 hkp ⟨hz.bel _,trivial,trivial⟩ (hk z _ 0 hz (.inr ⟨n,u,hm,rfl,hn,hl,hp,hA,hb,hu,.inl ⟨h0,rfl,rfl⟩⟩))
 ·simp only [pwA,seval,-iQ0]
  exact Gh.fin0 hkp ⟨trivial,trivial,trivial⟩ (hk _ [] 4 nilI (.inr ⟨n,u,hm,rfl,hn,hl,hp,hA,hb,hu,.inr ⟨h0,rfl,rfl⟩⟩))
end Go.Proofs
namespace Go.Grp
end Go.Grp
namespace Go.Proofs
open Go.Ab Go.Lie Go.Grp Go.Mx
variable {σ σ0 h h' h2:PHeap} {K:PV→PHeap→Prop} {p c:Int} {n m s b:Nat} {x y bs:List Int} {A B:List (List Int)} {v v' vC:PV} {kids:List TR}
def RowT (t:TR) (x:List Int):Prop:=(∃s cap,t=TR.row s cap x)∨∃v,t=.leaf v∧FI v x
theorem qK:∀ts:List TR,TR.pvs ts=ts.map TR.pv
 | []=>rfl
 | t::ts=>by simp only [TR.pvs,List.map_cons,qK ts]
theorem zx {s:Nat}:∀{ts:List TR},s∈TR.slotss ts↔∃t∈ts,s∈t.slots
 | []=>by simp [TR.slotss]
 | t::ts=>by simp only [TR.slotss,List.mem_append,zx (ts:=ts),List.mem_cons,exists_eq_or_imp]
theorem qY:∀{ts:List TR},TR.okFs h b ts↔∀t∈ts,TR.okF h b t
 | []=>by simp [TR.okFs]
 | t::ts=>by simp [TR.okFs,qY (ts:=ts)]
theorem qJ {cap:Cap}:(TR.row s cap x).okF h b↔full 1 cap x.length∧h.obj s=some (pis x)∧b≤s∧s<h.next:=by
 simp only [TR.row,TR.okF,List.length_map,TR.ints_pvs];exact⟨fun g=>g.1,fun g=>⟨g,zBj x⟩⟩
theorem RowT.move {t:TR} (r:RowT t x) (a:t.okF h b) (hn:h.next≤h'.next) (ho:∀s∈t.slots,h'.obj s=h.obj s):t.okF h' b:=by
 rcases r with ⟨s,cap,rfl⟩|⟨v,rfl,hv⟩
 ·rw [qJ]at a ⊢
  obtain⟨a1,a2,a3,a4⟩:=a;exact⟨a1,by rw [ho s (by rw [TR.row_slots];simp)];exact a2,a3,by omega⟩
 ·exact hv.bel 0
theorem RowT.slot {t:TR} (r:RowT t x) (a:t.okF h b):∀s∈t.slots,b≤s∧s<h.next:=fun s hs=>by
 rcases r with ⟨s',cap,rfl⟩|⟨v,rfl,hv⟩
 ·rw [qJ]at a
  rw [TR.row_slots,List.mem_singleton]at hs
  subst hs;exact a.2.2
 ·cases hs
theorem RowT.fz {t:TR} (r:RowT t x) (a:Nat→Nat):FI (t.fz a) x:=by
 rcases r with ⟨s,cap,rfl⟩|⟨v,rfl,hv⟩
 ·exact TR.row_FI
 ·exact hv
theorem RowT.one {t:TR} (r:RowT t x):t.pv.one=true∧t.pv.cells=[t.pv]∧plen t.pv=some x.length:=by
 rcases r with ⟨s,cap,rfl⟩|⟨v,rfl,hv⟩
 ·rw [TR.row_pv];exact⟨rfl,rfl,rfl⟩
 ·exact⟨hv.one,hv.cells,by obtain⟨w,a,rfl⟩:=hv;rfl⟩
theorem zFU {a:Nat→Nat}:∀ts:List TR,TR.fzs a ts=ts.map (TR.fz a)
 | []=>rfl
 | t::ts=>by simp only [TR.fzs,List.map_cons,zFU ts]
structure DR (b:Nat) (h:PHeap) (v:PV) (kids:List TR) (A:List (List Int)):Prop where
 row:All2 RowT kids A
 ok:TR.okFs h b kids
 nd:(TR.slotss kids).Nodup
 out:(kids=[]∧v=.fz true .nils 0 [])∨∃s0 cap,v=.sl s0 0 kids.length cap∧full 1 cap kids.length∧h.obj s0=some (TR.pvs kids)∧b≤s0∧s0<h.next∧s0∉TR.slotss kids
theorem DR.nil (b:Nat) (h:PHeap):DR b h (.fz true .nils 0 []) [] []:=⟨All2.nil _,trivial,List.nodup_nil,.inl ⟨rfl,rfl⟩⟩
theorem DR.len (a:DR b h v kids A):kids.length=A.length:=a.row.1
theorem DR.get (a:DR b h v kids A) {i:Nat} (hi:i<A.length):∃t,kids[i]? = some t∧RowT t A[i]∧t.okF h b:=by
 have hl:=a.len;refine⟨kids[i]'(by omega),List.getElem?_eq_getElem (by omega),a.row.2 i _ _ (List.getElem?_eq_getElem (by omega)) (List.getElem?_eq_getElem hi),qY.1 a.ok _ (List.getElem_mem _)⟩
theorem DR.slot (a:DR b h v kids A):∀s∈TR.slotss kids,b≤s∧s<h.next:=fun s hs=>by
 obtain⟨t,ht,hs⟩:=zx.1 hs;obtain⟨i,hi,rfl⟩:=List.mem_iff_getElem.1 ht;obtain⟨t',h1,h2,h3⟩:=a.get (i:=i) (by rw [←a.len];exact hi)
 rw [List.getElem?_eq_getElem hi]at h1
 cases h1;exact h2.slot h3 s hs
theorem DR.oks (a:DR b h v kids A) (hn:h.next≤h'.next) (ho:∀s∈TR.slotss kids,h'.obj s=h.obj s):TR.okFs h' b kids:=qY.2 fun t ht=>by
 obtain⟨i,hi,rfl⟩:=List.mem_iff_getElem.1 ht;obtain⟨t',h1,h2,h3⟩:=a.get (i:=i) (by rw [←a.len];exact hi)
 rw [List.getElem?_eq_getElem hi]at h1
 cases h1;exact h2.move h3 hn fun s hs=>ho s (zx.2 ⟨_,ht,hs⟩)
theorem DR.move (a:DR b h v kids A) (hn:h.next≤h'.next) (ho:∀s,b≤s→s<h.next→h'.obj s=h.obj s):DR b h' v kids A:=by
 refine⟨a.row,a.oks hn fun s hs=>ho s (a.slot s hs).1 (a.slot s hs).2,a.nd,?_⟩
 rcases a.out with e|⟨s0,cap,h1,h2,h3,h4,h5,h6⟩
 ·exact .inl e
 ·exact .inr ⟨s0,cap,h1,h2,by rw [ho s0 h4 h5];exact h3,h4,by omega,h6⟩
theorem DR.keep (a:DR b h v kids A) (k:Keep h h'):DR b h' v kids A:=a.move k.next fun s _ hs=>k.obj s hs
theorem DR.mv (a:DR b h v kids A) (hs:s<b) (k:Mv h s h'):DR b h' v kids A:=a.move (by rw [k.next];exact Nat.le_refl _) fun t ht _=>k.obj (by omega)
theorem DR.km (a:DR b h v kids A) (hs:s<b) (k:KM h s h'):DR b h' v kids A:=a.move k.next fun t ht h1=>k.obj h1 (by omega)
theorem DR.one (a:DR b h v kids A):v.one=true∧v.cells=[v]∧pLen v=some (.int .i64 A.length):=by
 rw [←a.len];rcases a.out with ⟨rfl,rfl⟩|⟨s0,cap,rfl,_⟩<;>exact⟨rfl,rfl,rfl⟩
theorem DR.acc (a:DR b h v kids A):PAcc b 1 h v kids.length (TR.pvs kids):=by
 rcases a.out with ⟨rfl,rfl⟩|⟨s0,cap,rfl,h2,h3,h4,h5,h6⟩
 ·exact PAcc.nil _ _ _
 ·exact .inr ⟨s0,cap,rfl,h2,h3,by rw [qK];simp,h4,h5⟩
theorem zFq (a b:List TR):TR.pvs (a++b)=TR.pvs a++TR.pvs b:=by rw [qK,qK,qK,List.map_append]
theorem QH:∀a b:List TR,TR.slotss (a++b)=TR.slotss a++TR.slotss b
 | [],b=>rfl
 | t::a,b=>by simp only [List.cons_append,TR.slotss,QH a b,List.append_assoc]
theorem DR.fresh (a:DR b h v kids A) {s:Nat} (hs:h.next≤s):s∉TR.slotss kids∧∀off l c,v≠.sl s off l c:=by
 refine⟨fun hm=>by have:=(a.slot s hm).2;omega,fun off l c e=>?_⟩
 rcases a.out with ⟨_,rfl⟩|⟨s0,cap,rfl,h2,h3,h4,h5,h6⟩
 ·cases e
 ·simp only [PV.sl.injEq]at e
  omega
theorem DR.below (a:DR b h v kids A) {s:Nat} (hs:s<b):∀off l c,v≠.sl s off l c:=fun off l c e=>by
 rcases a.out with ⟨_,rfl⟩|⟨s0,cap,rfl,h2,h3,h4,h5,h6⟩
 ·cases e
 ·simp only [PV.sl.injEq]at e
  omega
theorem DR.push {σb:PHeap} {Kp:PV×PHeap→Prop} {t:TR} (a:DR b h v kids A) (hk:Keep σb h) (hb1:σb.next≤b) (hb2:b≤h.next) (r:RowT t x) (ht:t.okF h b) (hf:∀s∈t.slots,s∉TR.slotss kids∧∀off l c,v≠.sl s off l c) (hb:A.length≤1000)
  (k:∀v' h2,DR b h2 v' (kids++[t]) (A++[x])→Keep σb h2→(∀s,s<h.next→(∀off l c,v≠.sl s off l c)→h2.obj s=h.obj s)→(∀s,s<h.next→∀off l c,v'≠.sl s off l c)→h.next<h2.next→Kp (v',h2)):optK (qF 1 24 (h.new [t.pv]) v (.sl h.next 0 1 (.known 1))) Kp:=by
 have hl:=a.len;refine PAcc.pushS (σb:=σb) (bytes:=24) hk (a.acc.low hb1) rfl (by omega) (by omega) fun v' h2 k2 a2 o2 n2 l2=>?_
 have vne:∀s∈TR.slotss kids++t.slots,∀off l c,v≠.sl s off l c:=fun s hs off l c e=>by
  rcases List.mem_append.1 hs with hs|hs
  ·rcases a.out with ⟨_,rfl⟩ | ⟨s0,cap,rfl,h2,h3,h4,h5,h6⟩
   ·cases e
   ·simp only [PV.sl.injEq]at e
    exact h6 (e.1 ▸ hs)
  ·exact(hf s hs).2 off l c e
 have hslt:∀s∈TR.slotss kids++t.slots,s<h.next:=fun s hs=>by
  rcases List.mem_append.1 hs with hs|hs
  ·exact(a.slot s hs).2
  ·exact(r.slot ht s hs).2
 have hsl:TR.slotss (kids++[t])=TR.slotss kids++t.slots:=by rw [QH];simp [TR.slotss]
 refine k v' h2 ⟨a.row.snoc r,qY.2 fun u hu=>?_,?_,.inr ?_⟩ k2 o2 n2 l2
 ·rcases List.mem_append.1 hu with hu | hu
  ·exact qY.1 (a.oks (h':=h2) (by omega) fun s hs=>o2 s (hslt s (List.mem_append_left _ hs)) (vne s (List.mem_append_left _ hs))) u hu
  ·rw [List.mem_singleton.1 hu]
   exact r.move ht (by omega) fun s hs=>o2 s (hslt s (List.mem_append_right _ hs)) (vne s (List.mem_append_right _ hs))
 ·rw [hsl,List.nodup_append]
  refine⟨a.nd,?_,fun s hs s' hs' e=>(hf s' hs').1 (e ▸ hs)⟩
  rcases r with ⟨s,cap,rfl⟩|⟨v,rfl,hv⟩
  ·rw [TR.row_slots];simp
  ·exact List.nodup_nil
 ·obtain⟨s0,cap,rfl,q1,q2,q3,q4,q5⟩:=a2
  refine⟨s0,cap,by rw [List.length_append];rfl,by rw [List.length_append];exact q1,by rw [q2,zFq];rfl,?_,q5,fun hs=>?_⟩
  ·rcases Nat.lt_or_ge s0 h.next with g | g
   ·exact absurd rfl (n2 s0 g 0 _ cap)
   ·omega
  rw [hsl]at hs
  exact n2 s0 (hslt s0 hs) 0 _ cap rfl
theorem DR.put {t:TR} (a:DR b h v kids A) {i:Nat} (hi:i<A.length) (r:RowT t y) (ht:t.okF h b) (hf:∀s∈t.slots,s∉TR.slotss kids) (hv:∀s∈t.slots,∀off l c,v≠.sl s off l c):
  ∃s0 cap h2,v=.sl s0 0 A.length cap∧h.wr s0 i [t.pv]=some h2∧DR b h2 v (kids.set i t) (A.set i y)∧h2.next=h.next∧∀s,s≠s0→h2.obj s=h.obj s:=by
 have hl:=a.len;have hik:i<kids.length:=by omega
 rcases a.out with ⟨rfl,_⟩|⟨s0,cap,rfl,h2,h3,h4,h5,h6⟩
 ·simp at hik
 have hne:∀s∈TR.slotss (kids.set i t),s∈TR.slotss kids∨s∈t.slots:=fun s hs=>by
  obtain⟨u,hu,hs⟩:=zx.1 hs;rcases List.mem_or_eq_of_mem_set hu with e|e
  ·exact .inl (zx.2 ⟨u,e,hs⟩)
  ·exact .inr (e ▸ hs)
 have hpv:TR.pvs (kids.set i t)=(TR.pvs kids).set i t.pv:=by rw [qK,qK,List.map_set]
 refine⟨s0,cap,h.set s0 ((TR.pvs kids).set i t.pv),by rw [hl],ql h3 (by rw [qK];simpa using hik) r.one.1,⟨?_,qY.2 fun u hu=>?_,?_,.inr ⟨s0,cap,by rw [List.length_set],by rw [List.length_set];exact h2,by rw [zL,if_pos rfl,hpv],h4,h5,fun hs=>?_⟩⟩,rfl,fun s hs=>by rw [zL,if_neg hs]⟩
 ·refine⟨by rw [List.length_set,List.length_set];exact a.row.1,fun j x y' hx hy=>?_⟩
  rw [List.getElem?_set]at hx hy
  by_cases e:i=j
  ·subst e
   rw [if_pos rfl,if_pos hik]at hx
   rw [if_pos rfl,if_pos hi]at hy
   cases hx;cases hy;exact r
  ·rw [if_neg e]at hx hy
   exact a.row.2 j x y' hx hy
 ·rcases List.mem_or_eq_of_mem_set hu with e | e
  ·exact qY.1 (a.oks (h':=h.set s0 ((TR.pvs kids).set i t.pv)) (Nat.le_refl _) fun s hs=>by rw [zL,if_neg fun e:s=s0=>h6 (e ▸ hs)]) u e
  ·rw [e]
   exact r.move ht (Nat.le_refl _) fun s hs=>by rw [zL,if_neg fun e:s=s0=>hv s hs 0 kids.length cap (by rw [e])]
 ·-- the other rows' slots stay apart
  have nd:=a.nd;clear hne hpv hv h6 h3 h2 h5 a
  induction kids generalizing i A with
  | nil=>simp at hik
  | cons u us ih=>
   cases i with
   | zero=>
    simp only [List.set_cons_zero,TR.slotss]at nd ⊢
    rw [List.nodup_append]at nd ⊢
    refine⟨?_,nd.2.1,fun s hs s' hs' e=>hf s hs (by rw [TR.slotss,List.mem_append];exact .inr (e ▸ hs'))⟩
    rcases r with ⟨s,cap,rfl⟩|⟨v,rfl,hv⟩
    ·rw [TR.row_slots];simp
    ·exact List.nodup_nil
   | succ i=>
    simp only [List.set_cons_succ,TR.slotss]at nd ⊢
    rw [List.nodup_append]at nd ⊢
    have hsub:∀s∈t.slots,s∉TR.slotss us:=fun s hs hm=>hf s hs (by rw [TR.slotss,List.mem_append];exact .inr hm)
    refine⟨nd.1,ih (i:=i) (A:=A.tail) (by simp at hi ⊢;omega) hsub (by simp at hl ⊢;omega) (by simp at hik;omega) nd.2.1,fun s hs s' hs' e=>?_⟩
    obtain⟨w,hw,hs'⟩:=zx.1 hs';rcases List.mem_or_eq_of_mem_set hw with e2|e2
    ·exact nd.2.2 s hs s' (zx.2 ⟨w,e2,hs'⟩) e
    ·rw [e2]at hs'
     exact hf s' hs' (by rw [TR.slotss,List.mem_append];exact .inl (e ▸ hs))
 ·rcases hne s0 hs with e | e
  ·exact h6 e
  ·exact hv s0 e 0 kids.length cap rfl
theorem DR.fin (a:DR b h v kids A) (hk:Keep σ h) (hb:σ.next≤b) (k:∀z,FII z A→K (.agg [.int .i64 p,.int .i64 c,z]) σ):Gh σ K (.agg [.int .i64 p,.int .i64 c,v]) h:=by
 have hl:=a.len;have a2:∀aa,All2 FI (TR.fzs aa kids) A:=fun aa=>⟨by rw [TR.fzs_length];exact hl,fun j x y hx hy=>by
  rw [zFU,List.getElem?_map]at hx
  obtain⟨t,ht,rfl⟩:=Option.map_eq_some_iff.1 hx;exact(a.row.2 j t y ht hy).fz aa⟩
 have low:TR.okFs h σ.next kids:=qY.2 fun t ht=>by
  obtain⟨i,hi,rfl⟩:=List.mem_iff_getElem.1 ht;obtain⟨t',h1,h2,h3⟩:=a.get (i:=i) (by rw [←a.len];exact hi)
  rw [List.getElem?_eq_getElem hi]at h1
  cases h1;rcases h2 with ⟨s,cap,e⟩|⟨v,e,hv⟩
  ·rw [e,qJ]at h3
   rw [e,qJ];exact⟨h3.1,h3.2.1,by omega,h3.2.2.2⟩
  ·rw [e];exact hv.bel 0
 rcases a.out with ⟨rfl,rfl⟩|⟨s0,cap,rfl,h2,h3,h4,h5,h6⟩
 ·have:A=[]:=List.eq_nil_of_length_eq_zero (by rw [←hl];rfl)
  subst this;exact Gh.fin0 hk ⟨trivial,trivial,trivial,trivial⟩ (k _ ⟨true,.nils,[],rfl,All2.nil _⟩)
 ·have et:(TR.agg [.leaf (.int .i64 p),.leaf (.int .i64 c),.lst s0 cap kids]).pv=.agg [.int .i64 p,.int .i64 c,.sl s0 0 kids.length cap]:=rfl
  rw [←et];exact Gh.treeF hk ⟨trivial,trivial,⟨⟨h2,h3,by omega,h5⟩,low⟩,trivial⟩ fun aa=>k _ ⟨true,.sl (aa s0) 0 kids.length cap,TR.fzs aa kids,by rw [←hl];rfl,a2 aa⟩
end Go.Proofs
namespace Go.Grp
end Go.Grp
namespace Go.Proofs
open Go.Ab Go.Lie Go.Grp Go.Mx
variable {σ σ0 h h' h2:PHeap} {K:PV→PHeap→Prop} {p c:Int} {n m s t b:Nat} {x y v w bs xs:List Int} {A B:List (List Int)} {vC:PV} {kids:List TR}
theorem So.back {σ':PHeap} (q:Keep σ' h) (so:So h s vC bs) (hs:s<σ'.next):So σ' s vC bs:=by
 obtain⟨a,sd,S⟩:=so;exact⟨a,sd,by rw [←q.obj s hs];exact S.obj,hs,S.fb,S.byt,S.le,S.sd⟩
theorem KM.so (km:KM σ s h) (so:So h s vC bs) (hs:s<σ.next):∃σ',Mv σ s σ'∧So σ' s vC bs∧Keep σ' h∧σ'.next=σ.next:=by
 obtain⟨σ',m,q⟩:=km;exact⟨σ',m,so.back q (by rw [m.next];exact hs),q,m.next⟩
theorem PSl.mv {e n:Nat} {v:PV} {cs:List PV} (a:PSl b e h v n cs) (hs:s<b) (m:Mv h s h'):PSl b e h' v n cs:=by
 obtain⟨t,cap,rfl,h1,h2,h3,h4,h5⟩:=a;exact⟨t,cap,rfl,h1,by rw [m.obj (by omega)];exact h2,h3,h4,by rw [m.next];exact h5⟩
theorem Ze {cap:Cap} (so:So σ s vC bs) (hst:s≠t) (ho:σ.obj t=some (pis xs)) (hn:0<xs.length∧xs.length≤1000) (hk:∀x h,x∈xs→Mv σ s h→So h s vC bs→K (.int .i64 x) h):zB Try.prog 85 [.ptr s 0,.sl t 0 xs.length cap] σ K:=by
 refine zC mix Try.func85 ?_
 conv=>arg 2;cbv
 refine zD rfl ?_;simp only [pwA,seval,-iQ0];refine z8 so (by omega) fun x h hx m so1=>?_
 obtain⟨i,rfl⟩:∃i:Nat,x=(i:Int):=⟨x.toNat,by have:=hx.1;omega⟩
 have hlt:i<xs.length:=by have:=hx.lt (by omega);omega
 have r1:h.rd1 t i=some (.int .i64 xs[i]):=by rw [zG (by rw [m.obj (Ne.symm hst)];exact ho),zQ,gi hlt];rfl
 simp only [pwA,seval,-iQ0,hlt,r1];exact hk _ h (List.getElem_mem hlt) m so1
theorem zCi (so:So σ s vC bs) (hk:∀p h,isP p→KM σ s h→So h s vC bs→K (.int .i64 p) h):zB Try.prog 84 [.ptr s 0] σ K:=by
 have hs:=so.lt;refine zC mix Try.func84 ?_
 conv=>arg 2;cbv
 refine zD rfl ?_;simp only [pwA,seval,-iQ0];refine Ze (xs:=[2,2,3,3,5,7]) (so.keep (zF _ _)) (by omega) (by rw [zN,if_pos rfl];rfl) (by decide) fun x h hx m so1=>?_
 simp only [pwA,seval,-iQ0];exact hk x h (by unfold isP;simp at hx;omega) ((so.kmK (zF _ _)).mv hs m) so1
theorem zJC {i:Nat} (hx:Ve p i x) {a:Int} (ha:0≤a∧a<p):Ve p (i+1) (x++[a]):=⟨by rw [List.length_append,hx.len];rfl,fun j=>by
 rw [qx]
 split
 ·exact hx.bd j
 ·by_cases h:j-x.length=0
  ·rw [h];exact ha
  ·rw [at_ge (by simp;omega)];omega⟩
theorem Qo (so:So σ s vC bs) (hp:1≤p∧p≤1000) (hn:n≤1000) (hk:∀t cap x h,KM σ s h→So h s vC bs→σ.next≤t→t<h.next→h.obj t=some (pis x)→full 1 cap n→Ve p n x→K (.sl t 0 n cap) h):zB Try.prog 75 [.ptr s 0,.int .i64 p,.int .i64 n] σ K:=by
 have hs:=so.lt;refine zC mix Try.func75 ?_
 conv=>arg 2;cbv
 refine zD rfl ?_;simp only [pwA,seval,-iQ0];refine zM (fun k us h=>∃(i:Nat) (vR:PV) (x:List Int),i≤n∧k=n-i∧us=[.ptr s 0,.int .i64 p,.int .i64 n,vR,.int .i64 i]∧KM σ s h∧So h s vC bs∧PSl σ.next 1 h vR i (pis x)∧Ve p i x) n ?_ ?_
 ·exact⟨0,_,[],by omega,by omega,rfl,so.kmK (zF _ _),so.keep (zF _ _),PSl.new _ 1 rfl (Nat.le_refl _),⟨rfl,fun j=>by rw [at_ge (by simp)];omega⟩⟩
 rintro k us h ⟨i,vR,x,hi,rfl,rfl,km,so1,ps,hx⟩
 simp only [pwA,seval,-iQ0];refine iteI (fun hlt=>?_) fun hge=>?_
 rotate_left
 ·have hie:i=n:=by omega
  subst hie;obtain⟨t,cap,rfl,h1,h2,h3,h4,h5⟩:=ps;exact hk t cap x h km so1 h4 h5 h2 h1 hx
 refine z8 so1 (by omega) fun a h1 ha m1 so2=>?_
 obtain⟨σ',m,so3,q,hn'⟩:=(km.mv hs m1).so so2 hs;simp only [pwA,seval,-iQ0];refine PSl.push (σb:=σ') (bytes:=8) q (by rw [hn'];exact PSl.mv ps hs m1) (by omega) (by omega) fun v' h3 k3 a3=>?_
 simp only [pwA,seval,-iQ0,wrapS hlt (by omega:n≤4611686018427387904)]
 refine⟨_,by omega,i+1,v',x++[a],by omega,rfl,rfl,⟨σ',m,k3⟩,so3.keep k3,?_,zJC hx ⟨ha.1,ha.lt hp.1⟩⟩
 rw [hn',show [PV.int .i64 a]=pis [a] from rfl,Zk]at a3
 exact a3
theorem zC0 {cap:Cap} (ho:σ.obj s=some (pis xs)) (hs:s<σ.next) (hb:xs.length≤1048576) (hk:∀cap,full 1 cap xs.length→K (.sl σ.next 0 xs.length cap) (σ.new (pis xs))):zB Try.prog 86 [.sl s 0 xs.length cap] σ K:=by
 refine zB.gh ?_;have hne:¬s=σ.next:=Nat.ne_of_lt hs;refine zC mix Try.func86 ?_
 conv=>arg 2;cbv
 refine zD rfl ?_;simp only [pwA,seval,-iQ0];refine PSl.app (b:=0) (news:=pis xs) (m:=xs.length) (zF σ _) (Nat.zero_le _) (PSl.new _ 1 rfl (Nat.le_refl _)) rfl (fun h0=>?_) (by rw [zJ,Nat.mul_one]) (by omega) (by omega) fun v' h' k1 k2=>?_
 ·rw [QA]
  simp only [h0,if_false,Nat.le_refl,if_true,Nat.mul_one,zAA,hne];rw [zm ho,if_pos (by rw [zJ];omega),List.drop_zero,List.take_of_length_le (by rw [zJ];exact Nat.le_refl _)]
 ·simp only [pwA,seval,-iQ0]at k2 ⊢
  exact k2.out k1 (zi _ _) hk
theorem zE6 {cap:Cap} (hp:2≤p∧p≤7) (hc:-7≤c∧c≤7) (hx:Ve p n x) (hn:n≤1000) (ho:σ.obj s=some (pis x)) (hs:s<σ.next) (hk:∀cap,full 1 cap n→K (.sl σ.next 0 n cap) (σ.new (pis (scl p c x)))):zB Try.prog 87 [.int .i64 p,.int .i64 c,.sl s 0 n cap] σ K:=by
 have hxl:=hx.len;have hsl:(scl p c x).length=n:=by rw [zg];exact hxl
 refine zB.gh ?_;refine zC mix Try.func87 ?_
 conv=>arg 2;cbv
 refine zD rfl ?_;simp only [pwA,seval,-iQ0,List.length_replicate,ZP,mk8 (n:=n) (by omega),mkL (n:=n) (by omega)]
 -- the sum with zeros
 refine zC mix Try.func95 ?_
 conv=>arg 2;cbv
 refine zD rfl ?_;simp only [pwA,seval,-iQ0];have hz:(σ.new (pis (List.replicate n 0))).obj σ.next=some (pis (List.replicate n 0)):=by rw [zN,if_pos rfl]
 have e0:(List.replicate n (0:Int)).length=n:=by simp
 have own:=fun(K':PV→PHeap→Prop) (k':∀cap,full 1 cap n→K' (.sl (σ.next+1) 0 n cap) ((σ.new (pis (List.replicate n 0))).new (pis (List.replicate n 0))))=>by
  have:=zC0 (K:=K') (cap:=.known n) hz (by show σ.next<σ.next+1;omega) (by rw [e0];omega) (by rw [e0];exact k')
  rwa [e0]at this
 refine own _ fun cap2 hcap2=>?_
 have ho2:((σ.new (pis (List.replicate n 0))).new (pis (List.replicate n 0))).obj s=some (pis x):=by rw [zN,if_neg (by show ¬s=σ.next+1;omega),zN,if_neg (by omega)];exact ho
 generalize hH:σ.new (pis (List.replicate n 0))=H at *
 have hHn:H.next=σ.next+1:=by rw [←hH];rfl
 have hHk:Keep σ H:=by rw [←hH];exact zF σ _
 have hvs:(List.replicate n (0:Int)).length=(scl p c x).length:=by rw [hsl,e0]
 simp only [pwA,seval,-iQ0];refine zM (fun k us h'=>∃i:Nat,i≤n∧k=n-i∧us=[.int .i64 p,.int .i64 c,.sl s 0 n cap,.sl (σ.next+1) 0 n cap2,.int .i64 i]∧h'=H.new (pis ((scl p c x).take i++(List.replicate n 0).drop i))) n ?_ ?_
 ·exact⟨0,by omega,by omega,rfl,by rw [List.take_zero,List.drop_zero,List.nil_append]⟩
 rintro k us h' ⟨i,hi,rfl,rfl,rfl⟩
 by_cases hlt:i<n
 rotate_left
 ·have hie:i=n:=by omega
  subst hie;simp only [pwA,seval,-iQ0,Nat.lt_irrefl];rw [List.drop_of_length_le (by rw [e0];exact Nat.le_refl _),List.append_nil,List.take_of_length_le (by omega)]
  rw [←hHn];exact(PSl.own (b:=σ.next) (e:=1) hcap2 (by rw [zN,if_pos rfl]) (by rw [zJ,hsl];omega) (by omega) (Nat.lt_succ_self _)).out (hHk.new _) (zi _ _) hk
 have hlx:i<x.length:=by omega
 have hl0:i<(List.replicate n (0:Int)).length:=by rw [e0];exact hlt
 have hlen:i+1≤((scl p c x).take i++(List.replicate n 0).drop i).length:=by simp;omega
 have e1:=zA3 hvs.symm hl0;rw [List.getElem_replicate]at e1
 have hxb:=hx.bd i;rw [at_eq hlx]at hxb
 have hb:=sm7 (a:=c) (b:=x[i]) hc (by omega)
 have ew1:IntKind.i64.wrap (c*x[i])=c*x[i]:=wrap64 (by omega) (by omega)
 have ew2:IntKind.i64.wrap (0+c*x[i])=c*x[i]:=by rw [Int.zero_add];exact ew1
 have r1:(H.new (pis ((scl p c x).take i++(List.replicate n 0).drop i))).rd1 s i=some (.int .i64 x[i]):=by
  rw [zG (cs:=pis x) (by rw [zN,if_neg (by omega)];rw [zN,if_neg (by omega)]at ho2;exact ho2),zQ,gi hlx];rfl
 have r2:(H.new (pis ((scl p c x).take i++(List.replicate n 0).drop i))).rd1 (σ.next+1) i=some (.int .i64 0):=by
  rw [zG (cs:=pis ((scl p c x).take i++(List.replicate n 0).drop i)) (by rw [zN,if_pos hHn.symm]),zQ,e1];rfl
 have hw:(H.new (pis ((scl p c x).take i++(List.replicate n 0).drop i))).wr (σ.next+1) i [.int .i64 (c*x[i] % p)]=some (H.new (pis ((scl p c x).take (i+1)++(List.replicate n 0).drop (i+1)))):=by
  have hiv:i<(scl p c x).length:=by omega
  rw [ql (cs:=pis ((scl p c x).take i++(List.replicate n 0).drop i)) (by rw [zN,if_pos hHn.symm]) (by rw [zJ];omega) rfl,zAB,←hHn,zAd]
  congr 2
  rw [←QS hvs.symm hiv]
  congr 1
  simp [scl,Int.mul_comm]
 generalize H.new (pis ((scl p c x).take i++(List.replicate n 0).drop i))=H1 at *
 simp only [pwA,seval,-iQ0,hlt,r1,r2,ew1,ew2];refine zAo (by omega) (by omega) ?_
 simp only [pwA,seval,-iQ0,hlt,hw,wrapS hlt (by omega:n≤4611686018427387904)]
 exact⟨_,by omega,i+1,by omega,rfl,rfl,rfl⟩
end Go.Proofs
