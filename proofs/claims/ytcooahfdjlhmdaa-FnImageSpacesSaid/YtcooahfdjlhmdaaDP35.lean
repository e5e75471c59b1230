/- Drawn rows. -/
import Derived.Test.YtcooahfdjlhmdaaDP28
import Derived.Test.YtcooahfdjlhmdaaDP26
import Derived.Test.YtcooahfdjlhmdaaDAbPz
import Derived.Test.YtcooahfdjlhmdaaDAbPa
import Derived.Test.YtcooahfdjlhmdaaDP30
import Derived.Test.YtcooahfdjlhmdaaDAbPh
import Derived.Test.YtcooahfdjlhmdaaDAbPm
open Int renaming reduceNatCast'→iQ0
set_option maxRecDepth 100000
namespace Go.Grp
end Go.Grp
set_option linter.unusedSimpArgs false
set_option linter.unusedVariables false
namespace Go.Proofs
open Go.Ab Go.Lie Go.Grp Go.Mx
variable {σ:PHeap} {K:PV→PHeap→Prop} {p:Int} {n:Nat} {v w xs ys:List Int} {A M:List (List Int)} {vA vM vv v0:PV}
theorem QU {α:Type} {a b:List α} {i:Nat} (hl:a.length=b.length) (hi:i<a.length):(a.take i++b.drop i).set i a[i]=a.take (i+1)++b.drop (i+1):=by
 have h1:(a.take i).length=i:=by rw [List.length_take];omega
 rw [List.set_append_right _ _ (by omega),h1,Nat.sub_self,List.drop_eq_getElem_cons (by omega:i<b.length),List.set_cons_zero,List.take_succ_eq_append_getElem hi,List.append_assoc]
 rfl
theorem zAA {α:Type} {a b:List α} {i:Nat} (hl:a.length=b.length) (hi:i<b.length):(a.take i++b.drop i)[i]? = some b[i]:=by
 have h1:(a.take i).length=i:=by rw [List.length_take];omega
 rw [List.getElem?_append_right (by omega),h1,List.getElem?_drop,Nat.sub_self,Nat.add_zero,List.getElem?_eq_getElem hi]
theorem zAO {x:Int} {r out:List Int} (h:r.length=out.length) {j:Nat} (hj:j<out.length):(vstep p x r out)[j]'(by rw [zV h];exact hj)=(out[j] + x*r[j]) % p:=by
 simp [vstep]
def sm9 (x:Int):Prop:=-1000000000≤x∧x≤1000000000
theorem zDD {s s' l l':Nat} {cap cap':Cap} {k:Int} (hp:0<p∧p≤1000) (hs:σ.obj s=some (pis xs)) (hs':σ.obj s'=some (pis ys)) (hne:s'≠s) (hl:l=xs.length) (hl':l'=ys.length) (hle:ys.length=xs.length) (hb:xs.length≤1048576)
  (hsm:∀i (h1:i<xs.length) (h2:i<ys.length),sm9 (k*ys[i])∧sm9 (xs[i])) (hk:K (.tup []) (σ.set s (pis (vstep p k ys xs)))):
  zC Try.prog 106 [.sl s 0 l cap,.sl s' 0 l' cap',.int .i64 k,.int .i64 p] σ K:=by
 subst hl;subst hl';have hvl:=zV (p:=p) (x:=k) hle;have er:∀t,σ.rd1 s' t=(pis ys)[t]?:=fun t=>zH hs' t
 refine zD mix Try.func106 ?_
 conv=>arg 2;cbv
 refine zG rfl ?_;simp only [pwA,seval,-iQ0];refine zR (fun m vs h'=>∃i:Nat,i≤xs.length∧m=xs.length-i∧vs=[.sl s 0 xs.length cap,.sl s' 0 ys.length cap',.int .i64 k,.int .i64 p,.int .i64 xs.length,.int .i64 i]∧h'=σ.set s (pis ((vstep p k ys xs).take i++xs.drop i))) xs.length ?_ ?_
 ·exact⟨0,by omega,by omega,rfl,by rw [List.take_zero,List.drop_zero,List.nil_append,QY hs]⟩
 rintro m vs h' ⟨i,hi,rfl,rfl,rfl⟩
 simp only [pwA,seval,-iQ0];refine iteI (fun hlt=>?_) fun hge=>?_
 rotate_left
 ·have:i=xs.length:=by omega
  subst this;rw [List.drop_length,List.append_nil,List.take_of_length_le (by omega)]
  exact hk
 have hlt2:i<ys.length:=by omega
 have e1:=zAA hvl hlt;obtain⟨b1,b2⟩:=hsm i hlt hlt2;unfold sm9 at b1 b2
 have hlen:i+1≤((vstep p k ys xs).take i++xs.drop i).length:=by simp;omega
 have ew1:IntKind.i64.wrap (k*ys[i])=k*ys[i]:=wrap64 (by omega) (by omega)
 have ew2:IntKind.i64.wrap (xs[i] + k*ys[i])=xs[i] + k*ys[i]:=wrap64 (by omega) (by omega)
 simp only [pwA,seval,-iQ0,hlt,hlt2,zW,zU,gi hlt2,e1,hlen,ew1,ew2,hne,er];refine zAR hp.1 (by omega) ?_
 simp only [pwA,seval,-iQ0,hlt,hlen,zU,wrapS hlt (by omega:xs.length≤4611686018427387904)]
 refine⟨_,by omega,i+1,by omega,rfl,rfl,?_⟩
 rw [Zl (by simp;omega)]
 have hiv:i<(vstep p k ys xs).length:=by omega
 rw [←QU hvl hiv,zAO hle hlt]
end Go.Proofs
namespace Go.Grp
end Go.Grp
namespace Go.Proofs
open Go.Ab Go.Lie Go.Grp Go.Mx
variable {σ:PHeap} {K:PV→PHeap→Prop} {p:Int} {n:Nat} {v w x xs ys:List Int} {A M L u:List (List Int)} {vA vM vv vw vx vu v0:PV}
theorem sm7 {a b:Int} (ha:-7≤a∧a≤7) (hb:0≤b∧b≤7):-49≤a*b∧a*b≤49:=by
 have h1:=Int.mul_le_mul_of_nonneg_right ha.1 hb.1;have h2:=Int.mul_le_mul_of_nonneg_right ha.2 hb.1;omega
theorem zBz {c:Int} (hp:2≤p∧p≤7) (hc:-7≤c∧c≤7) (hv:Ve p n v) (hw:Ve p n w) (hn:n≤1048576) (hvv:FI vv v) (hvw:FI vw w) (hk:∀z,FI z (vstep p c w v)→K z σ):
  zC Try.prog 95 [.int .i64 p,vv,.int .i64 c,vw] σ K:=by
 have hvl:=hv.len;have hwl:=hw.len;have hln:(vstep p c w v).length=v.length:=zV (by omega)
 obtain⟨wv,av,rfl⟩:=hvv;obtain⟨ww,aw,rfl⟩:=hvw;refine zC.gh ?_;refine zD mix Try.func95 ?_
 conv=>arg 2;cbv
 refine zG rfl ?_;simp only [pwA,seval,-iQ0];refine QG rfl (by omega) fun cap hcap=>?_
 simp only [pwA,seval,-iQ0];refine zR (fun m vs h'=>∃i:Nat,i≤v.length∧m=v.length-i∧vs=[.int .i64 p,.int .i64 c,.fz ww aw w.length (pis w),.sl σ.next 0 v.length cap,.int .i64 i]∧h'=σ.new (pis ((vstep p c w v).take i++v.drop i))) v.length ?_ ?_
 ·exact⟨0,by omega,by omega,rfl,by rw [List.take_zero,List.drop_zero,List.nil_append]⟩
 rintro m vs h' ⟨i,hi,rfl,rfl,rfl⟩
 by_cases hlt:i<v.length
 rotate_left
 ·have hie:i=v.length:=by omega
  subst hie;have e0:(vstep p c w v).take v.length++v.drop v.length=vstep p c w v:=by rw [List.drop_length,List.append_nil,List.take_of_length_le (by omega)]
  rw [e0];simp only [pwA,seval,-iQ0,Nat.lt_irrefl];exact Gh.finF (s:=σ.next) (zF σ _) (by simp only [pwA,seval,-iQ0];rfl) (Nat.le_refl _) (qO _ _) hcap.ok fun o=>hk _ ⟨true,.sl o 0 v.length cap,by rw [hln]⟩
 have hlt2:i<w.length:=by omega
 have e1:=zAA hln hlt;have c1:=hw.bd i;have c2:=hv.bd i;rw [at_eq hlt2]at c1
 rw [at_eq hlt]at c2
 have hlen:i+1≤((vstep p c w v).take i++v.drop i).length:=by simp;omega
 have hb:=sm7 (a:=c) (b:=w[i]) hc (by omega)
 have ew1:IntKind.i64.wrap (c*w[i])=c*w[i]:=wrap64 (by omega) (by omega)
 have ew2:IntKind.i64.wrap (v[i] + c*w[i])=v[i] + c*w[i]:=wrap64 (by omega) (by omega)
 simp only [pwA,seval,-iQ0,hlt,hlt2,zW,zU,gi hlt2,e1,hlen,ew1,ew2];refine Qr (by omega) (by omega) ?_
 simp only [pwA,seval,-iQ0,hlt,hlen,zU,wrapS hlt (by omega:v.length≤4611686018427387904)]
 refine⟨_,by omega,i+1,by omega,rfl,rfl,?_⟩
 rw [Zl (by simp;omega)]
 have hiv:i<(vstep p c w v).length:=by omega
 have hget:(vstep p c w v)[i]=(v[i] + c*w[i]) % p:=zAO (by omega) hlt
 rw [←QU hln hiv,hget]
theorem zF0 {c:Int} {v:List Int}:vstep p c v (List.replicate v.length 0)=scl p c v:=by
 refine Zr (by rw [zV (by simp),qb];simp) fun j hj=>?_
 rw [zV (by simp),List.length_replicate]at hj
 rw [qX (by simp) (by simpa using hj),qi,Qf,Int.zero_add,Int.mul_comm]
theorem zBm {c:Int} (hp:2≤p∧p≤7) (hc:-7≤c∧c≤7) (hv:Ve p n v) (hn:n≤1048576) (hvv:FI vv v) (hk:∀z,FI z (scl p c v)→K z σ):
  zC Try.prog 87 [.int .i64 p,.int .i64 c,vv] σ K:=by
 have hvl:=hv.len;have hvv0:=hvv;obtain⟨wv,av,rfl⟩:=hvv;refine zC.gh ?_;refine zD mix Try.func87 ?_
 conv=>arg 2;cbv
 refine zG rfl ?_;simp only [pwA,seval,-iQ0,List.length_replicate,QV,mk8 (n:=v.length) (by omega),mkL (n:=v.length) (by omega)]
 refine zC.frz (s:=σ.next) (cs:=pis (List.replicate v.length 0)) (by simp only [pwA,seval,-iQ0]) (qO _ _) fun o=>?_
 simp only [sbs,sb,capOK,and_self,if_true,decide_true,Nat.le_refl];refine zBz hp hc (n:=v.length) (v:=List.replicate v.length 0) (w:=v) (zIF (by omega)) (by rw [hvl];exact hv) (by omega) ⟨true,_,by rw [List.length_replicate]⟩ hvv0 fun z hz=>?_
 simp only [pwA,seval,-iQ0];rw [zF0]at hz
 refine Gh.fin0 ?_ (hz.bel _) (hk z hz);exact(zF σ _).kill (Nat.le_refl _)
theorem zAa {l:Nat} {w:Bool} {a:AV} {xs:List Int} (hl:l=xs.length) (hb:xs.length≤1048576) (hk:K (.int .i64 (dep xs)) σ):zC Try.prog 93 [.fz w a l (pis xs)] σ K:=by
 subst hl;refine zD mix Try.func93 ?_
 conv=>arg 2;cbv
 refine zG rfl ?_;simp only [pwA,seval,-iQ0];refine zR (fun m vs h'=>∃i:Nat,i≤dep xs∧m=dep xs-i∧vs=[.fz w a xs.length (pis xs),.int .i64 i]∧σ=h') (dep xs) ?_ ?_
 ·exact⟨0,by omega,by omega,rfl,rfl⟩
 rintro m vs h' ⟨i,hi,rfl,rfl,rfl⟩
 have hdl:=zAJ xs
 by_cases hlt:i<xs.length
 ·simp only [pwA,seval,-iQ0,hlt,zW,gi hlt]
  by_cases h0:xs[i]=0
  ·have hid:i<dep xs:=by
    rcases Nat.lt_or_ge i (dep xs)with x|x
    ·exact x
    ·have:i=dep xs:=by omega
     subst this;exact absurd (by rw [at_eq hlt];exact h0) (qZ hlt)
   simp only [pwA,seval,-iQ0,h0,wrapS hlt (by omega:xs.length≤4611686018427387904)]
   exact⟨_,by omega,i+1,by omega,rfl,rfl⟩
  ·have hid:i=dep xs:=by
    rcases Nat.lt_or_ge i (dep xs)with x|x
    ·exact absurd (by rw [←at_eq hlt];exact zf x) h0
    ·omega
   subst hid;simp only [pwA,seval,-iQ0,h0];exact hk
 ·have hid:i=dep xs:=by omega
  have hxe:xs.length=dep xs:=by omega
  simp only [pwA,seval,-iQ0,hlt];rw [hxe];exact hk
theorem zFS (hp:isP p) (hu:∀r∈u,Led p n r) (hul:u.length≤1048576) (hx:El p n x) (hn:n≤1048576) (hvu:FII vu u) (hvx:FI vx x) (hk:∀z,FI z (redL p (W0 n) u x)→K z σ):
  zC Try.prog 92 [.int .i64 p,vu,vx] σ K:=by
 have hpb:=hp.bd;have o:=W0_ok hpb n;obtain⟨wu,au,ru,rfl,hru⟩:=hvu;have hxl:=hx.1;obtain⟨wx,ax,rfl⟩:=hvx;refine zD mix Try.func92 ?_
 conv=>arg 2;cbv
 refine zG rfl ?_;simp only [pwA,seval,-iQ0];refine zHs rfl (by omega) fun a0=>?_
 simp only [pwA,seval,-iQ0];refine zR (fun m vs h'=>∃(i:Nat) (y:List Int) (vy:PV),i≤u.length∧m=u.length-i∧vs=[.int .i64 p,.fz wu au u.length ru,vy,.int .i64 i]∧σ=h'∧FI vy y∧El p n y∧redL p (W0 n) (u.drop i) y=redL p (W0 n) u x) u.length ?_ ?_
 ·exact⟨0,x,_,by omega,by omega,rfl,rfl,⟨true,a0,rfl⟩,hx,by rw [List.drop_zero]⟩
 rintro m vs h' ⟨i,y,vy,hi,rfl,rfl,rfl,hvy,hy,he⟩
 by_cases hlt:i<u.length
 rotate_left
 ·rw [List.drop_eq_nil_of_le (by omega)]at he
  simp only [pwA,seval,-iQ0,hlt];refine hk _ ?_;rw [←he];exact hvy
 obtain⟨w4,a4,hr⟩:=hru.rowI hlt;have hL:=hu _ (List.getElem_mem hlt);have hd:=hL.2.1;have hrl:=hL.1.1;have hyl:=hy.1;have hvy0:=hvy;obtain⟨wy,ay,rfl⟩:=hvy;rw [List.drop_eq_getElem_cons hlt]at he
 simp only [pwA,seval,-iQ0,hlt,hr];refine zAa rfl (by omega) ?_
 have hdy:dep u[i] < y.length:=by omega
 simp only [pwA,seval,-iQ0,hdy,zW,gi hdy];have hred:red1 p (W0 n) y u[i]=vstep p (p-y[dep u[i]]) u[i] y:=by
  rw [zG0 hpb hyl hrl,at_eq hdy];refine Zr (by rw [zV (by omega),zV (by omega)]) fun j hj=>?_
  rw [zV (by omega)]at hj
  rw [qX (by omega) hj,qX (by omega) hj]
  have:y[dep u[i]] * at_ u[i] j=y[dep u[i]] * at_ u[i] j:=rfl
  rw [show at_ y j+(p-y[dep u[i]])*at_ u[i] j=(at_ y j + -y[dep u[i]] * at_ u[i] j)+p*at_ u[i] j by grind,Int.add_mul_emod_self_left]
 have hyb:=hy.at0 o (dep u[i]);rw [at_eq hdy]at hyb
 by_cases h0:y[dep u[i]]=0
 ·simp only [pwA,seval,-iQ0,h0,wrapS hlt (by omega:u.length≤4611686018427387904)]
  refine⟨_,by omega,i+1,y,_,by omega,rfl,rfl,hvy0,hy,?_⟩
  rw [←he];show _=redL p (W0 n) (u.drop (i+1)) (red1 p (W0 n) y u[i]);rw [zAn o hy hL.1 (by rw [at_eq hdy];exact h0)]
 ·have hw1:IntKind.i64.wrap (p-y[dep u[i]])=p-y[dep u[i]]:=wrap64 (by omega) (by omega)
  simp only [pwA,seval,-iQ0,h0,hlt,hr,hdy,zW,gi hdy,hw1];refine zBz hpb (by omega) (el_ve (by omega) hy) (el_ve (by omega) hL.1) hn hvy0 ⟨w4,a4,rfl⟩ fun z hz=>?_
  simp only [pwA,seval,-iQ0,wrapS hlt (by omega:u.length≤4611686018427387904)]
  refine⟨_,by omega,i+1,_,z,by omega,rfl,rfl,hz,?_,?_⟩
  ·rw [←hred];exact zAB o hy hL.1
  ·rw [←he,←hred];rfl
end Go.Proofs
namespace Go.Grp
end Go.Grp
namespace Go.Proofs
open Go.Ab Go.Lie Go.Grp Go.Mx
variable {σ:PHeap} {K:PV→PHeap→Prop} {p:Int} {n:Nat} {v w x y xs ys:List Int} {A M L u l:List (List Int)} {vA vM vv vw vx vu v0 vL:PV}
theorem zA1:∀{l:List (List Int)} {a y:List Int},(∃o∈l,¬dep o<dep y)→insD (l++[a]) y=insD l y++[a]
 | [],a,y,h=>by obtain⟨o,ho,_⟩:=h;cases ho
 | v::l,a,y,h=>by
  simp only [List.cons_append,insD]
  split
  ·rename_i hv
   obtain⟨o,ho,hn⟩:=h;rcases List.mem_cons.1 ho with rfl|ho
   ·exact absurd hv hn
   ·rw [zA1 ⟨o,ho,hn⟩];rfl
  ·rfl
theorem zB1:∀{l:List (List Int)} {y:List Int},(∀o∈l,dep o<dep y)→insD l y=l++[y]
 | [],y,_=>rfl
 | v::l,y,h=>by
  simp only [insD];rw [if_pos (h v (by simp)),zB1 fun o ho=>h o (by simp [ho])]
  simp
theorem zA2:∀{l:List (List Int)} {a y:List Int},(∀o∈l,dep o<dep y)→¬dep a<dep y→insD (l++[a]) y=(l++[y])++[a]
 | [],a,y,_,h=>by simp only [List.nil_append,insD];rw [if_neg h];rfl
 | v::l,a,y,hl,h=>by
  simp only [List.cons_append,insD];rw [if_pos (hl v (by simp)),zA2 (fun o ho=>hl o (by simp [ho])) h]
def part (g:List (List Int)) (y:List Int) (b:Bool):List (List Int):=if b then insD g y else g
theorem zBx {g:List (List Int)} {y:List Int} {b:Bool}:(part g y b).length=g.length+b.toNat:=by
 cases b<;>simp [part,Qz]
theorem zAx (hp:isP p) (hL:∀r∈L,El p n r) (hll:L.length≤64) (hn:n≤64) (hvL:FII vL L) (hk:∀z u,FII z u→Canon p n (W0 n) L u→K z σ):
  zC Try.prog 54 [.int .i64 p,vL] σ K:=by
 have hpb:=hp.bd;have o:=W0_ok hpb n;obtain⟨wL,aL,rL,rfl,hrL⟩:=hvL;refine zC.gh ?_;refine zD mix Try.func54 ?_
 conv=>arg 2;cbv
 refine zG rfl ?_;simp only [pwA,seval,-iQ0];refine zDr (fun m vs h'=>∃(i:Nat) (u:List (List Int)) (vu:PV),i≤L.length∧m=L.length-i∧vs=[.int .i64 p,.fz wL aL L.length rL,vu,.int .i64 i]∧Keep σ h'∧FII vu u∧Canon p n (W0 n) (L.take i) u) L.length ?_ ?_
 ·refine .fz σ.next [] (by simp only [pwA,seval,-iQ0]) trivial fun o1=>.here ⟨0,[],.fz true (.sl o1 0 0 (.known 0)) 0 [],by omega,by omega,?_,(zF σ _).kill (Nat.le_refl _),⟨_,_,_,rfl,All2.nil _⟩,by rw [List.take_zero];exact Z8⟩
  simp only [pwA,seval,-iQ0];simp only [sbs,sb,capOK,and_self,if_true,decide_true,Nat.le_refl];rfl
 rintro m vs h' ⟨i,u,vu,hi,rfl,rfl,hkp,hu,hc⟩
 simp only [pwA,seval,-iQ0];refine iteI (fun hlt=>?_) fun hge=>?_
 rotate_left
 ·have hie:i=L.length:=by omega
  subst hie;rw [List.take_length]at hc
  exact Gh.fin0 hkp (hu.bel _) (hk _ _ hu hc)
 obtain⟨w4,a4,hr⟩:=hrL.rowI hlt;have hx:=hL _ (List.getElem_mem hlt);have hul:u.length≤64:=by
  have:=hc.len;omega
 have hlp:∀{M:List (List Int)},L.take i++[L[i]]=M→L.take (i+1)=M:=fun h=>by rw [←h,List.take_succ_eq_append_getElem hlt]
 have hll2:(L.length:Int)≤4611686018427387904:=by omega
 simp only [pwA,seval,-iQ0,hlt,hr];refine zFS hp hc.base.led (by omega) hx (by omega) hu ⟨w4,a4,rfl⟩ fun z hz=>?_
 have hre:=Zf o hc.base.els hx;have hrl:=hre.1;have hput:=fun k=>hc.put hpb hx (k:=k)
 have hskip:=hc.skip0 hpb hx;have hb0:=hre.at0 o;generalize hrr:redL p (W0 n) u L[i]=r at *
 have hz0:=hz;obtain⟨wz,az,rfl⟩:=hz;simp only [pwA,seval,-iQ0];refine zAa rfl (by omega) ?_
 have hdl:=zAJ r
 by_cases hd:dep r=r.length
 ·have hd':(dep r:Int)=(r.length:Int):=by omega
  simp only [pwA,seval,-iQ0,hd',wrapS hlt (by omega:L.length≤4611686018427387904)]
  refine⟨_,by omega,.here ⟨i+1,u,_,by omega,rfl,rfl,hkp,hu,?_⟩⟩
  rw [List.take_succ_eq_append_getElem hlt];exact hskip (by omega)
 have hdn:dep r<r.length:=by omega
 have hd':¬(dep r:Int)=(r.length:Int):=by omega
 have hne:=qZ hdn;have hbd:=hb0 (dep r);rw [at_eq hdn]at hne hbd
 simp only [pwA,seval,-iQ0,hd',hdn,zW,gi hdn];refine zDO hp (by omega) fun k hk1 hk2 hk3=>?_
 simp only [pwA,seval,-iQ0];refine zBm hpb (by omega) (el_ve (by omega) hre) (by omega) hz0 fun zy hzy=>?_
 obtain⟨c1,c2,c3,c4⟩:=hput k (by omega) (by rw [at_eq hdn];exact hk3)
 generalize hyy:scl p k r=y at *
 have hyl:=c3.1.1;have hzy0:=hzy;obtain⟨wy,ay,rfl⟩:=hzy;have hu0:=hu;obtain⟨wu,au,ru,rfl,hru⟩:=hu;generalize hg:u.map (gOff p y)=g at c1
 have hgl:g.length=u.length:=by rw [←hg,List.length_map]
 have hgat:∀j (h:j<u.length),g[j]'(by omega)=gOff p y u[j]:=fun j h=>by simp [←hg]
 have hgd:∀j (h:j<u.length),dep (g[j]'(by omega))=dep u[j]:=fun j h=>by
  rw [hgat j h];exact(zB4 hpb c3 (hc.base.led _ (List.getElem_mem h)) (by rw [c2];exact c4 _ (List.getElem_mem h))).2
 simp only [pwA,seval,-iQ0];have hkn:=zF h' [];refine zR (fun m vs h2=>∃(j:Nat) (b:Bool) (vN:PV) (rows:List PV),j≤u.length∧m=u.length-j∧vs=[.int .i64 p,.fz wL aL L.length rL,.fz wu au u.length ru,.int .i64 i,.fz wy ay y.length (pis y),.int .i64 (dep r),vN,.bool b,.int .i64 j]∧Keep σ h2∧PSl σ.next 1 h2 vN (part (g.take j) y b).length rows∧All2 FI rows (part (g.take j) y b)∧(b=true→∃q∈g.take j,¬dep q<dep y)∧(b=false→∀q∈g.take j,dep q<dep y)) u.length ?_ ?_
 ·refine⟨0,false,_,[],by omega,by omega,rfl,hkp.new _,?_,by rw [List.take_zero];exact All2.nil _,fun h=>(by cases h),fun _ q hq=>(by rw [List.take_zero]at hq;cases hq)⟩
  rw [List.take_zero];exact PSl.new _ 1 rfl hkp.next
 rintro m vs h2 ⟨j,b,vN,rows,hj,rfl,rfl,hkp2,ha,hall,hb1,hb2⟩
 have hpl:(part (g.take j) y b).length≤65:=by rw [zBx,List.length_take];cases b<;>simp<;>omega
 have hpl1:(part (g.take j) y b).length=min j g.length+b.toNat:=by rw [zBx,List.length_take]
 by_cases hlj:j<u.length
 rotate_left
 ·have hje:j=u.length:=by omega
  subst hje;have ht:g.take u.length=g:=by rw [←hgl];exact List.take_length
  rw [ht]at ha hall hb1 hb2 hpl
  have fin:∀{vF:PV} {h3:PHeap} {rs:List PV},Keep σ h3→PSl σ.next 1 h3 vF (insD g y).length rs→All2 FI rs (insD g y)→∃m',m'<L.length-i∧GL (fun vs h'=>∃(i:Nat) (u:List (List Int)) (vu:PV),i≤L.length∧m'=L.length-i∧vs=[.int .i64 p,.fz wL aL L.length rL,vu,.int .i64 i]∧Keep σ h'∧FII vu u∧Canon p n (W0 n) (L.take i) u) [.int .i64 p,.fz wL aL L.length rL,vF,.int .i64 ((i+1:Nat):Int)] h3:=fun {vF h3 rs} k3 a3 all3=>by
   obtain⟨s,cap,rfl,hcap,q2,q3,q4,q5⟩:=a3;refine⟨L.length-(i+1),by omega,.fz s rs q2 (all3.bI 0) fun o2=>.here ⟨i+1,insD g y,_,by omega,rfl,?_,k3.kill q4,⟨true,.sl o2 0 (insD g y).length cap,rs,rfl,all3⟩,by rw [List.take_succ_eq_append_getElem hlt];exact c1⟩⟩
   simp only [sbs,sb,hcap.ok,and_self,if_true]
  cases b with
  | true=>
   simp only [part,if_true]at ha hall
   simp only [pwA,seval,-iQ0,hlj,wrapS hlt (by omega:L.length≤4611686018427387904)]
   exact fin hkp2 ha hall
  | false=>
   simp only [part,Bool.false_eq_true,if_false]at ha hall hpl
   simp only [pwA,seval,-iQ0,hlj];refine PSl.push (bytes:=24) hkp2 ha (by omega) (by omega) fun v' h3 k3 a3=>?_
   simp only [pwA,seval,-iQ0,wrapS hlt (by omega:L.length≤4611686018427387904)]
   have e:=zB1 (l:=g) (y:=y) fun q hq=>hb2 rfl q hq
   exact fin k3 (by rw [e,List.length_append];exact a3) (by rw [e];exact hall.snoc hzy0)
 obtain⟨w5,a5,hr5⟩:=hru.rowI hlj;have hL5:=hc.base.led _ (List.getElem_mem hlj);have hl5:=hL5.1.1;have hd5:dep r<u[j].length:=by omega
 have hb5:=hL5.1.at0 o (dep r);rw [at_eq hd5]at hb5
 have hw5:IntKind.i64.wrap (p-u[j][dep r])=p-u[j][dep r]:=wrap64 (by omega) (by omega)
 have hne5:=c4 _ (List.getElem_mem hlj);have hgo:gOff p y u[j]=vstep p (p-u[j][dep r]) y u[j]:=by unfold gOff;rw [c2,at_eq hd5]
 have htk:g.take (j+1)=g.take j++[gOff p y u[j]]:=by rw [List.take_succ_eq_append_getElem (by omega),hgat j hlj]
 have hdd:=hgd j hlj;rw [hgat j hlj]at hdd
 -- what follows once the row stands: one more
 have rest:∀{vN:PV} {h2:PHeap} {rows:List PV} {N:List (List Int)} (b':Bool),N++[gOff p y u[j]]=part (g.take (j+1)) y b'→(b'=true→∃q∈g.take (j+1),¬dep q<dep y)→(b'=false→∀q∈g.take (j+1),dep q<dep y)→All2 FI rows N→
   ∀z,FI z (gOff p y u[j])→Keep σ h2→PSl σ.next 1 h2 vN (N.length+1) (rows++[z])→∃m',m'<u.length-j∧∃(j':Nat) (b:Bool) (vN':PV) (rows:List PV),j'≤u.length∧m'=u.length-j'∧[PV.int .i64 p,.fz wL aL L.length rL,.fz wu au u.length ru,.int .i64 i,.fz wy ay y.length (pis y),.int .i64 (dep r),vN,.bool b',.int .i64 ((j+1:Nat):Int)]=[.int .i64 p,.fz wL aL L.length rL,.fz wu au u.length ru,.int .i64 i,.fz wy ay y.length (pis y),.int .i64 (dep r),vN',.bool b,.int .i64 j']∧Keep σ h2∧PSl σ.next 1 h2 vN' (part (g.take j') y b).length rows∧All2 FI rows (part (g.take j') y b)∧(b=true→∃q∈g.take j',¬dep q<dep y)∧(b=false→∀q∈g.take j',dep q<dep y):=by
  intro vN h2 rows N b' he h1' h2' all2 z hz k3 a3;refine⟨_,by omega,j+1,b',vN,rows++[z],by omega,rfl,rfl,k3,?_,?_,h1',h2'⟩
  ·rw [←he,List.length_append];exact a3
  ·rw [←he];exact all2.snoc hz
 have hcall:∀{h3:PHeap} {K':PV→PHeap→Prop},(∀z,FI z (gOff p y u[j])→K' z h3)→zC Try.prog 95 [.int .i64 p,.fz w5 a5 u[j].length (pis u[j]),.int .i64 (p-u[j][dep r]),.fz wy ay y.length (pis y)] h3 K':=fun {h3 K'} k'=>
  zBz hpb (by omega) (el_ve (by omega) hL5.1) (el_ve (by omega) c3.1) (by omega) ⟨w5,a5,rfl⟩ hzy0 fun z hz=>k' z (by rw [hgo];exact hz)
 have hin:gOff p y u[j]∈g.take (j+1):=by rw [htk];simp
 cases b with
 | true=>
  simp only [part,if_true]at ha hall hpl
  obtain⟨q,hq,hqd⟩:=hb1 rfl;simp only [pwA,seval,-iQ0,hlj,hr5,zW,hd5,gi hd5,hw5];refine hcall fun z hz=>?_
  have hz0:=hz;obtain⟨wq,aq,rfl⟩:=hz;simp only [pwA,seval,-iQ0];refine PSl.push (bytes:=24) hkp2 ha (by omega) (by omega) fun v' h3 k3 a3=>?_
  simp only [pwA,seval,-iQ0,wrapS hlj (by omega:u.length≤4611686018427387904)]
  exact rest true (by simp only [part,if_true];rw [htk,zA1 ⟨q,hq,hqd⟩]) (fun _=>⟨q,by rw [htk];exact List.mem_append_left _ hq,hqd⟩) (fun h=>by cases h) hall _ hz0 k3 a3
 | false=>
  simp only [part,Bool.false_eq_true,if_false]at ha hall hpl
  simp only [pwA,seval,-iQ0,hlj,hr5];refine zAa rfl (by omega) ?_
  by_cases hlt5:dep u[j] < dep y
  ·have h5':¬(dep r:Int)<(dep u[j]:Int):=by omega
   simp only [pwA,seval,-iQ0,h5',hlj,hr5,zW,hd5,gi hd5,hw5];refine hcall fun z hz=>?_
   have hz0:=hz;obtain⟨wq,aq,rfl⟩:=hz;simp only [pwA,seval,-iQ0];refine PSl.push (bytes:=24) hkp2 ha (by omega) (by omega) fun v' h3 k3 a3=>?_
   simp only [pwA,seval,-iQ0,wrapS hlj (by omega:u.length≤4611686018427387904)]
   exact rest false (by simp only [part,Bool.false_eq_true,if_false];rw [htk]) (fun h=>by cases h) (fun _ q hq=>by
    rw [htk]at hq
    rcases List.mem_append.1 hq with hq|hq
    ·exact hb2 rfl q hq
    ·rw [List.mem_singleton.1 hq,hdd];exact hlt5) hall _ hz0 k3 a3
  ·have h5':(dep r:Int)<(dep u[j]:Int):=by omega
   simp only [pwA,seval,-iQ0,h5',hlj];refine PSl.push (bytes:=24) hkp2 ha (by omega) (by omega) fun v' h3 k3 a3=>?_
   simp only [pwA,seval,-iQ0,hlj,hr5,zW,hd5,gi hd5,hw5];refine hcall fun z hz=>?_
   have hz0:=hz;obtain⟨wq,aq,rfl⟩:=hz;simp only [pwA,seval,-iQ0];refine PSl.push (bytes:=24) k3 a3 (by omega) (by omega) fun v4 h4 k4 a4=>?_
   simp only [pwA,seval,-iQ0,wrapS hlj (by omega:u.length≤4611686018427387904)]
   refine rest (N:=g.take j++[y]) true (by simp only [part,if_true];rw [htk,zA2 (fun q hq=>hb2 rfl q hq) (by rw [hdd];exact hlt5)]) (fun _=>⟨_,hin,by rw [hdd];exact hlt5⟩) (fun h=>by cases h) (hall.snoc hzy0) _ hz0 k4 (by rw [List.length_append];exact a4)
end Go.Proofs
namespace Go.Grp
end Go.Grp
namespace Go.Proofs
open Go.Ab Go.Lie Go.Grp Go.Mx
variable {σ h:PHeap} {K:PV→PHeap→Prop} {p:Int} {n s0:Nat} {A L X u:List (List Int)} {vA vL:PV} {rows:List SR}
theorem qz {h:PHeap} {t i:Nat} {cs:List PV} {v:PV} (ho:h.obj t=some cs) (hi:i<cs.length) (hv:v.one=true):h.wr t i [v]=some (h.set t (cs.set i v)):=by
 rw [Zn ho,if_pos ⟨by simp;omega,by simp [hv]⟩]
 congr 2
 rw [List.append_assoc];exact take_set cs hi v
theorem Zo {α β:Type} (f:α→β) {xs:List α} {i:Nat} {x y:α} (hx:xs[i]? = some x) (e:f y=f x):(xs.set i y).map f=xs.map f:=by
 rw [List.map_set,e];refine List.ext_getElem? fun j=>?_
 rw [List.getElem?_set]
 split
 ·rename_i e2
  subst e2;rw [List.getElem?_map,hx]
  split
  ·rfl
  ·rename_i e3
   have:=(List.getElem?_eq_some_iff.1 hx).1
   simp only [List.length_map]at e3
   omega
 ·rfl
structure RM (σ h:PHeap) (s0:Nat) (rows:List SR):Prop where
 keep:Keep σ h
 obj:h.obj s0=some (rows.map SR.pv)
 lo:σ.next≤s0
 lt:s0<h.next
 ok:∀q∈rows,q.ok h σ.next
 nd:(zm rows).Nodup
 ne:s0∉zm rows
theorem zDt (nd:(zm rows).Nodup) {i j:Nat} (hi:i<rows.length) (hj:j<rows.length) (e:rows[i].s=rows[j].s):i=j:=by
 have:=(List.getElem_inj (xs:=zm rows) (i:=i) (j:=j) (h₀:=by simpa [zm]using hi) (h₁:=by simpa [zm]using hj) nd).1 (by simpa [zm]using e)
 exact this
theorem RM.put (a:RM σ h s0 rows) {i:Nat} (hi:i<rows.length) {x:List Int} (hx:x.length=rows[i].x.length):RM σ (h.set rows[i].s (pis x)) s0 (rows.set i ⟨rows[i].s,rows[i].cap,x⟩):=by
 have hm:=List.getElem_mem hi;obtain⟨g1,g2,g3,g4⟩:=a.ok _ hm;have hne:s0≠rows[i].s:=fun e=>a.ne (List.mem_map.2 ⟨_,hm,e.symm⟩)
 have hsl:zm (rows.set i ⟨rows[i].s,rows[i].cap,x⟩)=zm rows:=Zo SR.s (List.getElem?_eq_getElem hi) rfl;have hpv:(rows.set i ⟨rows[i].s,rows[i].cap,x⟩).map SR.pv=rows.map SR.pv:=Zo SR.pv (List.getElem?_eq_getElem hi) (by show PV.sl _ 0 x.length _=PV.sl _ 0 rows[i].x.length _;rw [hx])
 refine⟨a.keep.set g3 _,by rw [zJ,if_neg hne,hpv];exact a.obj,a.lo,a.lt,fun q hq=>?_,by rw [hsl];exact a.nd,by rw [hsl];exact a.ne⟩
 obtain⟨j,hj,rfl⟩:=List.mem_iff_getElem.1 hq;rw [List.length_set]at hj
 rw [List.getElem_set]
 split
 ·exact⟨by show full 1 rows[i].cap x.length;rw [hx];exact g1,by rw [zJ,if_pos rfl],g3,g4⟩
 ·rename_i e
  obtain⟨f1,f2,f3,f4⟩:=a.ok _ (List.getElem_mem hj);exact⟨f1,by rw [zJ,if_neg fun e2=>e (zDt a.nd hi hj e2.symm)];exact f2,f3,f4⟩
theorem RM.swap (a:RM σ h s0 rows) {i j:Nat} (hi:i<rows.length) (hj:j<rows.length):RM σ (h.set s0 (((rows.set i rows[j]).set j rows[i]).map SR.pv)) s0 ((rows.set i rows[j]).set j rows[i]):=by
 have hp:=List.set_set_perm hi hj;have hne:∀q∈rows,q.s≠s0:=fun q hq e=>a.ne (List.mem_map.2 ⟨q,hq,e⟩)
 refine⟨a.keep.set a.lo _,by rw [zJ,if_pos rfl],a.lo,a.lt,fun q hq=>?_,((hp.map SR.s).nodup_iff).2 a.nd,fun hm=>a.ne ((hp.map SR.s).mem_iff.1 hm)⟩
 have hq':=hp.mem_iff.1 hq;obtain⟨f1,f2,f3,f4⟩:=a.ok _ hq';exact⟨f1,by rw [zJ,if_neg (hne q hq')];exact f2,f3,f4⟩
def RX (σ h:PHeap) (s0:Nat) (X:List (List Int)):Prop:=∃rows,RM σ h s0 rows∧rows.map SR.x=X
theorem RX.get (a:RX σ h s0 X) {i:Nat} (hi:i<X.length):∃s cap,h.rd1 s0 i=some (.sl s 0 X[i].length cap)∧h.obj s=some (pis X[i])∧full 1 cap X[i].length∧s≠s0∧s<h.next∧∀x:List Int,x.length=X[i].length→RX σ (h.set s (pis x)) s0 (X.set i x):=by
 obtain⟨rows,a,rfl⟩:=a;rw [List.length_map]at hi
 have hm:=List.getElem_mem hi;obtain⟨g1,g2,g3,g4⟩:=a.ok _ hm;rw [List.getElem_map];refine⟨rows[i].s,rows[i].cap,?_,g2,g1,fun e=>a.ne (List.mem_map.2 ⟨_,hm,e⟩),g4,fun x hx=>⟨_,a.put hi hx,?_⟩⟩
 ·rw [zH a.obj,List.getElem?_map,List.getElem?_eq_getElem hi];rfl
 ·rw [List.map_set]
theorem RX.two (a:RX σ h s0 X) {i j:Nat} (hi:i<X.length) (hj:j<X.length) (hne:i≠j):∃s cap t cap',h.rd1 s0 i=some (.sl s 0 X[i].length cap)∧h.obj s=some (pis X[i])∧h.rd1 s0 j=some (.sl t 0 X[j].length cap')∧h.obj t=some (pis X[j])∧s≠t∧s≠s0∧t≠s0∧∀x:List Int,x.length=X[i].length→RX σ (h.set s (pis x)) s0 (X.set i x):=by
 obtain⟨rows,a,rfl⟩:=a;rw [List.length_map]at hi hj
 obtain⟨g1,g2,g3,g4⟩:=a.ok _ (List.getElem_mem hi);obtain⟨f1,f2,f3,f4⟩:=a.ok _ (List.getElem_mem hj);rw [List.getElem_map,List.getElem_map];refine⟨rows[i].s,rows[i].cap,rows[j].s,rows[j].cap,?_,g2,?_,f2,fun e=>hne (zDt a.nd hi hj e),fun e=>a.ne (List.mem_map.2 ⟨_,List.getElem_mem hi,e⟩),fun e=>a.ne (List.mem_map.2 ⟨_,List.getElem_mem hj,e⟩),fun x hx=>⟨_,a.put hi hx,?_⟩⟩
 ·rw [zH a.obj,List.getElem?_map,List.getElem?_eq_getElem hi];rfl
 ·rw [zH a.obj,List.getElem?_map,List.getElem?_eq_getElem hj];rfl
 ·rw [List.map_set]
theorem RX.swap (a:RX σ h s0 X) {i j:Nat} (hi:i<X.length) (hj:j<X.length):∃s cap t cap' h1 h2,h.rd1 s0 i=some (.sl s 0 X[i].length cap)∧h.rd1 s0 j=some (.sl t 0 X[j].length cap')∧h.wr s0 i [.sl t 0 X[j].length cap']=some h1∧h1.wr s0 j [.sl s 0 X[i].length cap]=some h2∧RX σ h2 s0 ((X.set i X[j]).set j X[i]):=by
 obtain⟨rows,a,rfl⟩:=a;rw [List.length_map]at hi hj
 rw [List.getElem_map,List.getElem_map];refine⟨rows[i].s,rows[i].cap,rows[j].s,rows[j].cap,h.set s0 ((rows.map SR.pv).set i rows[j].pv),h.set s0 (((rows.map SR.pv).set i rows[j].pv).set j rows[i].pv),?_,?_,?_,?_,⟨(rows.set i rows[j]).set j rows[i],?_,?_⟩⟩
 ·rw [zH a.obj,List.getElem?_map,List.getElem?_eq_getElem hi];rfl
 ·rw [zH a.obj,List.getElem?_map,List.getElem?_eq_getElem hj];rfl
 ·exact qz a.obj (by simpa using hi) rfl
 ·have:=qz (h:=h.set s0 ((rows.map SR.pv).set i rows[j].pv)) (t:=s0) (i:=j) (v:=rows[i].pv) (by rw [zJ,if_pos rfl]) (by simpa using hj) rfl
  rw [zDG]at this
  exact this
 ·have:=a.swap hi hj
  rw [List.map_set,List.map_set]at this
  exact this
 ·rw [List.map_set,List.map_set]
theorem Zu (hL:∀r∈A,r.length≤1048576) (hll:A.length≤1000) (hvA:FII vA A) (hk:∀v h' rows,Keep σ h'→PAcc σ.next 1 h' v A.length rows→All2 FI rows A→K v h'):zC Try.prog 70 [vA] σ K:=by
 obtain⟨wA,aA,rA,rfl,hrA⟩:=hvA;refine zD mix Try.func70 ?_
 conv=>arg 2;cbv
 refine zG rfl ?_;simp only [pwA,seval,-iQ0];refine zR (fun m vs h'=>∃(i:Nat) (v:PV) (rows:List PV),i≤A.length∧m=A.length-i∧vs=[v,.fz wA aA A.length rA,.int .i64 A.length,.int .i64 i]∧Keep σ h'∧PAcc σ.next 1 h' v i rows∧All2 FI rows (A.take i)) A.length ?_ ?_
 ·exact⟨0,_,[],by omega,by omega,rfl,Keep.refl σ,PAcc.nil _ _ _,by rw [List.take_zero];exact All2.nil _⟩
 rintro m vs h' ⟨i,v,rows,hi,rfl,rfl,hkp,ha,hall⟩
 simp only [pwA,seval,-iQ0];refine iteI (fun hlt=>?_) fun hge=>?_
 rotate_left
 ·have hie:i=A.length:=by omega
  subst hie;rw [List.take_length]at hall
  exact hk _ _ _ hkp ha hall
 obtain⟨w4,a4,hr⟩:=hrA.rowI hlt;simp only [pwA,seval,-iQ0,hlt,hr];refine zC.fzI (fun K' k'=>zEs rfl (by have:=hL _ (List.getElem_mem hlt);omega) k') fun a5=>?_
 simp only [pwA,seval,-iQ0];refine PAcc.push (bytes:=24) hkp ha (by omega) (by omega) fun v' h2 k2 a2=>?_
 simp only [pwA,seval,-iQ0,wrapS hlt (by omega:A.length≤4611686018427387904)]
 exact⟨_,by omega,i+1,v',rows++[.fz true a5 A[i].length (pis A[i])],by omega,rfl,rfl,k2,a2.acc,by rw [List.take_succ_eq_append_getElem hlt];exact hall.snoc ⟨true,a5,rfl⟩⟩
theorem zFZ (hL:∀r∈A,r.length=n) (hn:0<n∧n≤1000) (hll:A.length≤1000) (hvA:FII vA A) (hk:∀v h' rows,RowsI σ h' v rows→rows.map SR.x=A→K v h'):zC Try.prog 70 [vA] σ K:=by
 obtain⟨wA,aA,rA,rfl,hrA⟩:=hvA;refine zD mix Try.func70 ?_
 conv=>arg 2;cbv
 refine zG rfl ?_;simp only [pwA,seval,-iQ0];refine zR (fun m vs h'=>∃(i:Nat) (v:PV) (rows:List SR),i≤A.length∧m=A.length-i∧vs=[v,.fz wA aA A.length rA,.int .i64 A.length,.int .i64 i]∧RowsI σ h' v rows∧rows.map SR.x=A.take i) A.length ?_ ?_
 ·exact⟨0,_,[],by omega,by omega,rfl,RowsI.nil σ,by rw [List.take_zero];rfl⟩
 rintro m vs h' ⟨i,v,rows,hi,rfl,rfl,ha,hall⟩
 simp only [pwA,seval,-iQ0];refine iteI (fun hlt=>?_) fun hge=>?_
 rotate_left
 ·have hie:i=A.length:=by omega
  subst hie;rw [List.take_length]at hall
  exact hk _ _ _ ha hall
 obtain⟨w4,a4,hr⟩:=hrA.rowI hlt;have hl:=hL _ (List.getElem_mem hlt);have hrl:rows.length=i:=by have:=congrArg List.length hall;rw [List.length_map,List.length_take]at this;omega
 simp only [pwA,seval,-iQ0,hlt,hr];refine zEs rfl (by omega) ⟨fun h0=>by rw [h0]at hl;simp at hl;omega,fun cap hcap=>?_⟩
 simp only [pwA,seval,-iQ0];refine RowsI.push ha (zF _ _) (t:=h'.next) (cap:=cap) (x:=A[i]) (Nat.le_refl _) (Nat.lt_succ_self _) (by rw [zL,if_pos rfl]) hcap (by omega) fun v' h2 a2 k2 l2=>?_
 simp only [pwA,seval,-iQ0,wrapS hlt (by omega:A.length≤4611686018427387904)]
 exact⟨_,by omega,i+1,v',_,by omega,rfl,rfl,a2,by rw [List.take_succ_eq_append_getElem hlt,List.map_append,hall];rfl⟩
theorem RowsI.rx {v:PV} (a:RowsI σ h v rows) (hpos:0<rows.length):∃s0 cap,v=.sl s0 0 rows.length cap∧full 1 cap rows.length∧RX σ h s0 (rows.map SR.x):=by
 obtain⟨s0,cap,rfl,hf,q2,q3,q4,q5⟩:=a.acc.pos hpos;exact⟨s0,cap,rfl,hf,rows,⟨a.keep,q2,q4,q5,a.ok,a.nd,fun hm=>a.ne s0 hm 0 _ cap rfl⟩,rfl⟩
end Go.Proofs
namespace Go.Grp
end Go.Grp
namespace Go.Proofs
open Go.Ab Go.Lie Go.Grp Go.Mx
variable {σ h:PHeap} {K:PV→PHeap→Prop} {p:Int} {n s0:Nat} {A L X u:List (List Int)} {vA vL:PV} {rows:List SR}
theorem zCF {P:Program} {c:IC} {Q:Exit→PEnv→PHeap→Prop} {e:PEnv} {h:PHeap} (id:Nat) (J:PEnv→PHeap→Prop) (h1:∀Q':Exit→PEnv→PHeap→Prop,(∀e h,J e h→Q' (.exit id) e h)→vp P c Q' e h) (h2:∀e h,J e h→Q (.exit id) e h):vp P c Q e h:=h1 Q h2
theorem zDJ {m d:Nat} {cap:Cap} (hf:full 1 cap m) (hd:d≤m):ZF 1 (.sl s0 0 m cap) none (some (.int .i64 d)) (some (.int .i64 d))=some (.sl s0 0 d (.known d)):=by
 have h1:(0:Int)≤(d:Int)∧(d:Int)≤(m:Int):=by omega
 have h2:(0:Int)≤(d:Int)∧(d:Int)≤(d:Int):=by omega
 rcases hf with rfl|rfl
 ·rw [zG8]
  simp [zY,qm,h1,h2]
 ·rw [zAq]
  simp [zY,qm,h1,h2]
theorem zDV (hp:isP p) (hL:∀r∈L,El p n r) (hn:0<n∧n≤64) (hll:0<L.length∧L.length≤64) (hvL:FII vL L)
  (hk:∀s0 d X h',RX σ h' s0 X→X.length=L.length→d≤X.length→Canon p n (W0 n) L (X.take d)→K (.sl s0 0 d (.known d)) h'):
  zC Try.prog 101 [.int .i64 p,vL] σ K:=by
 have hpb:=hp.bd;have hq:pr7 p:=hp;have o:=W0_ok hpb n;refine zD mix Try.func101 ?_
 conv=>arg 2;cbv
 refine zG rfl ?_;simp only [pwA,seval,-iQ0];refine zFZ (n:=n) (fun r hr=>(hL r hr).1) ⟨hn.1,by omega⟩ (by omega) hvL fun v h0 rows ha hX=>?_
 have hrl:rows.length=L.length:=by rw [←hX,List.length_map]
 obtain⟨s0,cap,rfl,hf,rx⟩:=RowsI.rx ha (by omega)
 rw [hrl]at hf ⊢
 rw [hX]at rx
 simp only [pwA,seval,-iQ0];refine zR (fun m vs h'=>∃(c d:Nat) (X:List (List Int)),m=n-c∧vs=[.int .i64 p,.sl s0 0 L.length cap,.int .i64 d,.int .i64 c]∧RX σ h' s0 X∧X.length=L.length∧Ech p n L X d c) n ?_ ?_
 ·exact⟨0,0,L,by omega,rfl,rx,rfl,Ech.start hL⟩
 clear rx ha hX hrl
 rintro m vs h' ⟨c,d,X,rfl,rfl,rx,hXl,he⟩
 have hcn:=he.cn;have hdl:=he.dl;have hXn:∀i (hi:i<X.length),X[i].length=n:=fun i hi=>(he.el _ (List.getElem_mem hi)).1
 obtain⟨s1,cap1,q1,q2,q3,q4,q5,q6⟩:=rx.get (i:=0) (by omega)
 rw [hXn]at q1
 have hpos:(0:Int)<(L.length:Int):=by omega
 have fin:c=n∨d=X.length→K (.sl s0 0 d (.known d)) h':=fun hcd=>hk s0 d X h' rx hXl hdl (he.done hcd)
 have hsl:=zDJ (s0:=s0) hf (d:=d) (by omega)
 by_cases hc:c<n
 rotate_left
 ·have hce:c=n:=by omega
  simp only [pwA,seval,-iQ0,hpos,q1,hc,decide_false,hsl];exact fin (.inl hce)
 by_cases hd:d<L.length
 rotate_left
 ·have hde:d=X.length:=by omega
  simp only [pwA,seval,-iQ0,hpos,q1,hc,hd,decide_true,decide_false,hsl];exact fin (.inr hde)
 clear fin;have wc1:IntKind.i64.wrap ((c:Int)+1)=((c+1:Nat):Int):=by rw [wrap64 (by omega) (by omega)];omega
 simp only [pwA,seval,-iQ0,hpos,q1,hc,hd,decide_true];have row0:∀k (hk:k<X.length) j (hj:j<X[k].length),at_ (row X k) j=X[k][j]:=fun k hk j hj=>by rw [zQ hk,at_eq hj]
 refine zCF 2 (fun e h=>∃(t:Nat) (b0:PV),e=PEnv.mk [0,1,5,6,7,47] [.int .i64 p,.sl s0 0 L.length cap,.int .i64 d,.int .i64 c,.int .i64 t,b0]∧h=h'∧d≤t∧t≤L.length∧(∀k,d≤k→k<t→at_ (row X k) c=0)∧(t<L.length→at_ (row X t) c≠0)) (fun Q2 hQ2=>?_) ?_
 ·refine zR (fun m us h=>∃t:Nat,m=L.length-t∧us=[.int .i64 p,.sl s0 0 L.length cap,.int .i64 d,.int .i64 c,.int .i64 t]∧h=h'∧d≤t∧t≤L.length∧∀k,d≤k→k<t→at_ (row X k) c=0) (L.length-d) ⟨d,rfl,rfl,rfl,Nat.le_refl _,by omega,fun k h1 h2=>by omega⟩ ?_
  rintro m us h ⟨t,rfl,rfl,rfl,hdt,htl,hz⟩
  by_cases hlt:t<L.length
  rotate_left
  ·simp only [pwA,seval,-iQ0,hlt,decide_false]
   exact hQ2 _ _ ⟨t,_,rfl,rfl,hdt,htl,hz,fun g=>absurd g hlt⟩
  have htX:t<X.length:=by omega
  obtain⟨s2,cap2,r1,r2,r3,r4,r5,r6⟩:=rx.get htX;rw [hXn]at r1
  have hcr:c<X[t].length:=by rw [hXn];exact hc
  have r7:h.rd1 s2 c=some (.int .i64 X[t][c]):=by rw [zH r2,zW,gi hcr];rfl
  have hat:=row0 t htX c hcr
  by_cases h0:X[t][c]=0
  ·simp only [pwA,seval,-iQ0,hlt,decide_true,r1,hc,r7,h0,wrapS hlt (by omega:L.length≤4611686018427387904)]
   refine⟨_,by omega,t+1,rfl,rfl,by omega,by omega,fun k h1 h2=>?_⟩
   by_cases hk:k=t
   ·rw [hk,hat,h0]
   ·exact hz k h1 (by omega)
  ·simp only [pwA,seval,-iQ0,hlt,decide_true,r1,hc,r7,h0,decide_false]
   exact hQ2 _ _ ⟨t,_,rfl,rfl,hdt,htl,hz,fun _=>by rw [hat];exact h0⟩
 rintro e h ⟨t,b0,rfl,rfl,hdt,htl,hz,hnz⟩
 simp only [pwA,seval,-iQ0]
 by_cases hlt:t<L.length
 rotate_left
 ·have hte:(t:Int)=(L.length:Int):=by omega
  simp only [pwA,seval,-iQ0,hte,wc1];exact⟨_,by omega,c+1,d,X,rfl,rfl,rx,hXl,he.skip hc fun k h1 h2=>hz k h1 (by omega)⟩
 have htX:t<X.length:=by omega
 have hdX:d<X.length:=by omega
 have hte:¬(t:Int)=(L.length:Int):=by omega
 have hnz:=hnz hlt;have htel:=he.el _ (List.getElem_mem htX);have htb:=htel.at0 o c;have hcr:c<X[t].length:=by rw [hXn];exact hc
 rw [zQ htX]at hnz
 obtain⟨s2,cap2,s3,cap3,h1,h2,r1,r2,r3,r4,rx2⟩:=rx.swap hdX htX;rw [hXn]at r1 r2 r3 r4
 simp only [pwA,seval,-iQ0,hte,hd,hlt,r1,r2,r3,r4];have hBl:((X.set d X[t]).set t X[d]).length=L.length:=by simp [hXl]
 have hBr:∀i,row ((X.set d X[t]).set t X[d]) i=if i=t then row X d else if i=d then row X t else row X i:=fun i=>by
  rw [zBG (by rw [List.length_set];omega),zBG (by omega),zQ hdX,zQ htX]
 have hBB:(X.set d X[t]).set t X[d]=(X.set d (row X t)).set t (row X d):=by rw [zQ hdX,zQ htX]
 generalize hB:(X.set d X[t]).set t X[d]=B at *
 have hrX:∀i,i<L.length→El p n (row X i):=fun i hi=>he.el _ (by rw [zQ (by omega)];exact List.getElem_mem _)
 have hBE:∀i,i<L.length→El p n (row B i):=fun i hi=>by
  rw [hBr]
  split
  ·exact hrX d hd
  ·split
   ·exact hrX t hlt
   ·exact hrX i hi
 have hdB:d<B.length:=by omega
 have hBd:row B d=X[t]:=by
  rw [hBr,zQ htX]
  split
  ·rename_i h;subst h;exact zQ hdX
  ·rw [if_pos rfl]
 obtain⟨sd,capd,g1,g2,g3,g4,g5,gp⟩:=rx2.get hdB;have eBd:B[d]=X[t]:=by rw [←hBd,zQ hdB]
 rw [eBd,hXn]at g1 gp
 rw [eBd]at g2
 have g6:h2.rd1 sd c=some (.int .i64 X[t][c]):=by rw [zH g2,zW,gi hcr];rfl
 rw [at_eq hcr]at hnz htb
 simp only [pwA,seval,-iQ0,hd,g1,hc,g6];refine zDg hp ⟨by omega,by omega⟩ fun k b hk0 hk1 hk2=>?_
 have hyl:=hXn t htX;generalize hy:X[t]=y at *
 have hsl2:(scl p k y).length=n:=by rw [qb];exact hyl
 simp only [pwA,seval,-iQ0,hd,g1];refine zCF 4 (fun e h=>∃b0:PV,e=PEnv.mk [0,1,5,6,8,84,85,86] [.int .i64 p,.sl s0 0 L.length cap,.int .i64 d,.int .i64 c,.int .i64 k,.int .i64 n,.int .i64 n,b0]∧h=h2.set sd (pis (scl p k y))) (fun Q4 hQ4=>?_) ?_
 ·refine zR (fun m us h=>∃i:Nat,i≤n∧m=n-i∧us=[.int .i64 p,.sl s0 0 L.length cap,.int .i64 d,.int .i64 c,.int .i64 k,.int .i64 n,.int .i64 i]∧h=h2.set sd (pis ((scl p k y).take i++y.drop i))) n ⟨0,by omega,by omega,rfl,by rw [List.take_zero,List.drop_zero,List.nil_append,QY g2]⟩ ?_
  rintro m us h ⟨i,hi,rfl,rfl,rfl⟩
  simp only [pwA,seval,-iQ0];refine iteI (fun hin=>?_) fun hge=>?_
  rotate_left
  ·have hie:i=n:=by omega
   subst hie;rw [List.drop_of_length_le (by omega),List.append_nil,List.take_of_length_le (by omega)]
   exact hQ4 _ _ ⟨_,rfl,rfl⟩
  have hiy:i<y.length:=by omega
  have e1:=zAA (hsl2.trans hyl.symm) hiy;have hyb:=htel.at0 o i;rw [at_eq hiy]at hyb
  have hb:=sm7 (a:=y[i]) (b:=k) (by omega) (by omega)
  have ew1:IntKind.i64.wrap (y[i] * k)=y[i] * k:=wrap64 (by omega) (by omega)
  have hg7:¬s0=sd:=Ne.symm g4;have hp0:p≠0:=by omega
  have hlen:i+1≤((scl p k y).take i++y.drop i).length:=by simp;omega
  have hiv:i<(scl p k y).length:=by omega
  have hge:(scl p k y)[i]=y[i] * k % p:=by simp [scl]
  have etm:(y[i] * k).tmod p=(scl p k y)[i]:=by rw [hge];exact Int.tmod_eq_emod_of_nonneg (Int.mul_nonneg (by omega) (by omega))
  have eset:List.take i (pis ((scl p k y).take i++y.drop i))++[PV.int .i64 ((y[i] * k).tmod p)]++List.drop (i+1) (pis ((scl p k y).take i++y.drop i))=pis ((scl p k y).take (i+1)++y.drop (i+1)):=by
   rw [etm,Zl (by simp;omega),QU (hsl2.trans hyl.symm) hiv]
  simp only [pwA,seval,-iQ0,hd,g1,hg7,hin,e1,ew1,hp0,zW,zU,hlen,eset,wrapS hin (by omega:n≤4611686018427387904)]
  exact⟨_,by omega,i+1,by omega,rfl,rfl,rfl⟩
 rintro e h ⟨b0,rfl,rfl⟩
 have rx3:=gp (scl p k y) hsl2;have hRr:∀i,row (B.set d (scl p k y)) i=if i=d then scl p k y else row B i:=fun i=>zBG hdB i
 have hRl:(B.set d (scl p k y)).length=L.length:=by rw [List.length_set];exact hBl
 have hRE:∀i,i<L.length→El p n (row (B.set d (scl p k y)) i):=fun i hi=>by
  rw [hRr]
  split
  ·exact zCM (by omega) hyl
  ·exact hBE i hi
 generalize hRR:B.set d (scl p k y)=R at rx3 hRr hRl hRE
 have hCl:∀m,(clrM p c d R m).length=L.length:=fun m=>by rw [QB];exact hRl
 have hCr:=fun m (hm:m≤L.length) i=>zEe (p:=p) (c:=c) (d:=d) (R:=R) m (by omega) i
 have hech:Ech p n L (clrM p c d R L.length) (d+1) (c+1):=by
  refine he.piv hpb (B:=B) (t:=t) (k:=k) hc hdt htX hBB (by rw [zQ htX,hy,at_eq hcr];exact hk2) (by rw [hCl,hXl]) (by rw [hCr _ (Nat.le_refl _),if_neg (by omega),hRr,if_pos rfl,zQ htX,hy]) fun i hi hne=>?_
  rw [hCr _ (Nat.le_refl _) i,if_pos ⟨by omega,hne⟩,hCr _ (Nat.le_refl _) d,if_neg (by omega),hRr i,if_neg hne]
 simp only [pwA,seval,-iQ0];generalize hH3:h2.set sd (pis (scl p k y))=H3 at *
 refine zCF 6 (fun e h=>∃b0:PV,e=PEnv.mk [0,1,5,6,107,108,109] [.int .i64 p,.sl s0 0 L.length cap,.int .i64 d,.int .i64 c,.int .i64 L.length,.int .i64 L.length,b0]∧RX σ h s0 (clrM p c d R L.length)) (fun Q6 hQ6=>?_) ?_
 ·refine zR (fun m us h=>∃i:Nat,i≤L.length∧m=L.length-i∧us=[.int .i64 p,.sl s0 0 L.length cap,.int .i64 d,.int .i64 c,.int .i64 L.length,.int .i64 i]∧RX σ h s0 (clrM p c d R i)) L.length ⟨0,by omega,by omega,rfl,rx3⟩ ?_
  rintro m us h ⟨i,hi,rfl,rfl,rx4⟩
  simp only [pwA,seval,-iQ0];refine iteI (fun hin=>?_) fun hge=>?_
  rotate_left
  ·have hie:i=L.length:=by omega
   subst hie;exact hQ6 _ _ ⟨_,rfl,rx4⟩
  have wi1:=wrapS hin (by omega:L.length≤4611686018427387904)
  by_cases hid:i=d
  ·subst hid
   simp only [pwA,seval,-iQ0,wi1];refine⟨_,by omega,i+1,by omega,rfl,rfl,?_⟩
   unfold clrM;rw [if_pos rfl];exact rx4
  have hid':¬(i:Int)=(d:Int):=by omega
  have hiC:i<(clrM p c d R i).length:=by rw [hCl];exact hin
  have hdC:d<(clrM p c d R i).length:=by rw [hCl];exact hd
  obtain⟨si,capi,sj,capj,f1,f2,f3,f4,f5,f6,f7,f8⟩:=rx4.two hiC hdC hid;have ei:(clrM p c d R i)[i]=row R i:=by rw [←zQ hiC,hCr i (by omega),if_neg (by omega)]
  have ed:(clrM p c d R i)[d]=row R d:=by rw [←zQ hdC,hCr i (by omega),if_neg (by omega)]
  have gi1:=hRE i hin;have gd1:=hRE d hd;rw [ei,gi1.1]at f1 f8
  rw [ei]at f2
  rw [ed,gd1.1]at f3
  rw [ed]at f4
  have hci:c<(row R i).length:=by rw [gi1.1];exact hc
  have f9:h.rd1 si c=some (.int .i64 (row R i)[c]):=by rw [zH f2,zW,gi hci];rfl
  have gib:=gi1.at0 o c;rw [at_eq hci]at gib
  have ewn:IntKind.i64.wrap (0-(row R i)[c])=0-(row R i)[c]:=wrap64 (by omega) (by omega)
  simp only [pwA,seval,-iQ0,hid',hin,hd,f1,f3,hc,f9,ewn];refine zDD (xs:=row R i) (ys:=row R d) (by omega) f2 f4 (Ne.symm f5) gi1.1.symm gd1.1.symm (by rw [gi1.1,gd1.1]) (by rw [gi1.1];omega) (fun j g1 g2=>?_) ?_
  ·have b1:=gd1.at0 o j
   have b2:=gi1.at0 o j;rw [at_eq g2]at b1
   rw [at_eq g1]at b2
   have:=sm7 (a:=0-(row R i)[c]) (b:=(row R d)[j]) (by omega) (by omega)
   unfold sm9;omega
  simp only [pwA,seval,-iQ0,wi1];refine⟨_,by omega,i+1,by omega,rfl,rfl,?_⟩
  have:=f8 (vstep p (0-(row R i)[c]) (row R d) (row R i)) (by rw [zV (by rw [gi1.1,gd1.1]),gi1.1])
  unfold clrM;rw [if_neg hid,at_eq hci,show -(row R i)[c]=0-(row R i)[c] by omega]
  exact this
 rintro e h ⟨b0,rfl,rx5⟩
 have wd1:IntKind.i64.wrap ((d:Int)+1)=((d+1:Nat):Int):=by rw [wrap64 (by omega) (by omega)];omega
 simp only [pwA,seval,-iQ0,wc1,wd1];exact⟨_,by omega,c+1,d+1,_,rfl,rfl,rx5,hCl _,hech⟩
end Go.Proofs
namespace Go.Grp
end Go.Grp
namespace Go.Proofs
open Go.Ab Go.Lie Go.Grp Go.Mx
variable {σ h:PHeap} {K:PV→PHeap→Prop} {p:Int} {n s0 b:Nat} {A L X u:List (List Int)} {vA vL:PV} {rows:List SR}
theorem zHo:∀xs:List PV,TR.pvs (xs.map TR.leaf)=xs
 | []=>rfl
 | x::xs=>by simp only [List.map_cons,TR.pvs,TR.pv,zHo xs]
theorem zHp:∀{xs:List PV},Bels 0 xs→TR.okFs h b (xs.map TR.leaf)
 | [],_=>trivial
 | x::xs,hb=>⟨hb.1,zHp hb.2⟩
theorem zB0:∀x:List Int,TR.okFs h b (x.map fun n=>.leaf (.int .i64 n))
 | []=>trivial
 | n::x=>⟨trivial,zB0 x⟩
theorem SR.ok.trF {q:SR} (a:q.ok h b):q.tr.okF h b:=⟨⟨by rw [List.length_map];exact a.1,by rw [TR.ints_pvs];exact a.2.1,a.2.2.1,a.2.2.2⟩,zB0 q.x⟩
theorem zAQ:∀{rows:List SR},(∀q∈rows,q.ok h b)→TR.okFs h b (rows.map SR.tr)
 | [],_=>trivial
 | q::rows,a=>⟨SR.ok.trF (a q (List.mem_cons_self ..)),zAQ fun q' hq=>a q' (List.mem_cons_of_mem _ hq)⟩
theorem RX.fin {d:Nat} (a:RX σ h s0 X) (hd:d≤X.length) (k:∀z,FII z (X.take d)→K z σ):Gh σ K (.sl s0 0 d (.known d)) h:=by
 obtain⟨rows,r,rfl⟩:=a;rw [List.length_map]at hd
 have et:(TR.cut s0 0 d (.known d) (rows.map SR.tr)).pv=.sl s0 0 d (.known d):=rfl;rw [←et];refine Gh.treeF r.keep ⟨⟨fun c e=>by cases e;exact Nat.le_refl _,by rw [TR.rows_pvs];exact r.obj,r.lo,r.lt,by rw [List.length_map];omega⟩,zAQ r.ok⟩ fun aa=>k _ ⟨false,.sl (aa s0) 0 d (.known d),(TR.fzs aa (rows.map SR.tr)).take d,?_,(TR.rows_all2 rows).take d⟩
 have hl:(List.take d (rows.map SR.x)).length=d:=by simp;omega
 rw [hl];rfl
theorem Za (hp:isP p) (hL:∀r∈L,El p n r) (hn:n≤64) (hll:L.length≤64) (hvL:FII vL L) (hk:∀z u,FII z u→Canon p n (W0 n) L u→K z σ):
  zC Try.prog 101 [.int .i64 p,vL] σ K:=by
 refine zC.gh ?_
 by_cases h0:0<n∧0<L.length
 ·exact zDV hp hL ⟨h0.1,hn⟩ ⟨h0.2,hll⟩ hvL fun s0 d X h' rx hXl hd hc=>rx.fin hd fun z hz=>hk z _ hz hc
 -- nothing to do
 have hcan:Canon p n (W0 n) L []:=by
  have hE:=Ech.start hL
  have:=hE.done (by
   by_cases h1:0<n
   ·exact .inr (by have:¬0<L.length:=fun h=>h0 ⟨h1,h⟩;omega)
   ·exact .inl (by omega))
  rwa [List.take_zero]at this
 refine zD mix Try.func101 ?_
 conv=>arg 2;cbv
 refine zG rfl ?_;simp only [pwA,seval,-iQ0];refine Zu (fun r hr=>by rw [(hL r hr).1];omega) (by omega) hvL fun v h1 rows hk1 ha hall=>?_
 rcases ha with ⟨rfl,e1,e2⟩|⟨s0,cap,rfl,hf,q2,q3,q4,q5⟩
 ·have hsl:ZF 1 (.fz true .nils 0 []) none (some (.int .i64 0)) (some (.int .i64 0))=some (.fz true .nils 0 []):=rfl
  simp only [pwA,seval,-iQ0,hsl];refine zR (fun m vs h'=>m=0∧vs=[.int .i64 p,.fz true .nils 0 [],.int .i64 0,.int .i64 0]∧h'=h1) 0 ⟨rfl,rfl,rfl⟩ ?_
  rintro m vs h' ⟨rfl,rfl,rfl⟩
  have hz0:¬(0:Int)<((0:Nat):Int):=by omega
  simp only [pwA,seval,-iQ0,hz0,decide_false,hsl];exact Gh.fin0 hk1 (show Bel _ (PV.fz true .nils 0 []) from trivial) (hk _ _ ⟨true,.nils,[],rfl,All2.nil _⟩ hcan)
 ·have hsl:ZF 1 (.sl s0 0 L.length cap) none (some (.int .i64 0)) (some (.int .i64 0))=some (.sl s0 0 0 (.known 0)):=zDJ (s0:=s0) hf (d:=0) (Nat.zero_le _)
  have hfin:Gh σ K (.sl s0 0 0 (.known 0)) h1:=by
   have et:(TR.cut s0 0 0 (.known 0) (rows.map TR.leaf)).pv=.sl s0 0 0 (.known 0):=rfl;rw [←et];exact Gh.treeF hk1 ⟨⟨fun c e=>by cases e;exact Nat.le_refl _,by rw [zHo];exact q2,q4,q5,by simp⟩,zHp (hall.bI 0)⟩ fun aa=>hk _ [] ⟨false,.sl (aa s0) 0 0 (.known 0),[],by simp [TR.fz],All2.nil _⟩ hcan
  simp only [pwA,seval,-iQ0];refine zR (fun m vs h'=>m=0∧vs=[.int .i64 p,.sl s0 0 L.length cap,.int .i64 0,.int .i64 0]∧h'=h1) 0 ⟨rfl,rfl,rfl⟩ ?_
  rintro m vs h' ⟨rfl,rfl,rfl⟩
  by_cases hpos:0<L.length
  ·have hn0:n=0:=by
    rcases Nat.eq_zero_or_pos n with g|g
    ·exact g
    ·exact absurd ⟨g,hpos⟩ h0
   obtain⟨w4,a4,hr⟩:=hall.rowI hpos;have hl0:L[0].length=0:=by rw [(hL _ (List.getElem_mem hpos)).1];exact hn0
   have r1:h'.rd1 s0 0=some (.fz w4 a4 L[0].length (pis L[0])):=by rw [zH q2];exact hr
   rw [hl0]at r1
   have hpos':(0:Int)<(L.length:Int):=by omega
   have hz0:¬(0:Int)<((0:Nat):Int):=by omega
   simp only [pwA,seval,-iQ0,hpos',r1,hz0,decide_false,hsl];exact hfin
  ·have hpos':¬(0:Int)<(L.length:Int):=by omega
   simp only [pwA,seval,-iQ0,hpos',hsl];exact hfin
end Go.Proofs
namespace Go.Grp
end Go.Grp
namespace Go.Proofs
open Go.Ab Go.Lie Go.Grp Go.Mx
variable {σ:PHeap} {K:PV→PHeap→Prop} {p d:Int} {n na:Nat} {v w x y xs ys:List Int} {A B M F vals:List (List Int)} {As:List (List (List Int))} {vA vB vM vv vx vw vV v0:PV} {O:List Int} {P:List (List Int)} {C:List (List (List Int))} {vO vP vC:PV} {s sp:Nat}
open Classical in
theorem zHt {vL:PV} {xs:List (List Int)} (hL:FII vL xs) (sz:SzL xs) (hk:∀v,FII v xs→K v σ):zC Try.prog 89 [vL] σ K:=by
 have hb:=sz.l;obtain⟨wl,al,rl,rfl,hrl⟩:=hL;refine zC.gh ?_;refine zD mix Try.func89 ?_
 conv=>arg 2;cbv
 refine zG rfl ?_;simp only [pwA,seval,-iQ0];refine zR (fun m vs h'=>∃i v rows,i≤xs.length∧m=xs.length-i∧vs=[.fz wl al xs.length rl,v,.int .i64 (i:Nat)]∧Keep σ h'∧PSl σ.next 1 h' v i rows∧All2 FI rows (xs.take i)) xs.length ?_ ?_
 ·exact⟨0,_,[],by omega,by omega,rfl,zF σ _,PSl.new σ.next 1 rfl (Nat.le_refl _),by simpa using All2.nil _⟩
 ·rintro m vs h' ⟨i,v,rows,hi,rfl,rfl,hkp,ha,hall⟩
  simp only [pwA,seval,-iQ0];refine iteI (fun hlt=>?_) fun hge=>?_
  ·obtain⟨w4,a4,hrk⟩:=hrl.rowI hlt
   simp only [pwA,seval,-iQ0,hlt,hrk];refine zC.fz (e:=1) (fun K'=>QG rfl (by have:=sz.r _ (List.getElem_mem hlt);omega)) (qO _ _) fun o cap=>?_
   simp only [pwA,seval,-iQ0];refine PSl.push (bytes:=24) (σb:=σ) hkp ha (by omega) (by omega) fun v2 h2 k2 a2=>?_
   simp only [pwA,seval,-iQ0,wrapS hlt (by omega:xs.length≤4611686018427387904)]
   refine⟨_,by omega,i+1,v2,_,by omega,rfl,rfl,k2,a2,?_⟩
   rw [List.take_succ_eq_append_getElem hlt];exact hall.snoc ⟨_,_,rfl⟩
  ·have hie:i=xs.length:=by omega
   subst hie;rw [List.take_length]at hall
   exact ha.fin hkp (hall.bI 0) fun o cap=>hk _ ⟨_,_,_,rfl,hall⟩
theorem zGY (hF:FII vM F) (sz:SzL F) (hk:∀v,FII v F→K (.agg [.int .i64 p,.int .i64 d,v]) σ):zC Try.prog 47 [.int .i64 p,.int .i64 d,vM] σ K:=by
 refine zC.gh ?_;refine zD mix Try.func47 ?_
 conv=>arg 2;cbv
 refine zG rfl ?_;simp only [pwA,seval,-iQ0];refine zHt hF sz fun v hv=>?_
 simp only [pwA,seval,-iQ0,hv.one,hv.cells];exact Gh.fin0 (zF σ _) ⟨trivial,trivial,hv.bel _,trivial⟩ (hk _ hv)
end Go.Proofs
namespace Go.Grp
end Go.Grp
namespace Go.Proofs
open Go.Ab Go.Lie Go.Grp Go.Mx
variable {σ:PHeap} {K:PV→PHeap→Prop} {p p' c c':Int} {n m:Nat} {x y bs:List Int} {A B F F' u xs ys:List (List Int)} {vx vy va vb vA vB vF vF' vC:PV}
theorem zHM {i:Nat} (hi:i<x.length):(pis x)[i]? = some (.int .i64 (at_ x i)):=by rw [zW,gi hi,at_eq hi];rfl
theorem zFP (hx:FI vx x) (hy:FI vy y) (hl:x.length≤1048576) (hk:∀t:Bool,(t=true↔x=y)→K (.bool t) σ):zC Try.prog 35 [vx,vy] σ K:=by
 obtain⟨wx,ax,rfl⟩:=hx;obtain⟨wy,ay,rfl⟩:=hy;refine zD mix Try.func35 ?_
 conv=>arg 2;cbv
 refine zG rfl ?_;simp only [pwA,seval,-iQ0]
 by_cases hxy:x.length=y.length
 rotate_left
 ·have hne:¬(x.length:Int)=(y.length:Int):=by omega
  simp only [pwA,seval,-iQ0,hne];exact hk false ⟨fun h=>(by cases h),fun h=>absurd (by rw [h]) hxy⟩
 have heq:(x.length:Int)=(y.length:Int):=by omega
 simp only [pwA,seval,-iQ0,heq];refine zR (fun m us g=>∃i:Nat,i≤y.length∧m=y.length-i∧us=[.fz wx ax x.length (pis x),.fz wy ay y.length (pis y),.int .i64 i]∧g=σ∧∀j,j<i→x[j]? = y[j]?) y.length ⟨0,by omega,by omega,rfl,rfl,fun j hj=>absurd hj (Nat.not_lt_zero _)⟩ ?_
 rintro m us g ⟨i,hi,rfl,rfl,rfl,he⟩
 simp only [pwA,seval,-iQ0,heq];refine iteI (fun hlt=>?_) fun hge=>?_
 rotate_left
 ·refine hk true ⟨fun _=>List.ext_getElem? fun j=>?_,fun _=>rfl⟩
  rcases Nat.lt_or_ge j i with e|e
  ·exact he j e
  ·rw [List.getElem?_eq_none (by omega),List.getElem?_eq_none (by omega)]
 have hltx:i<x.length:=by omega
 have hlty:i<y.length:=by omega
 have wi1:IntKind.i64.wrap ((i:Int)+1)=((i+1:Nat):Int):=wrapS hlty (by omega)
 simp only [pwA,seval,-iQ0,zHM hltx,zHM hlty,hltx,hlty,wi1];refine iteI (fun hv=>?_) fun hv=>?_
 ·refine⟨_,by omega,i+1,by omega,rfl,rfl,fun j hj=>?_⟩
  rcases Nat.lt_or_ge j i with e|e
  ·exact he j e
  ·obtain rfl:j=i:=by omega
   rw [List.getElem?_eq_getElem hltx,List.getElem?_eq_getElem hlty,←at_eq hltx,←at_eq hlty,hv]
 ·refine hk false ⟨fun h=>(by cases h),fun h=>absurd ?_ hv⟩
  rw [h]
theorem zKe (hb:FB vC bs) (hk:∀t:Bool,(t=true↔4096<bs.length)→K (.bool t) σ):zC Try.prog 8 [vC] σ K:=by
 obtain⟨w,a,rfl⟩:=hb;refine zD mix Try.func8 ?_
 conv=>arg 2;cbv
 refine zG rfl ?_;simp only [pwA,seval,-iQ0];refine hk _ ?_;rw [decide_eq_true_eq];omega
theorem zHn (ha:FII va xs) (hb:FII vb ys) (sz:SzL xs) (hk:∀t:Bool,(t=true↔xs=ys)→K (.bool t) σ):zC Try.prog 49 [va,vb] σ K:=by
 obtain⟨wx,ax,rx,rfl,hrx⟩:=ha;obtain⟨wy,ay,ry,rfl,hry⟩:=hb;have hl:=sz.l;refine zD mix Try.func49 ?_
 conv=>arg 2;cbv
 refine zG rfl ?_;simp only [pwA,seval,-iQ0]
 by_cases hxy:xs.length=ys.length
 rotate_left
 ·have hne:¬(xs.length:Int)=(ys.length:Int):=by omega
  simp only [pwA,seval,-iQ0,hne];exact hk false ⟨fun h=>(by cases h),fun h=>absurd (by rw [h]) hxy⟩
 have heq:(xs.length:Int)=(ys.length:Int):=by omega
 simp only [pwA,seval,-iQ0,heq];refine zR (fun m us g=>∃i:Nat,i≤ys.length∧m=ys.length-i∧us=[.fz wx ax xs.length rx,.fz wy ay ys.length ry,.int .i64 i]∧g=σ∧∀j,j<i→xs[j]? = ys[j]?) ys.length ⟨0,by omega,by omega,rfl,rfl,fun j hj=>absurd hj (Nat.not_lt_zero _)⟩ ?_
 rintro m us g ⟨i,hi,rfl,rfl,rfl,he⟩
 simp only [pwA,seval,-iQ0,heq];refine iteI (fun hlt=>?_) fun hge=>?_
 rotate_left
 ·refine hk true ⟨fun _=>List.ext_getElem? fun j=>?_,fun _=>rfl⟩
  rcases Nat.lt_or_ge j i with e|e
  ·exact he j e
  ·rw [List.getElem?_eq_none (by omega),List.getElem?_eq_none (by omega)]
 have hltx:i<xs.length:=by omega
 have hlty:i<ys.length:=by omega
 have wi1:IntKind.i64.wrap ((i:Int)+1)=((i+1:Nat):Int):=wrapS hlty (by omega)
 obtain⟨w1,a1,h1⟩:=hrx.rowI hltx;obtain⟨w2,a2,h2⟩:=hry.rowI hlty;have hle:=sz.r _ (List.getElem_mem hltx);simp only [pwA,seval,-iQ0,h1,h2,hltx,hlty];refine zFP ⟨w1,a1,rfl⟩ ⟨w2,a2,rfl⟩ hle fun t ht=>?_
 cases t with
 | false=>
  simp only [pwA,seval,-iQ0];refine hk false ⟨fun h=>(by cases h),fun h=>?_⟩
  have:=ht.2 (by simp only [h])
  cases this
 | true=>
  have hv:=ht.1 rfl;simp only [pwA,seval,-iQ0,wi1];refine⟨_,by omega,i+1,by omega,rfl,rfl,fun j hj=>?_⟩
  rcases Nat.lt_or_ge j i with e|e
  ·exact he j e
  ·obtain rfl:j=i:=by omega
   rw [List.getElem?_eq_getElem hltx,List.getElem?_eq_getElem hlty,hv]
theorem Qp (hF:FII vF F) (hF':FII vF' F') (sz:SzL F) (hk:∀t:Bool,(t=true↔p=p'∧c=c'∧F=F')→K (.bool t) σ):zC Try.prog 12 [.agg [.int .i64 p,.int .i64 c,vF],.agg [.int .i64 p',.int .i64 c',vF']] σ K:=by
 have h1:=hF.one;have h2:=hF'.one;refine zC.gh ?_;have hkp:Keep σ ((σ.new [.int .i64 p,.int .i64 c,vF]).new [.int .i64 p',.int .i64 c',vF']):=(zF σ _).new _;have fin:∀{t:Bool},(t=true↔p=p'∧c=c'∧F=F')→Gh σ K (.bool t) ((σ.new [.int .i64 p,.int .i64 c,vF]).new [.int .i64 p',.int .i64 c',vF']):=fun h=>Gh.fin0 hkp trivial (hk _ h)
 refine zD mix Try.func12 ?_
 conv=>arg 2;cbv
 refine zG rfl ?_;simp only [pwA,seval,-iQ0,h1,h2]
 by_cases hp:p=p'
 rotate_left
 ·simp only [pwA,seval,-iQ0,hp,decide_false]
  exact fin (t:=false) ⟨fun h=>(by cases h),fun h=>absurd h.1 hp⟩
 subst hp
 by_cases hc:c=c'
 rotate_left
 ·simp only [pwA,seval,-iQ0,hc,decide_true,decide_false]
  exact fin (t:=false) ⟨fun h=>(by cases h),fun h=>absurd h.2.1 hc⟩
 subst hc;simp only [pwA,seval,-iQ0,decide_true];refine zHn hF hF' sz fun t ht=>?_
 cases t with
 | false=>
  simp only [pwA,seval,-iQ0];exact fin (t:=false) ⟨fun h=>(by cases h),fun h=>by cases ht.2 h.2.2⟩
 | true=>
  simp only [pwA,seval,-iQ0];exact fin (t:=true) ⟨fun _=>⟨rfl,rfl,ht.1 rfl⟩,fun _=>rfl⟩
theorem zDs {k:Nat} (hk:k<n):(trm n A).take (k+1)=(trm n A).take k++[A.map fun r=>at_ r k]:=by
 rw [List.take_succ_eq_append_getElem (by rw [zX];exact hk)]
 simp [trm]
theorem zDc {α β:Type} {f:α→β} {xs:List α} {i:Nat} (hi:i<xs.length):(xs.take (i+1)).map f=(xs.take i).map f++[f xs[i]]:=by
 rw [List.take_succ_eq_append_getElem hi,List.map_append];rfl
theorem zDU (hA:∀r∈A,r.length=n) (hn:n≤64) (hal:A.length≤64) (hvA:FII vA A) (hk:∀v,FII v (trm n A)→K (.agg [.int .i64 p,.int .i64 A.length,v]) σ):
  zC Try.prog 50 [.agg [.int .i64 p,.int .i64 n,vA]] σ K:=by
 have h1:=hvA.one;obtain⟨wA,aA,rA,rfl,hrA⟩:=hvA;refine zC.pwf fun w0=>zC.gh ?_
 generalize hH:(σ.new [.int .i64 p,.int .i64 n,.fz wA aA A.length rA]).new [.int .i64 0,.int .i64 0,.fz true .nils 0 []]=H;have hHn:H.next=σ.next+2:=by rw [←hH];rfl
 have hHk:Keep σ H:=by rw [←hH];exact(zF σ _).new _
 have wH:PWF H:=by rw [←hH];exact(w0.newB (cs:=[.int .i64 p,.int .i64 n,.fz wA aA A.length rA]) ⟨trivial,trivial,trivial,trivial⟩).newB ⟨trivial,trivial,trivial,trivial⟩
 have ho1:H.obj σ.next=some [.int .i64 p,.int .i64 n,.fz wA aA A.length rA]:=by rw [←hH];simp only [pwA,seval,-iQ0]
 have ho2:H.obj (σ.next+1)=some [.int .i64 0,.int .i64 0,.fz true .nils 0 []]:=by rw [←hH];simp only [pwA,seval,-iQ0]
 have q0:H.rd1 σ.next 0=some (.int .i64 p):=by rw [zH ho1];rfl
 have q2:H.rd1 σ.next 2=some (.fz wA aA A.length rA):=by rw [zH ho1];rfl
 have q1:H.rd1 σ.next 1=some (.int .i64 n):=by rw [zH ho1];rfl
 have hne3:¬σ.next=H.next:=by omega
 refine zD mix Try.func50 ?_
 conv=>arg 2;cbv
 refine zG rfl ?_;simp only [pwA,seval,-iQ0];rw [hH];simp only [pwA,seval,-iQ0,q0,q1,q2,hne3];refine zDr (fun m vs h'=>∃(i:Nat) (vC:PV) (rows:List PV),i≤n∧m=n-i∧vs=[.ptr σ.next 0,.ptr (σ.next+1) 0,.ptr (σ.next+2) 0,.int .i64 n,.int .i64 i]∧Acc3 H h' p A.length vC i rows∧All2 FI rows ((trm n A).take i)) n ?_ ?_
 ·exact .here ⟨0,_,[],by omega,by omega,rfl,⟨zF H _,by rw [zL,if_pos rfl],Nat.lt_succ_self _,PAcc.nil _ _ _⟩,by rw [List.take_zero];exact All2.nil _⟩
 rintro m vs h' ⟨i,vC,rows,hi,rfl,rfl,a,hall⟩
 have hob:=a.obj;have hlt0:=a.lt;rw [hHn]at hob hlt0
 have hor:h'.obj (σ.next+1)=some [.int .i64 0,.int .i64 0,.fz true .nils 0 []]:=by rw [a.keep.obj _ (by omega)];exact ho2
 have hoa:h'.obj σ.next=some [.int .i64 p,.int .i64 n,.fz wA aA A.length rA]:=by rw [a.keep.obj _ (by omega)];exact ho1
 have ra:h'.rd1 σ.next 2=some (.fz wA aA A.length rA):=by rw [zH hoa];rfl
 simp only [pwA,seval,-iQ0];refine iteI (fun hlt=>?_) fun hge=>?_
 rotate_left
 ·have hie:i=n:=by omega
  subst hie;have rd:h'.rd (σ.next+2) 0 3=some [.int .i64 p,.int .i64 A.length,vC]:=by rw [qE hob];rfl
  have hwr:h'.wr (σ.next+1) 0 [.int .i64 p,.int .i64 A.length,vC]=some (h'.set (σ.next+1) [.int .i64 p,.int .i64 A.length,vC]):=by
   rw [Zn hor,if_pos ⟨by simp,by simp only [List.all_cons,List.all_nil,a.acc.one];rfl⟩];rfl
  simp only [pwA,seval,-iQ0,rd,hwr];rw [List.take_of_length_le (by rw [zX];exact Nat.le_refl _)]at hall
  exact a.out hHk (by omega) (by omega) hall hk
 have hlt':i<n:=by omega
 have wi1:=wrapS hlt' (by omega:n≤4611686018427387904)
 simp only [pwA,seval,-iQ0,ra];refine zCF 2 (fun e h=>∃(vR:PV) (b0:PV),e=PEnv.mk [1,2,3,4,5,14,15,20,21,22] [.ptr σ.next 0,.ptr (σ.next+1) 0,.ptr (σ.next+2) 0,.int .i64 i,vR,.int .i64 n,.int .i64 i,.int .i64 A.length,.int .i64 A.length,b0]∧Keep h' h∧PAcc h'.next 1 h vR A.length (pis (A.map fun r=>at_ r i))) (fun Q2 hQ2=>?_) ?_
 ·refine zR (fun m us h=>∃(k:Nat) (vR:PV),k≤A.length∧m=A.length-k∧us=[.ptr σ.next 0,.ptr (σ.next+1) 0,.ptr (σ.next+2) 0,.int .i64 i,vR,.int .i64 n,.int .i64 i,.int .i64 A.length,.int .i64 k]∧Keep h' h∧PAcc h'.next 1 h vR k (pis ((A.take k).map fun r=>at_ r i))) A.length ⟨0,_,by omega,by omega,rfl,Keep.refl _,by rw [List.take_zero];exact PAcc.nil _ _ _⟩ ?_
  rintro m us h ⟨k,vR,hk',rfl,rfl,hkp,ha⟩
  simp only [pwA,seval,-iQ0];refine iteI (fun hlk=>?_) fun hgk=>?_
  rotate_left
  ·have hke:k=A.length:=by omega
   subst hke;rw [List.take_length]at ha
   exact hQ2 _ _ ⟨vR,_,rfl,hkp,ha⟩
  obtain⟨w4,a4,hr⟩:=hrA.rowI hlk;have hrl:i<A[k].length:=by rw [hA _ (List.getElem_mem hlk)];exact hlt'
  have ra2:h.rd1 σ.next 2=some (.fz wA aA A.length rA):=by rw [zH (by rw [hkp.obj _ (by omega)];exact hoa)];rfl
  simp only [pwA,seval,-iQ0,ra2,hlk,hr,hrl,gi hrl,zW];refine PAcc.push (bytes:=8) hkp ha (by omega) (by omega) fun v' h2 k2 a2=>?_
  simp only [pwA,seval,-iQ0,wrapS hlk (by omega:A.length≤4611686018427387904)]
  refine⟨_,by omega,k+1,v',by omega,rfl,rfl,k2,?_⟩
  rw [zDc hlk,at_eq hrl]
  have:=a2.acc
  rwa [show [PV.int .i64 A[k][i]]=pis [A[k][i]] from rfl,zAV]at this
 rintro e h ⟨vR,b0,rfl,hkp,ha⟩
 have hcll:(A.map fun r=>at_ r i).length=A.length:=by simp
 have a':Acc3 H h p A.length vC i rows:=⟨a.keep.trans hkp,by rw [hkp.obj _ a.lt];exact a.obj,Nat.lt_of_lt_of_le a.lt hkp.next,a.acc.keep hkp⟩
 have hob':=a'.obj;have hlt1:=a'.lt;rw [hHn]at hob' hlt1
 have r2:h.rd1 (σ.next+2) 2=some vC:=by rw [zH hob'];rfl
 have hne:¬σ.next+2=h.next:=by omega
 have hkn:=hkp.next;generalize hcl:A.map (fun r=>at_ r i)=cl at *
 have g1:=ha.one;have g2:=ha.cells;simp only [pwA,seval,-iQ0,r2,hne,g1,g2];refine PAcc.pushS (σb:=H) (bytes:=24) a'.keep (a'.acc.low (Nat.le_succ _)) rfl (by omega) (by omega) fun v' h2 k2 a2 o2 n2 l2=>?_
 have hob2:h2.obj (σ.next+2)=some [.int .i64 p,.int .i64 A.length,vC]:=by
  rw [o2 _ hlt1 (a'.acc.ne' (by omega))];exact hob'
 have hwr:h2.wr (σ.next+2) 2 [v']=some (h2.set (σ.next+2) [.int .i64 p,.int .i64 A.length,v']):=by
  rw [Zn hob2,if_pos ⟨by simp,by simp [a2.one]⟩];rfl
 simp only [pwA,seval,-iQ0,hwr,a2.cells,wi1];have hk3:Keep H (h2.set (σ.next+2) [.int .i64 p,.int .i64 A.length,v']):=k2.set (by omega) _
 rcases ha with ⟨rfl,e1,e2⟩|⟨s,cap,rfl,hf,q2',q3',q4',q5'⟩
 ·have hcn:cl=[]:=by
   have:(pis cl).length=0:=by rw [e2];rfl
   rw [zU]at this
   exact List.eq_nil_of_length_eq_zero this
  refine⟨n-(i+1),by omega,.here ⟨i+1,v',_,by omega,rfl,rfl,⟨hk3,by rw [hHn,zJ,if_pos rfl],by rw [hHn];show σ.next+2<h2.next;omega,(PSl.setO (a2.high (b':=H.next+1) fun t ht=>n2 t (by omega)) (by omega) _).acc⟩,?_⟩⟩
  rw [zDs hlt',hcl,hcn];exact hall.snoc ⟨true,.nils,rfl⟩
 have a3:PSl (H.next+1) 1 (h2.set (σ.next+2) [.int .i64 p,.int .i64 A.length,v']) v' (i+1) (rows++[.sl s 0 A.length cap]):=PSl.setO (a2.high fun t ht=>n2 t (by omega)) (by omega) _
 refine⟨n-(i+1),by omega,.fzh s (pis cl) (by rw [zJ,if_neg (by omega),o2 _ q5' (a.acc.ne q4')];exact q2') (qO _ _) fun o1=>?_⟩
 obtain⟨f1,f2,f3⟩:=PSl.fzr wH hk3 (a3.acc.low (Nat.le_succ _) |>.pos (by omega)) (s:=s) (cs:=pis cl) (by omega) (n2 _ q5') o1
 refine .here ⟨i+1,v',rows++[.fz true (.sl o1 0 A.length cap) A.length (pis cl)],by omega,rfl,?_,⟨f1,?_,?_,?_⟩,?_⟩
 ·simp only [sbs,sb]
 ·rw [hHn]
  simp only [PHeap.sub,PHeap.kill,PHeap.set,if_neg (by omega:¬σ.next+2=s),if_true,Option.map_some,sbs,sb,f3]
 ·rw [hHn];show σ.next+2<h2.next;omega
 ·rw [zJV (hall.bI 0) hf.ok]at f2
  exact(f2.high fun t ht=>n2 t (by omega)).acc
 ·rw [zDs hlt',hcl]
  exact hall.snoc ⟨true,_,by rw [hcll]⟩
end Go.Proofs
namespace Go.Grp
end Go.Grp
namespace Go.Proofs
open Go.Ab Go.Lie Go.Grp Go.Mx
variable {σ H:PHeap} {K:PV→PHeap→Prop} {p p' c c' a b:Int} {n m r:Nat} {x y bs:List Int} {A B F F' u xs ys:List (List Int)} {v vx vy va vb vA vB vF vF' vC:PV}
theorem res3 (hor:H.obj r=some [.int .i64 0,.int .i64 0,.fz true .nils 0 []]) (hv:v.one=true):
  H.wr r 0 [.int .i64 a,.int .i64 b,v]=some (H.set r [.int .i64 a,.int .i64 b,v])∧(H.set r [.int .i64 a,.int .i64 b,v]).rd r 0 3=some [.int .i64 a,.int .i64 b,v]:=
 ⟨by rw [Zn hor,if_pos ⟨by simp,by simp only [List.all_cons,List.all_nil,hv];rfl⟩];rfl,by rw [zC4,if_pos rfl];rfl⟩
def RetM (K:PV→PHeap→Prop) (σ:PHeap) (r:(Int×Int×List (List Int))×Int):Prop:=∀v,FII v r.1.2.2→K (.tup [.agg [.int .i64 r.1.1,.int .i64 r.1.2.1,v],.int .i64 r.2]) σ
theorem RetM.fin {R:(Int×Int×List (List Int))×Int} (k:RetM K σ R) {e:Int} {h:PHeap} (hk:Keep σ h) (hv:FII v A) (hR:R=((a,b,A),e)):Gh σ K (.tup [.agg [.int .i64 a,.int .i64 b,v],.int .i64 e]) h:=by
 subst hR;exact Gh.fin0 hk ⟨⟨trivial,trivial,hv.bel _,trivial⟩,trivial,trivial⟩ (k v hv)
theorem nilM:FII (.fz true .nils 0 []) []:=⟨true,.nils,[],rfl,All2.nil _⟩
theorem mx_n (h:isMx p c F):∃n:Nat,c=(n:Int)∧n≤8∧isP p∧F.length≤8∧Ma p n F:=by
 obtain⟨h1,h2,h3,h4⟩:=h;exact⟨c.toNat,by omega,by omega,h1,h3,h4⟩
open Classical in
theorem Qi (hp:isP p) (hL:∀r∈A,El p n r) (hn:n≤64) (hll:A.length≤64) (hvL:FII vA A) (hk:∀z u,FII z u→Canon p n (W0 n) A u→K (.agg [.int .i64 p,.int .i64 n,z]) σ):zC Try.prog 69 [.int .i64 p,.int .i64 n,vA] σ K:=by
 refine zC.gh ?_;generalize hH:σ.new [.int .i64 0,.int .i64 0,.fz true .nils 0 []]=H;have hkp:Keep σ H:=by rw [←hH];exact zF σ _
 have hor:H.obj σ.next=some [.int .i64 0,.int .i64 0,.fz true .nils 0 []]:=by rw [←hH];simp only [pwA,seval,-iQ0]
 refine zD mix Try.func69 ?_
 conv=>arg 2;cbv
 refine zG rfl ?_;simp only [pwA,seval,-iQ0];rw [hH];simp only [pwA,seval,-iQ0];refine Za hp hL hn hll hvL fun z u hz hu=>?_
 obtain⟨w1,r1⟩:=res3 (a:=p) (b:=(n:Int)) hor hz.one;simp only [pwA,seval,-iQ0,w1,r1,hz.one,hz.cells];exact Gh.fin0 (hkp.set (by omega) _) ⟨trivial,trivial,hz.bel _,trivial⟩ (hk z u hz hu)
theorem zCQ (hp:isP p) (hL:∀r∈A,El p n r) (hn:n≤64) (hll:A.length≤64) (hvL:FII vA A) (hk:∀z u,FII z u→Canon p n (W0 n) A u→K (.agg [.int .i64 p,.int .i64 n,z]) σ):zC Try.prog 51 [.agg [.int .i64 p,.int .i64 n,vA]] σ K:=by
 have h1:=hvL.one;refine zC.gh ?_;generalize hH:(σ.new [.int .i64 p,.int .i64 n,vA]).new [.int .i64 0,.int .i64 0,.fz true .nils 0 []]=H;have hkp:Keep σ H:=by rw [←hH];exact(zF σ _).new _
 have m0:H.rd1 σ.next 0=some (.int .i64 p):=by rw [←hH];simp only [pwA,seval,-iQ0]
 have m1:H.rd1 σ.next 1=some (.int .i64 n):=by rw [←hH];simp only [pwA,seval,-iQ0]
 have m2:H.rd1 σ.next 2=some vA:=by rw [←hH];simp only [pwA,seval,-iQ0]
 have hor:H.obj (σ.next+1)=some [.int .i64 0,.int .i64 0,.fz true .nils 0 []]:=by rw [←hH];simp only [pwA,seval,-iQ0]
 refine zD mix Try.func51 ?_
 conv=>arg 2;cbv
 refine zG rfl ?_;simp only [pwA,seval,-iQ0,h1];rw [hH];simp only [pwA,seval,-iQ0,m0,m1,m2];refine Qi hp hL hn hll hvL fun z u hz hu=>?_
 obtain⟨w1,r1⟩:=res3 (a:=p) (b:=(n:Int)) hor hz.one;simp only [pwA,seval,-iQ0,w1,r1,hz.one,hz.cells];exact Gh.fin0 (hkp.set (by omega) _) ⟨trivial,trivial,hz.bel _,trivial⟩ (hk z u hz hu)
end Go.Proofs
namespace Go.Grp
end Go.Grp
namespace Go.Proofs
open Go.Ab Go.Lie Go.Grp Go.Mx
variable {σ h:PHeap} {K:PV→PHeap→Prop} {p c:Int} {n m s:Nat} {x y v w:List Int} {A B u:List (List Int)} {vA vB v0:PV} {rows:List SR}
theorem zIg {h:PHeap} {o d m len:Nat} {c1:Cap} {x:PV} {cs:List PV} (hx:plen x=some m) (hm:min m len≠0) (hf:ZL 1 h x (min m len)=some cs) {h':PHeap} (hw:h.wr o d cs=some h'):pcopy 1 h (.sl o d len c1) x=some (.int .i64 (min m len:Nat),h'):=by
 unfold pcopy;rw [show plen (.sl o d len c1)=some len from rfl,hx]
 simp only [Option.bind_some];rw [if_neg hm];simp only [hf,Option.bind_some,hw,Option.map_some]
theorem zHO {h:PHeap} {o d m len:Nat} {c1:Cap} {x:PV} (hx:plen x=some m) (hm:min m len=0):pcopy 1 h (.sl o d len c1) x=some (.int .i64 0,h):=by
 unfold pcopy;rw [show plen (.sl o d len c1)=some len from rfl,hx]
 simp only [Option.bind_some];rw [if_pos hm]
theorem RowsI.finF (a:RowsI σ h v0 rows) (k:∀z,FII z (rows.map SR.x)→K z σ):Gh σ K v0 h:=by
 rcases a.acc with ⟨rfl,e1,e2⟩|⟨s0,cap,rfl,hf,q2,q3,q4,q5⟩
 ·have:rows=[]:=List.eq_nil_of_length_eq_zero e1
  subst this;exact Gh.fin0 a.keep (show Bel _ (PV.fz true .nils 0 []) from trivial) (k _ ⟨true,.nils,[],rfl,All2.nil _⟩)
 ·have et:(TR.rows s0 cap rows).pv=.sl s0 0 rows.length cap:=by simp [TR.rows,TR.pv]
  rw [←et];exact Gh.treeF a.keep ⟨⟨by rw [List.length_map];exact hf,by rw [TR.rows_pvs];exact q2,q4,q5⟩,zAQ a.ok⟩ fun aa=>k _ TR.rows_FII
theorem zJN {i:Nat} (hi:i<A.length):(wd A).take (i+1)=(wd A).take i++[A[i]++uv A.length i]:=by
 rw [List.take_succ_eq_append_getElem (by rw [qH];exact hi)]
 congr 2
 rw [←zQ (by rw [qH];exact hi),Q8 hi,zQ hi]
theorem zCD (hA:∀r∈A,r.length=n) (hn:n≤64) (hal:A.length≤64) (hvA:FII vA A) (hk:∀z,FII z (wd A)→K z σ):zC Try.prog 102 [vA] σ K:=by
 obtain⟨wA,aA,rA,rfl,hrA⟩:=hvA;refine zC.gh ?_;refine zD mix Try.func102 ?_
 conv=>arg 2;cbv
 refine zG rfl ?_;simp only [pwA,seval,-iQ0];refine zR (fun k us h=>∃(i:Nat) (v0:PV) (rows:List SR),i≤A.length∧k=A.length-i∧us=[.fz wA aA A.length rA,v0,.fz wA aA A.length rA,.int .i64 A.length,.int .i64 i]∧RowsI σ h v0 rows∧rows.map SR.x=(wd A).take i) A.length ⟨0,_,[],by omega,by omega,rfl,RowsI.nil σ,by rw [List.take_zero];rfl⟩ ?_
 rintro k us h ⟨i,v0,rows,hi,rfl,rfl,a,hx⟩
 simp only [pwA,seval,-iQ0];refine iteI (fun hlt=>?_) fun hge=>?_
 rotate_left
 ·have hie:i=A.length:=by omega
  subst hie;rw [List.take_of_length_le (by rw [qH];exact Nat.le_refl _)]at hx
  rw [←hx]at hk
  exact RowsI.finF a hk
 obtain⟨w4,a4,hr⟩:=hrA.rowI hlt;have hl:=hA _ (List.getElem_mem hlt);have hrl:rows.length=i:=by have:=congrArg List.length hx;rw [List.length_map,List.length_take,qH]at this;omega
 have ew:IntKind.i64.wrap ((A[i].length:Int)+(A.length:Int))=((A[i].length+A.length:Nat):Int):=by rw [wrap64 (by omega) (by omega)];omega
 have ew2:IntKind.i64.wrap ((A[i].length:Int)+(i:Int))=((A[i].length+i:Nat):Int):=by rw [wrap64 (by omega) (by omega)];omega
 have hmk1:((A[i].length+A.length:Nat):Int)*((8:Nat):Int)≤140737488355328:=by omega
 have hmk2:((A[i].length+A.length:Nat):Int)≤9223372036854775807:=by omega
 have hlt2:A[i].length+i<A[i].length+A.length:=by omega
 -- the row is copied
 have cp:pcopy 1 (h.new (pis (List.replicate (A[i].length+A.length) 0))) (.sl h.next 0 (A[i].length+A.length) (.known (A[i].length+A.length))) (.fz w4 a4 A[i].length (pis A[i]))=some (.int .i64 (min A[i].length (A[i].length+A.length):Nat),h.new (pis (A[i]++List.replicate A.length 0))):=by
  by_cases h0:A[i].length=0
  ·have e:A[i]=[]:=List.eq_nil_of_length_eq_zero h0
   rw [zHO (m:=A[i].length) rfl (by omega)]
   rw [e];simp
  ·refine zIg (m:=A[i].length) (cs:=pis A[i]) rfl (by omega) ?_ ?_
   ·rw [zAs,if_neg (by omega),if_pos ⟨by omega,by rw [zU];omega,by omega⟩,List.take_of_length_le (by rw [zU];omega)]
   ·rw [Zn (cs:=pis (List.replicate (A[i].length+A.length) 0)) (by rw [zL,if_pos rfl]),if_pos ⟨by simp [pis],zJq _⟩,Qj]
    congr 2
    rw [List.take_zero,List.nil_append,Nat.zero_add,zU,zD9,zAV,List.drop_replicate,Nat.add_sub_cancel_left]
 have hset:(A[i]++List.replicate A.length 0).set (A[i].length+i) 1=A[i]++uv A.length i:=by
  rw [List.set_append_right _ _ (by omega),Nat.add_sub_cancel_left]
  rfl
 have hlen9:(A[i]++List.replicate A.length 0).length=A[i].length+A.length:=by simp
 have hw:(h.new (pis (A[i]++List.replicate A.length 0))).wr h.next (A[i].length+i) [.int .i64 1]=some (h.new (pis (A[i]++uv A.length i))):=by
  rw [qz (cs:=pis (A[i]++List.replicate A.length 0)) (by rw [zL,if_pos rfl]) (by rw [zU,hlen9];omega) rfl,Qj,zAD,hset]
 simp only [pwA,seval,-iQ0,hlt,hr,ew,ew2,hmk1,hmk2,QV];rw [cp];generalize hH1:h.new (pis (A[i]++List.replicate A.length 0))=H1 at *
 generalize hH2:h.new (pis (A[i]++uv A.length i))=H2 at *
 simp only [pwA,seval,-iQ0,ew2,hlt2,hw];have hul:(A[i]++uv A.length i).length=A[i].length+A.length:=by simp [uv]
 have ez:PV.sl h.next 0 (A[i].length+A.length) (.known (A[i].length+A.length))=.sl h.next 0 (A[i]++uv A.length i).length (.known (A[i].length+A.length)):=by rw [hul]
 rw [ez];refine RowsI.push a (h:=H2) (t:=h.next) (cap:=.known (A[i].length+A.length)) (x:=A[i]++uv A.length i) (by rw [←hH2];exact zF _ _) (Nat.le_refl _) (by rw [←hH2];exact Nat.lt_succ_self _) (by rw [←hH2,zL,if_pos rfl]) (by rw [hul];exact .inr rfl) (by omega) fun v' h3 a3 k3 l3=>?_
 simp only [pwA,seval,-iQ0,wrapS hlt (by omega:A.length≤4611686018427387904)]
 refine⟨_,by omega,i+1,v',_,by omega,rfl,rfl,a3,?_⟩
 rw [zJN hlt,List.map_append,hx];rfl
theorem ZY (hp:isP p) (hA:Ma p n A) (hn:n≤16) (hal:A.length≤16) (hvA:FII vA A) (hk:∀z u,FII z (nul n u)→Canon p (n+A.length) (W0 (n+A.length)) (wd A) u→K z σ):zC Try.prog 71 [.int .i64 p,vA,.int .i64 n] σ K:=by
 have hq:pr7 p:=hp;have hpb:=hp.bd;refine zC.gh ?_;refine zD mix Try.func71 ?_
 conv=>arg 2;cbv
 refine zG rfl ?_;simp only [pwA,seval,-iQ0];refine zCD (fun r hr=>(hA r hr).len) (by omega) (by omega) hvA fun zw hzw=>?_
 simp only [pwA,seval,-iQ0];refine Za hp (wd_el hq hA) (by omega) (by rw [qH];omega) hzw fun zu u hzu hu=>?_
 have hul:=zCE hq hA hu;obtain⟨wu,au,ru,rfl,hru⟩:=hzu;simp only [pwA,seval,-iQ0];have hrow:∀i (h:i<u.length),u[i].length=n+A.length:=fun i h=>(hu.base.els _ (List.getElem_mem h)).1
 refine zR (fun k us h=>∃(i:Nat) (v0:PV) (rows:List PV),i≤u.length∧k=u.length-i∧us=[.int .i64 p,.int .i64 n,v0,.fz wu au u.length ru,.int .i64 u.length,.int .i64 i]∧Keep σ h∧PAcc σ.next 1 h v0 (nul n (u.take i)).length rows∧All2 FI rows (nul n (u.take i))) u.length ⟨0,_,[],by omega,by omega,rfl,Keep.refl σ,by rw [List.take_zero];exact PAcc.nil _ _ _,by rw [List.take_zero];exact All2.nil _⟩ ?_
 rintro k us h ⟨i,v0,rows,hi,rfl,rfl,hkp,ha,hall⟩
 have hnl:(nul n (u.take i)).length≤u.length:=by
  have:=Qh (n:=n) (u:=u.take i)
  rw [List.length_take]at this;omega
 simp only [pwA,seval,-iQ0];refine iteI (fun hlt=>?_) fun hge=>?_
 rotate_left
 ·have hie:i=u.length:=by omega
  subst hie;rw [List.take_length]at ha hall
  obtain⟨cn,hn'⟩:=zAG hq hA hu;have lenN:(nul n u).length≤64:=by rw [List.take_length]at hnl;omega
  have fin:∀{z:PV} {w:List (List Int)},FII z w→Canon p A.length (W0 A.length) (nul n u) w→K z σ:=fun {z w} hz hw=>by
   have:w=nul n u:=hw.unique (W0_ok hq.ok _) cn
   subst this;exact hk z u hz hu
  rcases ha with ⟨rfl,e1,e2⟩|⟨s0,cap,rfl,hf,q2,q3,q4,q5⟩
  ·have e3:nul n u=[]:=List.eq_nil_of_length_eq_zero e1
   have hz0:FII (.fz true .nils 0 []) (nul n u):=by rw [e3];exact nilM
   simp only [pwA,seval,-iQ0];refine Za hp cn.base.els (by omega) lenN hz0 fun z w hz hw=>?_
   simp only [pwA,seval,-iQ0];exact Gh.fin0 hkp (hz.bel _) (fin hz hw)
  ·simp only [pwA,seval,-iQ0]
   refine zC.frz q2 (hall.bI 0) fun o1=>?_
   simp only [sbs,sb,hf.ok,and_self,if_true,nm_eq];refine Za hp cn.base.els (by omega) lenN (vL:=.fz true (.sl o1 0 (nul n u).length cap) (nul n u).length rows) ⟨true,_,rows,rfl,hall⟩ fun z w hz hw=>?_
   simp only [pwA,seval,-iQ0];exact Gh.fin0 (hkp.kill q4) (hz.bel _) (fin hz hw)
 obtain⟨w4,a4,hr⟩:=hru.rowI hlt;have hl:=hrow i hlt;have hE:=hu.base.els _ (List.getElem_mem hlt);have h0n:(0:Int)≤((n:Nat):Int):=by omega
 have hnl2:((n:Nat):Int)≤(u[i].length:Int):=by omega
 have wi1:=wrapS hlt (by omega:u.length≤4611686018427387904)
 have htk:u.take (i+1)=u.take i++[u[i]]:=List.take_succ_eq_append_getElem hlt;simp only [pwA,seval,-iQ0,hlt,hr,h0n,hnl2,zD8,Nat.sub_zero];refine zHu (by simp;omega) (by simp;omega) ?_
 have hz:isZ (u[i].take n)↔n≤dep u[i]:=by
  constructor
  ·intro h
   refine zH5 (by omega) fun j hj=>?_
   have:=h (at_ u[i] j) (by rw [at_eq (by omega),List.mem_take_iff_getElem];exact⟨j,by omega,rfl⟩)
   exact this
  ·intro h x hx
   rw [List.mem_take_iff_getElem]at hx
   obtain⟨j,hj,rfl⟩:=hx;rw [←at_eq (by omega)]
   exact zf (by omega)
 by_cases hd:n≤dep u[i]
 ·have hzt:=hz.2 hd
  have e1:nul n (u.take (i+1))=nul n (u.take i)++[u[i].drop n]:=by
   unfold nul Fp;rw [htk,List.filter_append,List.map_append];simp [hd]
  have hnl3:n≤u[i].length:=by omega
  have htf:List.take (u[i].length-n) (pis (List.drop n u[i]))=pis (List.drop n u[i]):=List.take_of_length_le (by rw [zU,List.length_drop];exact Nat.le_refl _)
  simp only [pwA,seval,-iQ0,hzt,hlt,hr,h0n,hnl2,hnl3,htf,zD9,Nat.sub_zero];refine PAcc.push (bytes:=24) hkp ha (by omega) (by omega) fun v' h2 k2 a2=>?_
  simp only [pwA,seval,-iQ0,wi1];refine⟨_,by omega,i+1,v',rows++[.fz false (pslA 1 a4 n u[i].length) (u[i].length-n) (pis (List.drop n u[i]))],by omega,rfl,rfl,k2,?_,?_⟩
  ·rw [e1,List.length_append];exact a2.acc
  ·rw [e1]
   exact hall.snoc ⟨false,_,by rw [List.length_drop]⟩
 ·have hzt:¬isZ (u[i].take n):=fun h=>hd (hz.1 h)
  have e1:nul n (u.take (i+1))=nul n (u.take i):=by
   unfold nul Fp;rw [htk,List.filter_append,List.map_append];simp [hd]
  simp only [pwA,seval,-iQ0,hzt,wi1];exact⟨_,by omega,i+1,v0,rows,by omega,rfl,rfl,hkp,by rw [e1];exact ha,by rw [e1];exact hall⟩
end Go.Proofs
namespace Go.Grp
end Go.Grp
namespace Go.Proofs
open Go.Ab Go.Lie Go.Grp Go.Mx
variable {σ h:PHeap} {K:PV→PHeap→Prop} {p c:Int} {n m s:Nat} {x y v w:List Int} {A B F u:List (List Int)} {vA vB vF v0:PV} {rows:List SR}
theorem zDd (hp:isP p) (hA:Ma p n A) (hn:n≤16) (hal:A.length≤16) (hvA:FII vA A) (hk:∀z u,FII z (nul n u)→Canon p (n+A.length) (W0 (n+A.length)) (wd A) u→K (.agg [.int .i64 p,.int .i64 A.length,z]) σ):zC Try.prog 72 [.agg [.int .i64 p,.int .i64 n,vA]] σ K:=by
 have h1:=hvA.one;have hlen:pLen vA=some (.int .i64 A.length):=by obtain⟨w,a,r,rfl,_⟩:=hvA;rfl
 refine zC.gh ?_;generalize hH:(σ.new [.int .i64 p,.int .i64 n,vA]).new [.int .i64 0,.int .i64 0,.fz true .nils 0 []]=H;have hkp:Keep σ H:=by rw [←hH];exact(zF σ _).new _
 have m0:H.rd1 σ.next 0=some (.int .i64 p):=by rw [←hH];simp only [pwA,seval,-iQ0]
 have m1:H.rd1 σ.next 1=some (.int .i64 n):=by rw [←hH];simp only [pwA,seval,-iQ0]
 have m2:H.rd1 σ.next 2=some vA:=by rw [←hH];simp only [pwA,seval,-iQ0]
 have hor:H.obj (σ.next+1)=some [.int .i64 0,.int .i64 0,.fz true .nils 0 []]:=by rw [←hH];simp only [pwA,seval,-iQ0]
 refine zD mix Try.func72 ?_
 conv=>arg 2;cbv
 refine zG rfl ?_;simp only [pwA,seval,-iQ0,h1];rw [hH];simp only [pwA,seval,-iQ0,m0,m1,m2,hlen];refine ZY hp hA hn hal hvA fun z u hz hu=>?_
 obtain⟨w1,r1⟩:=res3 (a:=p) (b:=(A.length:Int)) hor hz.one;simp only [pwA,seval,-iQ0,m0,m1,m2,hlen,w1,r1,hz.one,hz.cells];exact Gh.fin0 (hkp.set (by omega) _) ⟨trivial,trivial,hz.bel _,trivial⟩ (hk z u hz hu)
theorem zEq (hm:isMx p n F) (hF:FII vF F) (hk:∀z u,FII z (nul n u)→Canon p (n+F.length) (W0 (n+F.length)) (wd F) u→K (.tup [.agg [.int .i64 p,.int .i64 F.length,z],.int .i64 0]) σ):zC Try.prog 29 [.agg [.int .i64 p,.int .i64 n,vF]] σ K:=by
 have h1:=hF.one;obtain⟨n',e,hn,hp,hl,hA⟩:=mx_n hm
 have:n'=n:=by omega
 subst this;have sz:SzL F:=⟨by omega,fun r hr=>by rw [(hA r hr).len];omega⟩
 refine zC.gh ?_;generalize hH:(σ.new [.int .i64 p,.int .i64 n',vF]).new [.int .i64 0,.int .i64 0,.fz true .nils 0 []]=H;have hkp:Keep σ H:=by rw [←hH];exact(zF σ _).new _
 have g0:H.rd σ.next 0 3=some [.int .i64 p,.int .i64 n',vF]:=by rw [←hH];simp only [pwA,seval,-iQ0]
 have hor:H.obj (σ.next+1)=some [.int .i64 0,.int .i64 0,.fz true .nils 0 []]:=by rw [←hH];simp only [pwA,seval,-iQ0]
 refine zD mix Try.func29 ?_
 conv=>arg 2;cbv
 refine zG rfl ?_;simp only [pwA,seval,-iQ0,h1];rw [hH];simp only [pwA,seval,-iQ0,g0];refine Zy sz hF fun t ht=>?_
 obtain rfl:t=true:=ht.2 hm;simp only [pwA,seval,-iQ0,g0];refine zDd hp hA (by omega) (by omega) hF fun v u hv hu=>?_
 obtain⟨w1,r1⟩:=res3 (a:=p) (b:=(F.length:Int)) hor hv.one;simp only [pwA,seval,-iQ0,w1,r1,hv.one,hv.cells];exact Gh.fin0 (hkp.set (by omega) _) ⟨⟨trivial,trivial,hv.bel _,trivial⟩,trivial,trivial⟩ (hk v u hv hu)
end Go.Proofs
namespace Go.Grp
end Go.Grp
namespace Go.Proofs
open Go.Ab Go.Lie Go.Grp Go.Mx
variable {σ h:PHeap} {K:PV→PHeap→Prop} {p c:Int} {n m s:Nat} {x y v w b:List Int} {A B F u:List (List Int)} {vA vB vF vU v0 vx vb:PV} {rows:List SR}
def isSp (p c:Int) (F:List (List Int)):Prop:=isMx p c F∧Canon p c.toNat (W0 c.toNat) F F
theorem qh (sz:SzL F) (hF:FII vF F) (hk:∀t:Bool,(t=true↔isSp p c F)→K (.bool t) σ):zC Try.prog 56 [.agg [.int .i64 p,.int .i64 c,vF]] σ K:=by
 have h1:=hF.one;refine zC.gh ?_;generalize hH:σ.new [.int .i64 p,.int .i64 c,vF]=H;have hkp:Keep σ H:=by rw [←hH];exact zF σ _
 have hob:H.obj σ.next=some [.int .i64 p,.int .i64 c,vF]:=by rw [←hH];simp only [pwA,seval,-iQ0]
 have g0:H.rd σ.next 0 3=some [.int .i64 p,.int .i64 c,vF]:=by rw [qE hob];rfl
 have m2:H.rd1 σ.next 2=some vF:=by rw [zH hob];rfl
 refine zD mix Try.func56 ?_
 conv=>arg 2;cbv
 refine zG rfl ?_;simp only [pwA,seval,-iQ0,h1];rw [hH];simp only [pwA,seval,-iQ0,g0];refine Zy sz hF fun t ht=>?_
 cases t with
 | false=>
  simp only [pwA,seval,-iQ0,g0];exact Gh.fin0 hkp trivial (hk false ⟨fun h=>(by cases h),fun h=>(by cases ht.2 h.1)⟩)
 | true=>
 have hm:=ht.1 rfl;obtain⟨n,rfl,hn,hp,hl,hA⟩:=mx_n hm;have hq:pr7 p:=hp;simp only [pwA,seval,-iQ0,g0,m2];refine zCQ hp (ma_el hA) (by omega) (by omega) hF fun z u hz hu=>?_
 have ul:u.length≤F.length:=zAC hq (ma_el hA) hu;have z1:=hz.one;have z2:=hz.cells;simp only [pwA,seval,-iQ0,g0,m2,z1,z2];refine zEv hz hF (by omega) (fun x hx=>by have:=(hu.base.els _ hx).1;omega) fun t ht2=>?_
 simp only [pwA,seval,-iQ0,g0,m2];refine Gh.fin0 hkp trivial (hk t ⟨fun h=>⟨hm,?_⟩,fun h=>ht2.2 ?_⟩)
 ·rw [Int.toNat_natCast]
  have:=ht2.1 h
  subst this;exact hu
 ·have:=h.2
  rw [Int.toNat_natCast]at this
  exact hu.unique (W0_ok hq.ok _) this
theorem zAN (sz:SzL F) (hF:FII vF F) (hk:∀t:Bool,(t=true↔isSp p c F)→K (.bool t) σ):zC Try.prog 53 [.agg [.int .i64 p,.int .i64 c,vF]] σ K:=by
 have h1:=hF.one;refine zC.gh ?_;generalize hH:σ.new [.int .i64 p,.int .i64 c,vF]=H;have hkp:Keep σ H:=by rw [←hH];exact zF σ _
 have hob:H.obj σ.next=some [.int .i64 p,.int .i64 c,vF]:=by rw [←hH];simp only [pwA,seval,-iQ0]
 have g0:H.rd σ.next 0 3=some [.int .i64 p,.int .i64 c,vF]:=by rw [qE hob];rfl
 have m0:H.rd1 σ.next 0=some (.int .i64 p):=by rw [zH hob];rfl
 have m2:H.rd1 σ.next 2=some vF:=by rw [zH hob];rfl
 refine zD mix Try.func53 ?_
 conv=>arg 2;cbv
 refine zG rfl ?_;simp only [pwA,seval,-iQ0,h1];rw [hH];simp only [pwA,seval,-iQ0,g0];refine zAy sz hF fun t ht=>?_
 cases t with
 | false=>
  simp only [pwA,seval,-iQ0,g0];exact Gh.fin0 hkp trivial (hk false ⟨fun h=>(by cases h),fun h=>(by cases ht.2 h.1)⟩)
 | true=>
 have hm:=ht.1 rfl;obtain⟨n,rfl,hn,hp,hl,hA⟩:=mx_n hm;have hq:pr7 p:=hp;simp only [pwA,seval,-iQ0,g0,m0,m2];refine zAx hp (ma_el hA) (by omega) (by omega) hF fun z u hz hu=>?_
 have ul:u.length≤F.length:=zAC hq (ma_el hA) hu;have z1:=hz.one;have z2:=hz.cells;simp only [pwA,seval,-iQ0,g0,m0,m2,z1,z2];refine zFT hz hF (by omega) (fun x hx=>by have:=(hu.base.els _ hx).1;omega) fun t ht2=>?_
 simp only [pwA,seval,-iQ0,g0,m0,m2];refine Gh.fin0 hkp trivial (hk t ⟨fun h=>⟨hm,?_⟩,fun h=>ht2.2 ?_⟩)
 ·rw [Int.toNat_natCast]
  have:=ht2.1 h
  subst this;exact hu
 ·have:=h.2
  rw [Int.toNat_natCast]at this
  exact hu.unique (W0_ok hq.ok _) this
end Go.Proofs
namespace Go.Grp
end Go.Grp
namespace Go.Proofs
open Go.Ab Go.Lie Go.Grp Go.Mx
variable {σ h:PHeap} {K:PV→PHeap→Prop} {p p' c c':Int} {n m s:Nat} {x y v w b:List Int} {A B F F' u:List (List Int)} {vA vB vF vF' vU v0 vx vb:PV} {rows:List SR}
theorem isSp.can {n:Nat} (h:isSp p n F):Canon p n (W0 n) F F:=by have:=h.2;rwa [Int.toNat_natCast]at this
def Img (p c:Int) (F:List (List Int)) (p' c':Int) (F':List (List Int)) (r:(Int×Int×List (List Int))×Int):Prop:=
 (¬(isSp p c F∧isMx p' c' F')∧r=((0,0,[]),1))∨(isSp p c F∧isMx p' c' F'∧¬(p=p'∧(F'.length:Int)=c)∧r=((0,0,[]),2))∨
 (isSp p c F∧isMx p' c' F'∧(p=p'∧(F'.length:Int)=c)∧∃U,Canon p c'.toNat (W0 c'.toNat) (mm p c'.toNat F F') U∧r=((p,c',U),0))
theorem Img.unique {r r':(Int×Int×List (List Int))×Int} (a:Img p c F p' c' F' r) (a':Img p c F p' c' F' r'):r=r':=by
 rcases a with ⟨a1,rfl⟩|⟨a1,a2,a3,rfl⟩|⟨a1,a2,a3,U,a4,rfl⟩
 ·rcases a' with ⟨b1,rfl⟩ | ⟨b1,b2,b3,rfl⟩ | ⟨b1,b2,b3,U',b4,rfl⟩
  ·rfl
  ·exact absurd ⟨b1,b2⟩ a1
  ·exact absurd ⟨b1,b2⟩ a1
 ·rcases a' with ⟨b1,rfl⟩ | ⟨b1,b2,b3,rfl⟩ | ⟨b1,b2,b3,U',b4,rfl⟩
  ·exact absurd ⟨a1,a2⟩ b1
  ·rfl
  ·exact absurd b3 a3
 ·rcases a' with ⟨b1,rfl⟩ | ⟨b1,b2,b3,rfl⟩ | ⟨b1,b2,b3,U',b4,rfl⟩
  ·exact absurd ⟨a1,a2⟩ b1
  ·exact absurd a3 b3
  ·have hq:pr7 p:=a1.1.1
   obtain rfl:U=U':=a4.unique (W0_ok hq.ok _) b4
   rfl
theorem zCv (hF:FII vF F) (sz:SzL F) (hF':FII vF' F') (sz':SzL F') (hk:∀r,Img p c F p' c' F' r→RetM K σ r):zC Try.prog 18 [.agg [.int .i64 p,.int .i64 c,vF],.agg [.int .i64 p',.int .i64 c',vF']] σ K:=by
 have h1:=hF.one;have h2:=hF'.one;refine zC.gh ?_;generalize hH:((σ.new [.int .i64 p,.int .i64 c,vF]).new [.int .i64 p',.int .i64 c',vF']).new [.int .i64 0,.int .i64 0,.fz true .nils 0 []]=H;have hkp:Keep σ H:=by rw [←hH];exact((zF σ _).new _).new _
 have g0:H.rd σ.next 0 3=some [.int .i64 p,.int .i64 c,vF]:=by rw [←hH];simp only [pwA,seval,-iQ0]
 have g1:H.rd (σ.next+1) 0 3=some [.int .i64 p',.int .i64 c',vF']:=by rw [←hH];simp only [pwA,seval,-iQ0]
 have m0:H.rd1 σ.next 0=some (.int .i64 p):=by rw [←hH];simp only [pwA,seval,-iQ0]
 have m1:H.rd1 σ.next 1=some (.int .i64 c):=by rw [←hH];simp only [pwA,seval,-iQ0]
 have m2:H.rd1 (σ.next+1) 0=some (.int .i64 p'):=by rw [←hH];simp only [pwA,seval,-iQ0]
 have m3:H.rd1 (σ.next+1) 2=some vF':=by rw [←hH];simp only [pwA,seval,-iQ0]
 have hor:H.obj (σ.next+2)=some [.int .i64 0,.int .i64 0,.fz true .nils 0 []]:=by rw [←hH];simp only [pwA,seval,-iQ0]
 obtain⟨w0,r0⟩:=res3 (a:=0) (b:=0) hor (v:=.fz true .nils 0 []) rfl;have no:∀e,Img p c F p' c' F' ((0,0,[]),e)→Gh σ K (.tup [.agg [.int .i64 0,.int .i64 0,.fz true .nils 0 []],.int .i64 e]) (H.set (σ.next+2) [.int .i64 0,.int .i64 0,.fz true .nils 0 []]):=fun e he=>(hk _ he).fin (hkp.set (by omega) _) nilM rfl
 refine zD mix Try.func18 ?_
 conv=>arg 2;cbv
 refine zG rfl ?_;simp only [pwA,seval,-iQ0,h1,h2];rw [hH];simp only [pwA,seval,-iQ0,g0];refine qh sz hF fun t ht=>?_
 cases t with
 | false=>
  simp only [pwA,seval,-iQ0,w0,r0];exact no _ (.inl ⟨fun h=>(by cases ht.2 h.1),rfl⟩)
 | true=>
 have hs:=ht.1 rfl;have hm:=hs.1;simp only [pwA,seval,-iQ0,g1];refine Zy sz' hF' fun t' ht'=>?_
 cases t' with
 | false=>
  simp only [pwA,seval,-iQ0,w0,r0];exact no _ (.inl ⟨fun h=>(by cases ht'.2 h.2),rfl⟩)
 | true=>
 have hm':=ht'.1 rfl;have hlen:pLen vF'=some (.int .i64 F'.length):=by obtain⟨w,a,r,rfl,_⟩:=hF';rfl
 by_cases hpp:p=p'
 rotate_left
 ·simp only [pwA,seval,-iQ0,m0,m2,hpp,w0,r0]
  exact no _ (.inr (.inl ⟨hs,hm',fun h=>hpp h.1,rfl⟩))
 subst hpp
 by_cases hc:(F'.length:Int)=c
 rotate_left
 ·simp only [pwA,seval,-iQ0,m0,m1,m2,m3,hlen,hc,w0,r0]
  exact no _ (.inr (.inl ⟨hs,hm',fun h=>hc h.2,rfl⟩))
 obtain⟨n,rfl,hn,hp,hl,hA⟩:=mx_n hm;obtain⟨n',rfl,hn',_,hl',hB⟩:=mx_n hm';have hnn:n=F'.length:=by omega
 subst hnn;have hmm:=mm_ma (by have:=hp.bd;omega) hA hB
 simp only [pwA,seval,-iQ0,m0,m1,m2,m3,hlen,g0,g1];refine zGC hp.bd hA hB hn' hl' hl hF hF' rfl fun v hv=>?_
 simp only [pwA,seval,-iQ0];refine zCQ hp (ma_el hmm) (by omega) (by rw [zn];omega) hv fun z U hz hU=>?_
 obtain⟨w1,r1⟩:=res3 (a:=p) (b:=(n':Int)) hor hz.one;simp only [pwA,seval,-iQ0,w1,r1,hz.one,hz.cells];exact(hk _ (.inr (.inr ⟨hs,hm',⟨rfl,rfl⟩,U,by rw [Int.toNat_natCast];exact hU,rfl⟩))).fin (hkp.set (by omega) _) hz rfl
theorem zCu (hF:FII vF F) (sz:SzL F) (hF':FII vF' F') (sz':SzL F') (hk:∀r,Img p c F p' c' F' r→RetM K σ r):zC Try.prog 16 [.agg [.int .i64 p,.int .i64 c,vF],.agg [.int .i64 p',.int .i64 c',vF']] σ K:=by
 have h1:=hF.one;have h2:=hF'.one;refine zC.gh ?_;generalize hH:((σ.new [.int .i64 p,.int .i64 c,vF]).new [.int .i64 p',.int .i64 c',vF']).new [.int .i64 0,.int .i64 0,.fz true .nils 0 []]=H;have hkp:Keep σ H:=by rw [←hH];exact((zF σ _).new _).new _
 have g0:H.rd σ.next 0 3=some [.int .i64 p,.int .i64 c,vF]:=by rw [←hH];simp only [pwA,seval,-iQ0]
 have g1:H.rd (σ.next+1) 0 3=some [.int .i64 p',.int .i64 c',vF']:=by rw [←hH];simp only [pwA,seval,-iQ0]
 have m0:H.rd1 σ.next 0=some (.int .i64 p):=by rw [←hH];simp only [pwA,seval,-iQ0]
 have m1:H.rd1 σ.next 1=some (.int .i64 c):=by rw [←hH];simp only [pwA,seval,-iQ0]
 have m9:H.rd1 σ.next 2=some vF:=by rw [←hH];simp only [pwA,seval,-iQ0]
 have m2:H.rd1 (σ.next+1) 0=some (.int .i64 p'):=by rw [←hH];simp only [pwA,seval,-iQ0]
 have m4:H.rd1 (σ.next+1) 1=some (.int .i64 c'):=by rw [←hH];simp only [pwA,seval,-iQ0]
 have m3:H.rd1 (σ.next+1) 2=some vF':=by rw [←hH];simp only [pwA,seval,-iQ0]
 have hor:H.obj (σ.next+2)=some [.int .i64 0,.int .i64 0,.fz true .nils 0 []]:=by rw [←hH];simp only [pwA,seval,-iQ0]
 obtain⟨w0,r0⟩:=res3 (a:=0) (b:=0) hor (v:=.fz true .nils 0 []) rfl;have no:∀e,Img p c F p' c' F' ((0,0,[]),e)→Gh σ K (.tup [.agg [.int .i64 0,.int .i64 0,.fz true .nils 0 []],.int .i64 e]) (H.set (σ.next+2) [.int .i64 0,.int .i64 0,.fz true .nils 0 []]):=fun e he=>(hk _ he).fin (hkp.set (by omega) _) nilM rfl
 refine zD mix Try.func16 ?_
 conv=>arg 2;cbv
 refine zG rfl ?_;simp only [pwA,seval,-iQ0,h1,h2];rw [hH];simp only [pwA,seval,-iQ0,g0];refine zAN sz hF fun t ht=>?_
 cases t with
 | false=>
  simp only [pwA,seval,-iQ0,w0,r0];exact no _ (.inl ⟨fun h=>(by cases ht.2 h.1),rfl⟩)
 | true=>
 have hs:=ht.1 rfl;have hm:=hs.1;simp only [pwA,seval,-iQ0,g1];refine zAy sz' hF' fun t' ht'=>?_
 cases t' with
 | false=>
  simp only [pwA,seval,-iQ0,w0,r0];exact no _ (.inl ⟨fun h=>(by cases ht'.2 h.2),rfl⟩)
 | true=>
 have hm':=ht'.1 rfl;have hlen:pLen vF'=some (.int .i64 F'.length):=by obtain⟨w,a,r,rfl,_⟩:=hF';rfl
 by_cases hpp:p=p'
 rotate_left
 ·simp only [pwA,seval,-iQ0,m0,m2,hpp,w0,r0]
  exact no _ (.inr (.inl ⟨hs,hm',fun h=>hpp h.1,rfl⟩))
 subst hpp
 by_cases hc:(F'.length:Int)=c
 rotate_left
 ·simp only [pwA,seval,-iQ0,m0,m1,m2,m3,hlen,hc,w0,r0]
  exact no _ (.inr (.inl ⟨hs,hm',fun h=>hc h.2,rfl⟩))
 obtain⟨n,rfl,hn,hp,hl,hA⟩:=mx_n hm;obtain⟨n',rfl,hn',_,hl',hB⟩:=mx_n hm';have hnn:n=F'.length:=by omega
 subst hnn;have hq:pr7 p:=hp;have hmm:=mm_ma (by have:=hp.bd;omega) hA hB
 simp only [pwA,seval,-iQ0,m0,m1,m2,m3,m4,m9,hlen,g0,g1];refine zDe hp.bd hA hB hn' hl' hl hF hF' fun v hv=>?_
 simp only [pwA,seval,-iQ0,m0,m1,m2,m3,m4,m9];refine zAx hp (ma_el hmm) (by rw [zn];omega) (by omega) hv fun z U hz hU=>?_
 have hUl:=zAC hq (ma_el hmm) hU;rw [zn]at hUl
 simp only [pwA,seval,-iQ0,m0,m1,m2,m3,m4,m9];refine zGY hz ⟨by omega,fun r hr=>by have:=(hU.base.els _ hr).1;omega⟩ fun z hz=>?_
 obtain⟨w1,r1⟩:=res3 (a:=p) (b:=(n':Int)) hor hz.one;simp only [pwA,seval,-iQ0,w1,r1,hz.one,hz.cells];exact(hk _ (.inr (.inr ⟨hs,hm',⟨rfl,rfl⟩,U,by rw [Int.toNat_natCast];exact hU,rfl⟩))).fin (hkp.set (by omega) _) hz rfl
theorem zB8 {xs ys:List PV} (a:All2 FI xs A) (b:All2 FI ys B):All2 FI (xs++ys) (A++B):=by
 refine⟨by rw [List.length_append,List.length_append,a.1,b.1],fun j x y hx hy=>?_⟩
 rw [List.getElem?_append]at hx hy
 rw [a.1]at hx
 split at hx
 ·rename_i h
  rw [if_pos h]at hy
  exact a.2 j x y hx hy
 ·rename_i h
  rw [if_neg h]at hy
  exact b.2 _ x y hx hy
theorem zBd {ca cb:PV} (hca:ca.one=true) (hcb:cb.one=true) (hp:isP p) (hA:∀r∈A,El p n r) (hB:∀r∈B,El p n r) (hn:n≤16) (hal:A.length≤16) (hbl:B.length≤16) (hvA:FII vA A) (hvB:FII vB B) (hk:∀z u,FII z u→Canon p n (W0 n) (A++B) u→K (.agg [.int .i64 p,.int .i64 n,z]) σ):
  zC Try.prog 73 [.agg [.int .i64 p,.int .i64 n,vA],.agg [ca,cb,vB]] σ K:=by
 have h1:=hvA.one;have h2:=hvB.one;have hB0:=hvB;obtain⟨wB,aB,rB,rfl,hrB⟩:=hvB;refine zC.gh ?_;generalize hH:((σ.new [.int .i64 p,.int .i64 n,vA]).new [ca,cb,.fz wB aB B.length rB]).new [.int .i64 0,.int .i64 0,.fz true .nils 0 []]=H;have hHn:H.next=σ.next+3:=by rw [←hH];rfl
 have hkp:Keep σ H:=by rw [←hH];exact((zF σ _).new _).new _
 have oA:H.obj σ.next=some [.int .i64 p,.int .i64 n,vA]:=by rw [←hH];simp only [pwA,seval,-iQ0]
 have oB:H.obj (σ.next+1)=some [ca,cb,.fz wB aB B.length rB]:=by rw [←hH];simp only [pwA,seval,-iQ0]
 have hor:H.obj (σ.next+2)=some [.int .i64 0,.int .i64 0,.fz true .nils 0 []]:=by rw [←hH];simp only [pwA,seval,-iQ0]
 have st:∀{g:PHeap},Keep H g→g.rd1 σ.next 0=some (.int .i64 p)∧g.rd1 σ.next 1=some (.int .i64 n)∧g.rd1 σ.next 2=some vA∧g.rd1 (σ.next+1) 2=some (.fz wB aB B.length rB):=fun {g} k=>by
  refine⟨?_,?_,?_,?_⟩
  ·rw [zH (by rw [k.obj _ (by omega)];exact oA)];rfl
  ·rw [zH (by rw [k.obj _ (by omega)];exact oA)];rfl
  ·rw [zH (by rw [k.obj _ (by omega)];exact oA)];rfl
  ·rw [zH (by rw [k.obj _ (by omega)];exact oB)];rfl
 obtain⟨s0,s1,s2,s3⟩:=st (Keep.refl H);refine zD mix Try.func73 ?_
 conv=>arg 2;cbv
 refine zG rfl ?_;simp only [pwA,seval,-iQ0,h1,h2,hca,hcb];rw [hH];simp only [pwA,seval,-iQ0,s0,s1,s2,s3];refine Zu (fun r hr=>by have:=(hA r hr).1;omega) (by omega) hvA fun v1 g1 ra k1 c1 a1=>?_
 obtain⟨t0,t1,t2,t3⟩:=st k1;simp only [pwA,seval,-iQ0,t0,t1,t2,t3];refine PAcc.cat k1 c1 (hrB.1) (by omega) (by omega) fun v2 g2 k2 c2=>?_
 obtain⟨t0,t1,t2,t3⟩:=st k2;have hall:=zB8 a1 hrB;have hel:∀r∈A++B,El p n r:=fun r hr=>by
  rcases List.mem_append.1 hr with h|h
  ·exact hA r h
  ·exact hB r h
 have hll:(A++B).length≤64:=by rw [List.length_append];omega
 have fin:∀{g:PHeap} {v:PV},Keep H g→FII v (A++B)→zC Try.prog 69 [.int .i64 p,.int .i64 n,v] g fun v g'=>∃z u,v=.agg [.int .i64 p,.int .i64 n,z]∧FII z u∧Canon p n (W0 n) (A++B) u∧g'=g:=fun {g v} k hv=>Qi hp hel (by omega) hll hv fun z u hz hu=>⟨z,u,rfl,hz,hu,rfl⟩
 simp only [pwA,seval,-iQ0,t0,t1,t2,t3];rcases c2 with ⟨rfl,e1,e2⟩|⟨s,cap,rfl,hf,q2,q3,q4,q5⟩
 ·have hAB:A++B=[]:=List.eq_nil_of_length_eq_zero (by rw [List.length_append];omega)
  refine(fin k2 (v:=.fz true .nils 0 []) (by rw [hAB];exact nilM)).mono ?_
  rintro v g' ⟨z,u,rfl,hz,hu,rfl⟩
  have hor2:g'.obj (σ.next+2)=some [.int .i64 0,.int .i64 0,.fz true .nils 0 []]:=by rw [k2.obj _ (by omega)];exact hor
  obtain⟨w1,r1⟩:=res3 (a:=p) (b:=(n:Int)) hor2 hz.one;simp only [pwA,seval,-iQ0,t0,t1,t2,t3,w1,r1,hz.one,hz.cells];exact Gh.fin0 ((hkp.trans k2).set (by omega) _) ⟨trivial,trivial,hz.bel _,trivial⟩ (hk z u hz hu)
 ·refine zC.frz q2 (hall.bI 0) fun o1=>?_
  simp only [sbs,sb,hf.ok,and_self,if_true,nm_eq];have k3:Keep H (g2.kill s):=k2.kill q4;obtain⟨t0,t1,t2,t3⟩:=st k3;refine(fin k3 (v:=.fz true (.sl o1 0 (A.length+B.length) cap) (A.length+B.length) (ra++rB)) ⟨true,.sl o1 0 (A.length+B.length) cap,ra++rB,by rw [List.length_append],hall⟩).mono ?_
  rintro v g' ⟨z,u,rfl,hz,hu,rfl⟩
  have hor2:(g2.kill s).obj (σ.next+2)=some [.int .i64 0,.int .i64 0,.fz true .nils 0 []]:=by rw [k3.obj _ (by omega)];exact hor
  obtain⟨w1,r1⟩:=res3 (a:=p) (b:=(n:Int)) hor2 hz.one;simp only [pwA,seval,-iQ0,t0,t1,t2,t3,w1,r1,hz.one,hz.cells];exact Gh.fin0 ((hkp.trans k3).set (by omega) _) ⟨trivial,trivial,hz.bel _,trivial⟩ (hk z u hz hu)
theorem Z9 (hp:isP p) (hA:∀r∈A,El p n r) (hn:n≤16) (hal:A.length≤16) (hvA:FII vA A) (hk:∀z a,FII z a→AnnL p n A a→K (.agg [.int .i64 p,.int .i64 n,z]) σ):zC Try.prog 74 [.agg [.int .i64 p,.int .i64 n,vA]] σ K:=by
 have hq:pr7 p:=hp;have hp0:0<p:=by have:=hp.bd;omega
 have hMA:Ma p n A:=el_ma hp0 hA;have h1:=hvA.one;have hlen:pLen vA=some (.int .i64 A.length):=by obtain⟨w,a,r,rfl,_⟩:=hvA;rfl
 have hT:=QC hp0 hMA;refine zC.gh ?_;generalize hH:(σ.new [.int .i64 p,.int .i64 n,vA]).new [.int .i64 0,.int .i64 0,.fz true .nils 0 []]=H;have hHn:H.next=σ.next+2:=by rw [←hH];rfl
 have hkp:Keep σ H:=by rw [←hH];exact(zF σ _).new _
 have oA:H.obj σ.next=some [.int .i64 p,.int .i64 n,vA]:=by rw [←hH];simp only [pwA,seval,-iQ0]
 have g0:H.rd σ.next 0 3=some [.int .i64 p,.int .i64 n,vA]:=by rw [qE oA];rfl
 have m0:H.rd1 σ.next 0=some (.int .i64 p):=by rw [zH oA];rfl
 have m1:H.rd1 σ.next 1=some (.int .i64 n):=by rw [zH oA];rfl
 have m2:H.rd1 σ.next 2=some vA:=by rw [zH oA];rfl
 have hor:H.obj (σ.next+1)=some [.int .i64 0,.int .i64 0,.fz true .nils 0 []]:=by rw [←hH];simp only [pwA,seval,-iQ0]
 refine zD mix Try.func74 ?_
 conv=>arg 2;cbv
 refine zG rfl ?_;simp only [pwA,seval,-iQ0,h1];rw [hH];simp only [pwA,seval,-iQ0,g0];refine zDU (fun r hr=>(hA r hr).1) (by omega) (by omega) hvA fun v hv=>?_
 have v1:=hv.one;have v2:=hv.cells;have hne:¬σ.next=H.next:=by omega
 have hne1:¬σ.next+1=H.next:=by omega
 simp only [pwA,seval,-iQ0,v1,v2,hne,m0,m1,m2,hlen];refine ZY hp (by have:=hT;exact this) (by omega) (by rw [zX];omega) hv fun z w hz hw=>?_
 rw [zX]at hw
 have hor2:(H.new [.int .i64 p,.int .i64 A.length,v]).obj (σ.next+1)=some [.int .i64 0,.int .i64 0,.fz true .nils 0 []]:=by rw [zL,if_neg hne1];exact hor
 obtain⟨w1,r1⟩:=res3 (a:=p) (b:=(n:Int)) hor2 hz.one;simp only [pwA,seval,-iQ0,v1,v2,hne,hne1,m0,m1,m2,hlen,w1,r1,hz.one,hz.cells];exact Gh.fin0 ((hkp.set (by omega) _).new _) ⟨trivial,trivial,hz.bel _,trivial⟩ (hk z _ hz (zEo hq hMA hw))
end Go.Proofs
namespace Go.Grp
end Go.Grp
namespace Go.Proofs
open Go.Ab Go.Lie Go.Grp Go.Mx
variable {σ h H g:PHeap} {K:PV→PHeap→Prop} {p p' c c':Int} {n m s:Nat} {x y v w b:List Int} {A B F F' u U M:List (List Int)} {vA vB vF vF' vU v0 vx vb:PV} {rows:List PV}
theorem isMx.sz' {A:List (List Int)} (h:isMx p c A):SzL A:=by
 obtain⟨n,rfl,hn,hp,hl,hA⟩:=mx_n h;exact⟨by omega,fun r hr=>by rw [(hA r hr).len];omega⟩
theorem zBw (hq:pr7 p) {L s:List (List Int)} (hs:Canon p n (W0 n) L s):s.length≤n:=by
 rcases Nat.eq_zero_or_pos s.length with h|h
 ·omega
 ·have h1:=zJ7 hs.base.asc (i:=s.length-1) (by omega)
  have h2:=(hs.base.led _ (List.getElem_mem (show s.length-1<s.length by omega))).2.1
  rw [zQ (by omega)]at h1
  omega
theorem give3 {f:FuncId} {a d:Int} (ac:PAcc H.next 1 g v0 M.length rows) (hall:All2 FI rows M) (hk:Keep H g) (call:∀g' v',Keep H g'→FII v' M→zC Try.prog f [.int .i64 a,.int .i64 d,v'] g' K):zC Try.prog f [.int .i64 a,.int .i64 d,v0] g K:=by
 rcases ac with ⟨rfl,e1,e2⟩|⟨s,cap,rfl,hf,q2,q3,q4,q5⟩
 ·have hM:M=[]:=List.eq_nil_of_length_eq_zero e1
  exact call _ _ hk (by rw [hM];exact nilM)
 ·refine zC.frz q2 (hall.bI 0) fun o1=>?_
  simp only [sbs,sb,hf.ok,and_self,if_true,nm_eq];exact call _ _ (hk.kill q4) ⟨true,.sl o1 0 M.length cap,rows,rfl,hall⟩
theorem give2 {f:FuncId} {a d:Int} (ac:PAcc H.next 1 g v0 M.length rows) (hall:All2 FI rows M) (hk:Keep H g) (call:∀g' v',Keep H g'→FII v' M→zC Try.prog f [.int .i64 a,v',.int .i64 d] g' K):zC Try.prog f [.int .i64 a,v0,.int .i64 d] g K:=by
 rcases ac with ⟨rfl,e1,e2⟩|⟨s,cap,rfl,hf,q2,q3,q4,q5⟩
 ·have hM:M=[]:=List.eq_nil_of_length_eq_zero e1
  exact call _ _ hk (by rw [hM];exact nilM)
 ·refine zC.frz q2 (hall.bI 0) fun o1=>?_
  simp only [sbs,sb,hf.ok,and_self,if_true,nm_eq];exact call _ _ (hk.kill q4) ⟨true,.sl o1 0 M.length cap,rows,rfl,hall⟩
theorem zDk (hA:isSp p n A) (hB:isSp p n B) (hvA:FII vA A) (hvB:FII vB B) (hk:∀z u,FII z u→Canon p n (W0 n) (A++B) u→K (.tup [.agg [.int .i64 p,.int .i64 n,z],.int .i64 0]) σ):zC Try.prog 30 [.agg [.int .i64 p,.int .i64 n,vA],.agg [.int .i64 p,.int .i64 n,vB]] σ K:=by
 have h1:=hvA.one;have h2:=hvB.one;have szA:=hA.1.sz';have szB:=hB.1.sz';have cA:=hA.can;have cB:=hB.can;have hp:isP p:=hA.1.1;have hn:n≤8:=by have:=hA.1.2.1;omega
 have hal:=hA.1.2.2.1;have hbl:=hB.1.2.2.1;refine zC.gh ?_;generalize hH:((σ.new [.int .i64 p,.int .i64 n,vA]).new [.int .i64 p,.int .i64 n,vB]).new [.int .i64 0,.int .i64 0,.fz true .nils 0 []]=H;have hkp:Keep σ H:=by rw [←hH];exact((zF σ _).new _).new _
 have g0:H.rd σ.next 0 3=some [.int .i64 p,.int .i64 n,vA]:=by rw [←hH];simp only [pwA,seval,-iQ0]
 have g1:H.rd (σ.next+1) 0 3=some [.int .i64 p,.int .i64 n,vB]:=by rw [←hH];simp only [pwA,seval,-iQ0]
 have m0:H.rd1 σ.next 0=some (.int .i64 p):=by rw [←hH];simp only [pwA,seval,-iQ0]
 have m1:H.rd1 σ.next 1=some (.int .i64 n):=by rw [←hH];simp only [pwA,seval,-iQ0]
 have m2:H.rd1 (σ.next+1) 0=some (.int .i64 p):=by rw [←hH];simp only [pwA,seval,-iQ0]
 have m3:H.rd1 (σ.next+1) 1=some (.int .i64 n):=by rw [←hH];simp only [pwA,seval,-iQ0]
 have hor:H.obj (σ.next+2)=some [.int .i64 0,.int .i64 0,.fz true .nils 0 []]:=by rw [←hH];simp only [pwA,seval,-iQ0]
 refine zD mix Try.func30 ?_
 conv=>arg 2;cbv
 refine zG rfl ?_;simp only [pwA,seval,-iQ0,h1,h2];rw [hH];simp only [pwA,seval,-iQ0,g0];refine qh szA hvA fun t ht=>?_
 obtain rfl:t=true:=ht.2 hA;simp only [pwA,seval,-iQ0,g1];refine qh szB hvB fun t ht=>?_
 obtain rfl:t=true:=ht.2 hB;simp only [pwA,seval,-iQ0,g0,g1,m0,m1,m2,m3];refine zBd rfl rfl hp cA.base.els cB.base.els (by omega) (by omega) (by omega) hvA hvB fun z u hz hu=>?_
 obtain⟨w1,r1⟩:=res3 (a:=p) (b:=(n:Int)) hor hz.one;simp only [pwA,seval,-iQ0,w1,r1,hz.one,hz.cells];exact Gh.fin0 (hkp.set (by omega) _) ⟨⟨trivial,trivial,hz.bel _,trivial⟩,trivial,trivial⟩ (hk z u hz hu)
theorem Q7 (hA:isSp p n A) (hB:isSp p n B) (hvA:FII vA A) (hvB:FII vB B) (hk:∀z M,FII z M→Canon p n (W0 n) M M→(∀x,El p n x→(Gen p n (W0 n) M (at_ x)↔Gen p n (W0 n) A (at_ x)∧Gen p n (W0 n) B (at_ x)))→K (.tup [.agg [.int .i64 p,.int .i64 n,z],.int .i64 0]) σ):zC Try.prog 31 [.agg [.int .i64 p,.int .i64 n,vA],.agg [.int .i64 p,.int .i64 n,vB]] σ K:=by
 have h1:=hvA.one;have h2:=hvB.one;have szA:=hA.1.sz';have szB:=hB.1.sz';have cA:=hA.can;have cB:=hB.can;have hp:isP p:=hA.1.1;have hq:pr7 p:=hp;have hn:n≤8:=by have:=hA.1.2.1;omega
 have hal:=hA.1.2.2.1;have hbl:=hB.1.2.2.1;refine zC.gh ?_;generalize hH:((σ.new [.int .i64 p,.int .i64 n,vA]).new [.int .i64 p,.int .i64 n,vB]).new [.int .i64 0,.int .i64 0,.fz true .nils 0 []]=H;have hkp:Keep σ H:=by rw [←hH];exact((zF σ _).new _).new _
 have g0:H.rd σ.next 0 3=some [.int .i64 p,.int .i64 n,vA]:=by rw [←hH];simp only [pwA,seval,-iQ0]
 have g1:H.rd (σ.next+1) 0 3=some [.int .i64 p,.int .i64 n,vB]:=by rw [←hH];simp only [pwA,seval,-iQ0]
 have m0:H.rd1 σ.next 0=some (.int .i64 p):=by rw [←hH];simp only [pwA,seval,-iQ0]
 have m1:H.rd1 σ.next 1=some (.int .i64 n):=by rw [←hH];simp only [pwA,seval,-iQ0]
 have m2:H.rd1 (σ.next+1) 0=some (.int .i64 p):=by rw [←hH];simp only [pwA,seval,-iQ0]
 have m3:H.rd1 (σ.next+1) 1=some (.int .i64 n):=by rw [←hH];simp only [pwA,seval,-iQ0]
 have hor:H.obj (σ.next+2)=some [.int .i64 0,.int .i64 0,.fz true .nils 0 []]:=by rw [←hH];simp only [pwA,seval,-iQ0]
 refine zD mix Try.func31 ?_
 conv=>arg 2;cbv
 refine zG rfl ?_;simp only [pwA,seval,-iQ0,h1,h2];rw [hH];simp only [pwA,seval,-iQ0,g0];refine qh szA hvA fun t ht=>?_
 obtain rfl:t=true:=ht.2 hA;simp only [pwA,seval,-iQ0,g1];refine qh szB hvB fun t ht=>?_
 obtain rfl:t=true:=ht.2 hB;simp only [pwA,seval,-iQ0,g0,g1,m0,m1,m2,m3];refine Z9 hp cA.base.els (by omega) (by omega) hvA fun za a hza ha=>?_
 simp only [pwA,seval,-iQ0,g0,g1,m0,m1,m2,m3];refine Z9 hp cB.base.els (by omega) (by omega) hvB fun zb b hzb hb=>?_
 have hla:a.length≤n:=by have:=zBV hq cA ha;omega
 have hlb:b.length≤n:=by have:=zBV hq cB hb;omega
 simp only [pwA,seval,-iQ0,g0,g1,m0,m1,m2,m3];refine zBd rfl rfl hp ha.can.base.els hb.can.base.els (by omega) (by omega) (by omega) hza hzb fun zs s hzs hs=>?_
 have hls:s.length≤n:=zBw hq hs;simp only [pwA,seval,-iQ0,g0,g1,m0,m1,m2,m3];refine Z9 hp hs.base.els (by omega) (by omega) hzs fun z M hz hM=>?_
 obtain⟨c1,c2⟩:=zJK hq cA cB ha hb hs hM;obtain⟨w1,r1⟩:=res3 (a:=p) (b:=(n:Int)) hor hz.one;simp only [pwA,seval,-iQ0,g0,g1,m0,m1,m2,m3,w1,r1,hz.one,hz.cells];exact Gh.fin0 (hkp.set (by omega) _) ⟨⟨trivial,trivial,hz.bel _,trivial⟩,trivial,trivial⟩ (hk z M hz c1 c2)
end Go.Proofs
namespace Go.Grp
end Go.Grp
namespace Go.Proofs
open Go.Ab Go.Lie Go.Grp Go.Mx
variable {σ h H g:PHeap} {K:PV→PHeap→Prop} {p p' c c':Int} {n m s:Nat} {x y v w b:List Int} {A B F F' u U M:List (List Int)} {vA vB vF vF' vU v0 vx vb:PV} {rows:List PV}
theorem zBE (hU:isSp p n U) (hA:isMx p n A) (hvU:FII vU U) (hvA:FII vA A) (hk:∀z w u,FII z u→Canon p (n+(A++U).length) (W0 (n+(A++U).length)) (wd (A++U)) w→Canon p A.length (W0 A.length) ((nul n w).map (List.take A.length)) u→K (.tup [.agg [.int .i64 p,.int .i64 A.length,z],.int .i64 0]) σ):zC Try.prog 28 [.agg [.int .i64 p,.int .i64 n,vU],.agg [.int .i64 p,.int .i64 n,vA]] σ K:=by
 have h1:=hvU.one;have h2:=hvA.one;have szU:=hU.1.sz';have szA:=hA.sz';have cU:=hU.can;have hp:isP p:=hU.1.1;have hq:pr7 p:=hp;have hp0:0<p:=by have:=hp.bd;omega
 have hn:n≤8:=by have:=hU.1.2.1;omega
 have hul:=hU.1.2.2.1;have hal:=hA.2.2.1;have hMA:Ma p n A:=by have:=hA.2.2.2;rwa [Int.toNat_natCast]at this
 have hMU:Ma p n U:=el_ma hp0 cU.base.els;have hM:Ma p n (A++U):=zCe hMA hMU;have hAUl:(A++U).length=A.length+U.length:=List.length_append;have lA:pLen vA=some (.int .i64 A.length):=by obtain⟨w,a,r,rfl,_⟩:=hvA;rfl
 have hvU0:=hvU;obtain⟨wU,aU,rU,rfl,hrU⟩:=hvU;refine zC.gh ?_;generalize hH:((σ.new [.int .i64 p,.int .i64 n,.fz wU aU U.length rU]).new [.int .i64 p,.int .i64 n,vA]).new [.int .i64 0,.int .i64 0,.fz true .nils 0 []]=H;have hHn:H.next=σ.next+3:=by rw [←hH];rfl
 have hkp:Keep σ H:=by rw [←hH];exact((zF σ _).new _).new _
 have oU:H.obj σ.next=some [.int .i64 p,.int .i64 n,.fz wU aU U.length rU]:=by rw [←hH];simp only [pwA,seval,-iQ0]
 have oA:H.obj (σ.next+1)=some [.int .i64 p,.int .i64 n,vA]:=by rw [←hH];simp only [pwA,seval,-iQ0]
 have oR:H.obj (σ.next+2)=some [.int .i64 0,.int .i64 0,.fz true .nils 0 []]:=by rw [←hH];simp only [pwA,seval,-iQ0]
 have st:∀{g:PHeap},Keep H g→g.rd σ.next 0 3=some [.int .i64 p,.int .i64 n,.fz wU aU U.length rU]∧g.rd (σ.next+1) 0 3=some [.int .i64 p,.int .i64 n,vA]∧g.rd1 σ.next 0=some (.int .i64 p)∧g.rd1 σ.next 1=some (.int .i64 n)∧g.rd1 σ.next 2=some (.fz wU aU U.length rU)∧g.rd1 (σ.next+1) 0=some (.int .i64 p)∧g.rd1 (σ.next+1) 1=some (.int .i64 n)∧g.rd1 (σ.next+1) 2=some vA∧g.obj (σ.next+2)=some [.int .i64 0,.int .i64 0,.fz true .nils 0 []]:=fun {g} k=>by
  have q1:g.obj σ.next=some [.int .i64 p,.int .i64 n,.fz wU aU U.length rU]:=by rw [k.obj _ (by omega)];exact oU
  have q2:g.obj (σ.next+1)=some [.int .i64 p,.int .i64 n,vA]:=by rw [k.obj _ (by omega)];exact oA
  refine⟨by rw [qE q1];rfl,by rw [qE q2];rfl,by rw [zH q1];rfl,by rw [zH q1];rfl,by rw [zH q1];rfl,by rw [zH q2];rfl,by rw [zH q2];rfl,by rw [zH q2];rfl,by rw [k.obj _ (by omega)];exact oR⟩
 obtain⟨a1,a2,a3,a4,a5,a6,a7,a8,a9⟩:=st (Keep.refl H);have hn1:¬σ.next=H.next:=by omega
 have hn2:¬σ.next+1=H.next:=by omega
 refine zD mix Try.func28 ?_
 conv=>arg 2;cbv
 refine zG rfl ?_;simp only [pwA,seval,-iQ0,h1,h2];rw [hH];simp only [pwA,seval,-iQ0,a1];refine qh szU hvU0 fun t ht=>?_
 obtain rfl:t=true:=ht.2 hU;simp only [pwA,seval,-iQ0,a2];refine Zy szA hvA fun t ht=>?_
 obtain rfl:t=true:=ht.2 hA;simp only [pwA,seval,-iQ0,a1,a2,a3,a4,a5,a6,a7,a8,lA,hn1,hn2];refine Zu (fun r hr=>by rw [(hMA r hr).len];omega) (by omega) hvA fun v1 g1 ra k1 c1 b1=>?_
 generalize hH1:H.new [.int .i64 0,.int .i64 0,.fz true .nils 0 []]=H1 at *
 have oC:H1.obj H.next=some [.int .i64 0,.int .i64 0,.fz true .nils 0 []]:=by rw [←hH1,zL,if_pos rfl]
 have hH1n:H1.next=H.next+1:=by rw [←hH1];rfl
 have kH1:Keep H H1:=by rw [←hH1];exact zF _ _
 have hall:=zB8 b1 hrU;have hel:∀r∈A++U,El p n r:=ma_el hM
 obtain⟨a1,a2,a3,a4,a5,a6,a7,a8,a9⟩:=st (kH1.trans k1);simp only [pwA,seval,-iQ0,a1,a2,a3,a4,a5,a6,a7,a8,lA,hn1,hn2];refine PAcc.cat k1 c1 hrU.1 (by omega) (by omega) fun v2 g2 k2 c2=>?_
 obtain⟨a1,a2,a3,a4,a5,a6,a7,a8,a9⟩:=st (kH1.trans k2);simp only [pwA,seval,-iQ0,a1,a2,a3,a4,a5,a6,a7,a8,lA,hn1,hn2];refine give3 (H:=H1) (M:=A++U) (by rw [hAUl];exact c2) hall k2 fun g3 v3 k3 hv3=>?_
 refine Qi hp hel (by omega) (by omega) hv3 fun z0 u0 hz0 hu0=>?_
 have oC3:g3.obj H.next=some [.int .i64 0,.int .i64 0,.fz true .nils 0 []]:=by rw [k3.obj _ (by omega)];exact oC
 obtain⟨w1,r1⟩:=res3 (a:=p) (b:=(n:Int)) oC3 hz0.one;obtain⟨a1,a2,a3,a4,a5,a6,a7,a8,a9⟩:=st (kH1.trans k3);have k4:Keep H (g3.set H.next [.int .i64 p,.int .i64 n,z0]):=(kH1.trans k3).set (Nat.le_refl _) _;have oC4:(g3.set H.next [.int .i64 p,.int .i64 n,z0]).obj H.next=some [.int .i64 p,.int .i64 n,z0]:=by rw [zJ,if_pos rfl]
 have lt4:H.next<(g3.set H.next [.int .i64 p,.int .i64 n,z0]).next:=by have:=k3.next;show H.next<g3.next;omega
 obtain⟨d1,d2,d3,d4,d5,d6,d7,d8,d9⟩:=st k4;have e6:(g3.set H.next [.int .i64 p,.int .i64 n,z0]).rd1 H.next 1=some (.int .i64 n):=by rw [zH oC4];rfl
 simp only [pwA,seval,-iQ0,a1,a2,a3,a4,a5,a6,a7,a8,lA,hn1,hn2,hz0.one,hz0.cells,w1,d1,d2,d3,d4,d5,d6,d7,d8,e6];have hGn:(g3.set H.next [.int .i64 p,.int .i64 n,z0]).next=g3.next:=rfl;generalize g3.set H.next [.int .i64 p,.int .i64 n,z0]=G at *
 have e7:∀{g:PHeap},Keep G g→g.rd1 H.next 1=some (.int .i64 n):=fun {g} k=>by rw [zH (by rw [k.obj _ lt4];exact oC4)];rfl
 refine Zu (fun r hr=>by rw [(hMA r hr).len];omega) (by omega) hvA fun v4 g4 rb k5 c5 b5=>?_
 have hall:=zB8 b5 hrU;obtain⟨a1,a2,a3,a4,a5,a6,a7,a8,a9⟩:=st (k4.trans k5);have f7:=e7 k5;simp only [pwA,seval,-iQ0,a1,a2,a3,a4,a5,a6,a7,a8,lA,hn1,hn2,f7];refine PAcc.cat k5 c5 hrU.1 (by omega) (by omega) fun v5 g5 k6 c6=>?_
 obtain⟨a1,a2,a3,a4,a5,a6,a7,a8,a9⟩:=st (k4.trans k6);have f7:=e7 k6;simp only [pwA,seval,-iQ0,a1,a2,a3,a4,a5,a6,a7,a8,lA,hn1,hn2,f7];refine give2 (H:=G) (M:=A++U) (by rw [hAUl];exact c6) hall k6 fun g6 v6 k7 hv6=>?_
 refine ZY hp hM (by omega) (by omega) hv6 fun zN w hzN hw=>?_
 obtain⟨a1,a2,a3,a4,a5,a6,a7,a8,a9⟩:=st (k4.trans k7);have f7:=e7 k7;obtain⟨cn,_⟩:=zAG hq hM hw;have nl:(nul n w).length≤w.length:=by
  have:=Qh (n:=n) (u:=w)
  omega
 have hwl:=zCE hq hM hw;obtain⟨wN,aN,rN,rfl,hrN⟩:=hzN;have hrow:∀i (h:i<(nul n w).length),(nul n w)[i].length=(A++U).length:=fun i h=>(cn.base.els _ (List.getElem_mem h)).1
 simp only [pwA,seval,-iQ0,a1,a2,a3,a4,a5,a6,a7,a8,lA,hn1,hn2,f7];generalize hNN:nul n w=N at *
 have k8:Keep H g6:=k4.trans k7;refine zR (fun k us h=>∃(i:Nat) (v0:PV) (rows:List PV),i≤N.length∧k=N.length-i∧us=[.ptr σ.next 0,.ptr (σ.next+2) 0,.int .i64 A.length,v0,.fz wN aN N.length rN,.int .i64 N.length,.int .i64 i]∧Keep g6 h∧PAcc g6.next 1 h v0 i rows∧All2 FI rows ((N.map (List.take A.length)).take i)) N.length ⟨0,_,[],by omega,by omega,rfl,Keep.refl g6,PAcc.nil _ _ _,by rw [List.take_zero];exact All2.nil _⟩ ?_
 rintro k us h ⟨i,v0,rows,hi,rfl,rfl,hkN,ha,hrs⟩
 simp only [pwA,seval,-iQ0];refine iteI (fun hlt=>?_) fun hge=>?_
 ·obtain⟨w4,a4,hr⟩:=hrN.rowI hlt
  have hl:=hrow i hlt;have h0n:(0:Int)≤((A.length:Nat):Int):=by omega
  have hnl2:((A.length:Nat):Int)≤(N[i].length:Int):=by omega
  simp only [pwA,seval,-iQ0,hlt,hr,h0n,hnl2,zD8,Nat.sub_zero];refine PAcc.push (bytes:=24) hkN ha (by omega) (by omega) fun v' h2 k2 a2=>?_
  simp only [pwA,seval,-iQ0,wrapS hlt (by omega:N.length≤4611686018427387904)]
  refine⟨_,by omega,i+1,v',rows++[.fz false (pslA 1 a4 0 A.length) A.length (pis (List.take A.length N[i]))],by omega,rfl,rfl,k2,a2.acc,?_⟩
  rw [←List.map_take,List.take_succ_eq_append_getElem hlt,List.map_append,List.map_take];exact hrs.snoc ⟨false,_,by rw [List.length_take,Nat.min_eq_left (by omega)]⟩
 have hie:i=N.length:=by omega
 subst hie;rw [List.take_of_length_le (by simp)]at hrs
 obtain⟨a1,a2,a3,a4,a5,a6,a7,a8,a9⟩:=st (k8.trans hkN);have hme:∀r∈N.map (List.take A.length),El p A.length r:=fun r hr=>by
  obtain⟨z,hz,rfl⟩:=List.mem_map.1 hr
  have:=cn.base.els z hz
  rw [hAUl]at this
  exact zBQ this
 simp only [pwA,seval,-iQ0,a1,a2,a3,a4,a5,a6,a7,a8,lA,hn1,hn2];refine give3 (H:=g6) (M:=N.map (List.take A.length)) (by rw [List.length_map];exact ha) hrs hkN fun g7 v7 k9 hv7=>?_
 refine Qi hp hme (by omega) (by rw [List.length_map];omega) hv7 fun z u hz hu=>?_
 obtain⟨b1,b2,b3,b4,b5,b6,b7,b8,b9⟩:=st (k8.trans k9);obtain⟨w2,r2⟩:=res3 (a:=p) (b:=(A.length:Int)) b9 hz.one;simp only [pwA,seval,-iQ0,w2,r2,hz.one,hz.cells];exact Gh.fin0 ((hkp.trans (k8.trans k9)).set (by omega) _) ⟨⟨trivial,trivial,hz.bel _,trivial⟩,trivial,trivial⟩ (hk z w u hz hw (by rw [hNN];exact hu))
end Go.Proofs
namespace Go.Grp
end Go.Grp
namespace Go.Proofs
open Go.Ab Go.Lie Go.Grp Go.Mx
variable {σ σ0 h h' h2:PHeap} {K:PV→PHeap→Prop} {p c:Int} {n m s b:Nat} {x y bs:List Int} {A B:List (List Int)} {v v' vC:PV} {kids:List TR}
def RowT (t:TR) (x:List Int):Prop:=(∃s cap,t=TR.row s cap x)∨∃v,t=.leaf v∧FI v x
theorem qR:∀ts:List TR,TR.pvs ts=ts.map TR.pv
 | []=>rfl
 | t::ts=>by simp only [TR.pvs,List.map_cons,qR ts]
theorem qF {s:Nat}:∀{ts:List TR},s∈TR.slotss ts↔∃t∈ts,s∈t.slots
 | []=>by simp [TR.slotss]
 | t::ts=>by simp only [TR.slotss,List.mem_append,qF (ts:=ts),List.mem_cons,exists_eq_or_imp]
theorem qY:∀{ts:List TR},TR.okFs h b ts↔∀t∈ts,TR.okF h b t
 | []=>by simp [TR.okFs]
 | t::ts=>by simp [TR.okFs,qY (ts:=ts)]
theorem qK {cap:Cap}:(TR.row s cap x).okF h b↔full 1 cap x.length∧h.obj s=some (pis x)∧b≤s∧s<h.next:=by
 simp only [TR.row,TR.okF,List.length_map,TR.ints_pvs];exact⟨fun g=>g.1,fun g=>⟨g,zB0 x⟩⟩
theorem RowT.move {t:TR} (r:RowT t x) (a:t.okF h b) (hn:h.next≤h'.next) (ho:∀s∈t.slots,h'.obj s=h.obj s):t.okF h' b:=by
 rcases r with ⟨s,cap,rfl⟩|⟨v,rfl,hv⟩
 ·rw [qK]at a ⊢
  obtain⟨a1,a2,a3,a4⟩:=a;exact⟨a1,by rw [ho s (by rw [TR.row_slots];simp)];exact a2,a3,by omega⟩
 ·exact hv.bel 0
theorem RowT.slot {t:TR} (r:RowT t x) (a:t.okF h b):∀s∈t.slots,b≤s∧s<h.next:=fun s hs=>by
 rcases r with ⟨s',cap,rfl⟩|⟨v,rfl,hv⟩
 ·rw [qK]at a
  rw [TR.row_slots,List.mem_singleton]at hs
  subst hs;exact a.2.2
 ·cases hs
theorem RowT.fz {t:TR} (r:RowT t x) (a:Nat→Nat):FI (t.fz a) x:=by
 rcases r with ⟨s,cap,rfl⟩|⟨v,rfl,hv⟩
 ·exact TR.row_FI
 ·exact hv
theorem RowT.one {t:TR} (r:RowT t x):t.pv.one=true∧t.pv.cells=[t.pv]∧plen t.pv=some x.length:=by
 rcases r with ⟨s,cap,rfl⟩|⟨v,rfl,hv⟩
 ·rw [TR.row_pv];exact⟨rfl,rfl,rfl⟩
 ·exact⟨hv.one,hv.cells,by obtain⟨w,a,rfl⟩:=hv;rfl⟩
theorem zC9 {a:Nat→Nat}:∀ts:List TR,TR.fzs a ts=ts.map (TR.fz a)
 | []=>rfl
 | t::ts=>by simp only [TR.fzs,List.map_cons,zC9 ts]
structure DR (b:Nat) (h:PHeap) (v:PV) (kids:List TR) (A:List (List Int)):Prop where
 row:All2 RowT kids A
 ok:TR.okFs h b kids
 nd:(TR.slotss kids).Nodup
 out:(kids=[]∧v=.fz true .nils 0 [])∨∃s0 cap,v=.sl s0 0 kids.length cap∧full 1 cap kids.length∧h.obj s0=some (TR.pvs kids)∧b≤s0∧s0<h.next∧s0∉TR.slotss kids
theorem DR.nil (b:Nat) (h:PHeap):DR b h (.fz true .nils 0 []) [] []:=⟨All2.nil _,trivial,List.nodup_nil,.inl ⟨rfl,rfl⟩⟩
theorem DR.len (a:DR b h v kids A):kids.length=A.length:=a.row.1
theorem DR.get (a:DR b h v kids A) {i:Nat} (hi:i<A.length):∃t,kids[i]? = some t∧RowT t A[i]∧t.okF h b:=by
 have hl:=a.len;refine⟨kids[i]'(by omega),List.getElem?_eq_getElem (by omega),a.row.2 i _ _ (List.getElem?_eq_getElem (by omega)) (List.getElem?_eq_getElem hi),qY.1 a.ok _ (List.getElem_mem _)⟩
theorem DR.slot (a:DR b h v kids A):∀s∈TR.slotss kids,b≤s∧s<h.next:=fun s hs=>by
 obtain⟨t,ht,hs⟩:=qF.1 hs;obtain⟨i,hi,rfl⟩:=List.mem_iff_getElem.1 ht;obtain⟨t',h1,h2,h3⟩:=a.get (i:=i) (by rw [←a.len];exact hi)
 rw [List.getElem?_eq_getElem hi]at h1
 cases h1;exact h2.slot h3 s hs
theorem DR.oks (a:DR b h v kids A) (hn:h.next≤h'.next) (ho:∀s∈TR.slotss kids,h'.obj s=h.obj s):TR.okFs h' b kids:=qY.2 fun t ht=>by
 obtain⟨i,hi,rfl⟩:=List.mem_iff_getElem.1 ht;obtain⟨t',h1,h2,h3⟩:=a.get (i:=i) (by rw [←a.len];exact hi)
 rw [List.getElem?_eq_getElem hi]at h1
 cases h1;exact h2.move h3 hn fun s hs=>ho s (qF.2 ⟨_,ht,hs⟩)
theorem DR.move (a:DR b h v kids A) (hn:h.next≤h'.next) (ho:∀s,b≤s→s<h.next→h'.obj s=h.obj s):DR b h' v kids A:=by
 refine⟨a.row,a.oks hn fun s hs=>ho s (a.slot s hs).1 (a.slot s hs).2,a.nd,?_⟩
 rcases a.out with e|⟨s0,cap,h1,h2,h3,h4,h5,h6⟩
 ·exact .inl e
 ·exact .inr ⟨s0,cap,h1,h2,by rw [ho s0 h4 h5];exact h3,h4,by omega,h6⟩
theorem DR.keep (a:DR b h v kids A) (k:Keep h h'):DR b h' v kids A:=a.move k.next fun s _ hs=>k.obj s hs
theorem DR.mv (a:DR b h v kids A) (hs:s<b) (k:Mv h s h'):DR b h' v kids A:=a.move (by rw [k.next];exact Nat.le_refl _) fun t ht _=>k.obj (by omega)
theorem DR.km (a:DR b h v kids A) (hs:s<b) (k:KM h s h'):DR b h' v kids A:=a.move k.next fun t ht h1=>k.obj h1 (by omega)
theorem DR.one (a:DR b h v kids A):v.one=true∧v.cells=[v]∧pLen v=some (.int .i64 A.length):=by
 rw [←a.len];rcases a.out with ⟨rfl,rfl⟩|⟨s0,cap,rfl,_⟩<;>exact⟨rfl,rfl,rfl⟩
theorem DR.acc (a:DR b h v kids A):PAcc b 1 h v kids.length (TR.pvs kids):=by
 rcases a.out with ⟨rfl,rfl⟩|⟨s0,cap,rfl,h2,h3,h4,h5,h6⟩
 ·exact PAcc.nil _ _ _
 ·exact .inr ⟨s0,cap,rfl,h2,h3,by rw [qR];simp,h4,h5⟩
theorem zGB (a b:List TR):TR.pvs (a++b)=TR.pvs a++TR.pvs b:=by rw [qR,qR,qR,List.map_append]
theorem QM:∀a b:List TR,TR.slotss (a++b)=TR.slotss a++TR.slotss b
 | [],b=>rfl
 | t::a,b=>by simp only [List.cons_append,TR.slotss,QM a b,List.append_assoc]
theorem DR.fresh (a:DR b h v kids A) {s:Nat} (hs:h.next≤s):s∉TR.slotss kids∧∀off l c,v≠.sl s off l c:=by
 refine⟨fun hm=>by have:=(a.slot s hm).2;omega,fun off l c e=>?_⟩
 rcases a.out with ⟨_,rfl⟩|⟨s0,cap,rfl,h2,h3,h4,h5,h6⟩
 ·cases e
 ·simp only [PV.sl.injEq]at e
  omega
theorem DR.below (a:DR b h v kids A) {s:Nat} (hs:s<b):∀off l c,v≠.sl s off l c:=fun off l c e=>by
 rcases a.out with ⟨_,rfl⟩|⟨s0,cap,rfl,h2,h3,h4,h5,h6⟩
 ·cases e
 ·simp only [PV.sl.injEq]at e
  omega
theorem DR.push {σb:PHeap} {Kp:PV×PHeap→Prop} {t:TR} (a:DR b h v kids A) (hk:Keep σb h) (hb1:σb.next≤b) (hb2:b≤h.next) (r:RowT t x) (ht:t.okF h b) (hf:∀s∈t.slots,s∉TR.slotss kids∧∀off l c,v≠.sl s off l c) (hb:A.length≤1000)
  (k:∀v' h2,DR b h2 v' (kids++[t]) (A++[x])→Keep σb h2→(∀s,s<h.next→(∀off l c,v≠.sl s off l c)→h2.obj s=h.obj s)→(∀s,s<h.next→∀off l c,v'≠.sl s off l c)→h.next<h2.next→Kp (v',h2)):optK (qA 1 24 (h.new [t.pv]) v (.sl h.next 0 1 (.known 1))) Kp:=by
 have hl:=a.len;refine PAcc.pushS (σb:=σb) (bytes:=24) hk (a.acc.low hb1) rfl (by omega) (by omega) fun v' h2 k2 a2 o2 n2 l2=>?_
 have vne:∀s∈TR.slotss kids++t.slots,∀off l c,v≠.sl s off l c:=fun s hs off l c e=>by
  rcases List.mem_append.1 hs with hs|hs
  ·rcases a.out with ⟨_,rfl⟩ | ⟨s0,cap,rfl,h2,h3,h4,h5,h6⟩
   ·cases e
   ·simp only [PV.sl.injEq]at e
    exact h6 (e.1 ▸ hs)
  ·exact(hf s hs).2 off l c e
 have hslt:∀s∈TR.slotss kids++t.slots,s<h.next:=fun s hs=>by
  rcases List.mem_append.1 hs with hs|hs
  ·exact(a.slot s hs).2
  ·exact(r.slot ht s hs).2
 have hsl:TR.slotss (kids++[t])=TR.slotss kids++t.slots:=by rw [QM];simp [TR.slotss]
 refine k v' h2 ⟨a.row.snoc r,qY.2 fun u hu=>?_,?_,.inr ?_⟩ k2 o2 n2 l2
 ·rcases List.mem_append.1 hu with hu | hu
  ·exact qY.1 (a.oks (h':=h2) (by omega) fun s hs=>o2 s (hslt s (List.mem_append_left _ hs)) (vne s (List.mem_append_left _ hs))) u hu
  ·rw [List.mem_singleton.1 hu]
   exact r.move ht (by omega) fun s hs=>o2 s (hslt s (List.mem_append_right _ hs)) (vne s (List.mem_append_right _ hs))
 ·rw [hsl,List.nodup_append]
  refine⟨a.nd,?_,fun s hs s' hs' e=>(hf s' hs').1 (e ▸ hs)⟩
  rcases r with ⟨s,cap,rfl⟩|⟨v,rfl,hv⟩
  ·rw [TR.row_slots];simp
  ·exact List.nodup_nil
 ·obtain⟨s0,cap,rfl,q1,q2,q3,q4,q5⟩:=a2
  refine⟨s0,cap,by rw [List.length_append];rfl,by rw [List.length_append];exact q1,by rw [q2,zGB];rfl,?_,q5,fun hs=>?_⟩
  ·rcases Nat.lt_or_ge s0 h.next with g | g
   ·exact absurd rfl (n2 s0 g 0 _ cap)
   ·omega
  rw [hsl]at hs
  exact n2 s0 (hslt s0 hs) 0 _ cap rfl
theorem DR.put {t:TR} (a:DR b h v kids A) {i:Nat} (hi:i<A.length) (r:RowT t y) (ht:t.okF h b) (hf:∀s∈t.slots,s∉TR.slotss kids) (hv:∀s∈t.slots,∀off l c,v≠.sl s off l c):
  ∃s0 cap h2,v=.sl s0 0 A.length cap∧h.wr s0 i [t.pv]=some h2∧DR b h2 v (kids.set i t) (A.set i y)∧h2.next=h.next∧∀s,s≠s0→h2.obj s=h.obj s:=by
 have hl:=a.len;have hik:i<kids.length:=by omega
 rcases a.out with ⟨rfl,_⟩|⟨s0,cap,rfl,h2,h3,h4,h5,h6⟩
 ·simp at hik
 have hne:∀s∈TR.slotss (kids.set i t),s∈TR.slotss kids∨s∈t.slots:=fun s hs=>by
  obtain⟨u,hu,hs⟩:=qF.1 hs;rcases List.mem_or_eq_of_mem_set hu with e|e
  ·exact .inl (qF.2 ⟨u,e,hs⟩)
  ·exact .inr (e ▸ hs)
 have hpv:TR.pvs (kids.set i t)=(TR.pvs kids).set i t.pv:=by rw [qR,qR,List.map_set]
 refine⟨s0,cap,h.set s0 ((TR.pvs kids).set i t.pv),by rw [hl],qz h3 (by rw [qR];simpa using hik) r.one.1,⟨?_,qY.2 fun u hu=>?_,?_,.inr ⟨s0,cap,by rw [List.length_set],by rw [List.length_set];exact h2,by rw [zJ,if_pos rfl,hpv],h4,h5,fun hs=>?_⟩⟩,rfl,fun s hs=>by rw [zJ,if_neg hs]⟩
 ·refine⟨by rw [List.length_set,List.length_set];exact a.row.1,fun j x y' hx hy=>?_⟩
  rw [List.getElem?_set]at hx hy
  by_cases e:i=j
  ·subst e
   rw [if_pos rfl,if_pos hik]at hx
   rw [if_pos rfl,if_pos hi]at hy
   cases hx;cases hy;exact r
  ·rw [if_neg e]at hx hy
   exact a.row.2 j x y' hx hy
 ·rcases List.mem_or_eq_of_mem_set hu with e | e
  ·exact qY.1 (a.oks (h':=h.set s0 ((TR.pvs kids).set i t.pv)) (Nat.le_refl _) fun s hs=>by rw [zJ,if_neg fun e:s=s0=>h6 (e ▸ hs)]) u e
  ·rw [e]
   exact r.move ht (Nat.le_refl _) fun s hs=>by rw [zJ,if_neg fun e:s=s0=>hv s hs 0 kids.length cap (by rw [e])]
 ·-- the other rows' slots stay apart
  have nd:=a.nd;clear hne hpv hv h6 h3 h2 h5 a
  induction kids generalizing i A with
  | nil=>simp at hik
  | cons u us ih=>
   cases i with
   | zero=>
    simp only [List.set_cons_zero,TR.slotss]at nd ⊢
    rw [List.nodup_append]at nd ⊢
    refine⟨?_,nd.2.1,fun s hs s' hs' e=>hf s hs (by rw [TR.slotss,List.mem_append];exact .inr (e ▸ hs'))⟩
    rcases r with ⟨s,cap,rfl⟩|⟨v,rfl,hv⟩
    ·rw [TR.row_slots];simp
    ·exact List.nodup_nil
   | succ i=>
    simp only [List.set_cons_succ,TR.slotss]at nd ⊢
    rw [List.nodup_append]at nd ⊢
    have hsub:∀s∈t.slots,s∉TR.slotss us:=fun s hs hm=>hf s hs (by rw [TR.slotss,List.mem_append];exact .inr hm)
    refine⟨nd.1,ih (i:=i) (A:=A.tail) (by simp at hi ⊢;omega) hsub (by simp at hl ⊢;omega) (by simp at hik;omega) nd.2.1,fun s hs s' hs' e=>?_⟩
    obtain⟨w,hw,hs'⟩:=qF.1 hs';rcases List.mem_or_eq_of_mem_set hw with e2|e2
    ·exact nd.2.2 s hs s' (qF.2 ⟨w,e2,hs'⟩) e
    ·rw [e2]at hs'
     exact hf s' hs' (by rw [TR.slotss,List.mem_append];exact .inl (e ▸ hs))
 ·rcases hne s0 hs with e | e
  ·exact h6 e
  ·exact hv s0 e 0 kids.length cap rfl
theorem DR.fin (a:DR b h v kids A) (hk:Keep σ h) (hb:σ.next≤b) (k:∀z,FII z A→K (.agg [.int .i64 p,.int .i64 c,z]) σ):Gh σ K (.agg [.int .i64 p,.int .i64 c,v]) h:=by
 have hl:=a.len;have a2:∀aa,All2 FI (TR.fzs aa kids) A:=fun aa=>⟨by rw [TR.fzs_length];exact hl,fun j x y hx hy=>by
  rw [zC9,List.getElem?_map]at hx
  obtain⟨t,ht,rfl⟩:=Option.map_eq_some_iff.1 hx;exact(a.row.2 j t y ht hy).fz aa⟩
 have low:TR.okFs h σ.next kids:=qY.2 fun t ht=>by
  obtain⟨i,hi,rfl⟩:=List.mem_iff_getElem.1 ht;obtain⟨t',h1,h2,h3⟩:=a.get (i:=i) (by rw [←a.len];exact hi)
  rw [List.getElem?_eq_getElem hi]at h1
  cases h1;rcases h2 with ⟨s,cap,e⟩|⟨v,e,hv⟩
  ·rw [e,qK]at h3
   rw [e,qK];exact⟨h3.1,h3.2.1,by omega,h3.2.2.2⟩
  ·rw [e];exact hv.bel 0
 rcases a.out with ⟨rfl,rfl⟩|⟨s0,cap,rfl,h2,h3,h4,h5,h6⟩
 ·have:A=[]:=List.eq_nil_of_length_eq_zero (by rw [←hl];rfl)
  subst this;exact Gh.fin0 hk ⟨trivial,trivial,trivial,trivial⟩ (k _ ⟨true,.nils,[],rfl,All2.nil _⟩)
 ·have et:(TR.agg [.leaf (.int .i64 p),.leaf (.int .i64 c),.lst s0 cap kids]).pv=.agg [.int .i64 p,.int .i64 c,.sl s0 0 kids.length cap]:=rfl
  rw [←et];exact Gh.treeF hk ⟨trivial,trivial,⟨⟨h2,h3,by omega,h5⟩,low⟩,trivial⟩ fun aa=>k _ ⟨true,.sl (aa s0) 0 kids.length cap,TR.fzs aa kids,by rw [←hl];rfl,a2 aa⟩
end Go.Proofs
namespace Go.Grp
end Go.Grp
namespace Go.Proofs
open Go.Ab Go.Lie Go.Grp Go.Mx
variable {σ σ0 h h' h2:PHeap} {K:PV→PHeap→Prop} {p c:Int} {n m s t b:Nat} {x y v w bs xs:List Int} {A B:List (List Int)} {vC:PV} {kids:List TR}
theorem So.back {σ':PHeap} (q:Keep σ' h) (so:So h s vC bs) (hs:s<σ'.next):So σ' s vC bs:=by
 obtain⟨a,sd,S⟩:=so;exact⟨a,sd,by rw [←q.obj s hs];exact S.obj,hs,S.fb,S.byt,S.le,S.sd⟩
theorem KM.so (km:KM σ s h) (so:So h s vC bs) (hs:s<σ.next):∃σ',Mv σ s σ'∧So σ' s vC bs∧Keep σ' h∧σ'.next=σ.next:=by
 obtain⟨σ',m,q⟩:=km;exact⟨σ',m,so.back q (by rw [m.next];exact hs),q,m.next⟩
theorem PSl.mv {e n:Nat} {v:PV} {cs:List PV} (a:PSl b e h v n cs) (hs:s<b) (m:Mv h s h'):PSl b e h' v n cs:=by
 obtain⟨t,cap,rfl,h1,h2,h3,h4,h5⟩:=a;exact⟨t,cap,rfl,h1,by rw [m.obj (by omega)];exact h2,h3,h4,by rw [m.next];exact h5⟩
theorem ZM {cap:Cap} (so:So σ s vC bs) (hst:s≠t) (ho:σ.obj t=some (pis xs)) (hn:0<xs.length∧xs.length≤1000) (hk:∀x h,x∈xs→Mv σ s h→So h s vC bs→K (.int .i64 x) h):zC Try.prog 85 [.ptr s 0,.sl t 0 xs.length cap] σ K:=by
 refine zD mix Try.func85 ?_
 conv=>arg 2;cbv
 refine zG rfl ?_;simp only [pwA,seval,-iQ0];refine zo so (by omega) fun x h hx m so1=>?_
 obtain⟨i,rfl⟩:∃i:Nat,x=(i:Int):=⟨x.toNat,by have:=hx.1;omega⟩
 have hlt:i<xs.length:=by have:=hx.lt (by omega);omega
 have r1:h.rd1 t i=some (.int .i64 xs[i]):=by rw [zH (by rw [m.obj (Ne.symm hst)];exact ho),zW,gi hlt];rfl
 simp only [pwA,seval,-iQ0,hlt,r1];exact hk _ h (List.getElem_mem hlt) m so1
theorem zAH (so:So σ s vC bs) (hk:∀p h,isP p→KM σ s h→So h s vC bs→K (.int .i64 p) h):zC Try.prog 84 [.ptr s 0] σ K:=by
 have hs:=so.lt;refine zD mix Try.func84 ?_
 conv=>arg 2;cbv
 refine zG rfl ?_;simp only [pwA,seval,-iQ0];refine ZM (xs:=[2,2,3,3,5,7]) (so.keep (zF _ _)) (by omega) (by rw [zL,if_pos rfl];rfl) (by decide) fun x h hx m so1=>?_
 simp only [pwA,seval,-iQ0];exact hk x h (by unfold isP;simp at hx;omega) ((so.kmK (zF _ _)).mv hs m) so1
theorem zJT {i:Nat} (hx:Ve p i x) {a:Int} (ha:0≤a∧a<p):Ve p (i+1) (x++[a]):=⟨by rw [List.length_append,hx.len];rfl,fun j=>by
 rw [qw]
 split
 ·exact hx.bd j
 ·by_cases h:j-x.length=0
  ·rw [h];exact ha
  ·rw [at_ge (by simp;omega)];omega⟩
theorem zCg (so:So σ s vC bs) (hp:1≤p∧p≤1000) (hn:n≤1000) (hk:∀t cap x h,KM σ s h→So h s vC bs→σ.next≤t→t<h.next→h.obj t=some (pis x)→full 1 cap n→Ve p n x→K (.sl t 0 n cap) h):zC Try.prog 75 [.ptr s 0,.int .i64 p,.int .i64 n] σ K:=by
 have hs:=so.lt;refine zD mix Try.func75 ?_
 conv=>arg 2;cbv
 refine zG rfl ?_;simp only [pwA,seval,-iQ0];refine zR (fun k us h=>∃(i:Nat) (vR:PV) (x:List Int),i≤n∧k=n-i∧us=[.ptr s 0,.int .i64 p,.int .i64 n,vR,.int .i64 i]∧KM σ s h∧So h s vC bs∧PSl σ.next 1 h vR i (pis x)∧Ve p i x) n ?_ ?_
 ·exact⟨0,_,[],by omega,by omega,rfl,so.kmK (zF _ _),so.keep (zF _ _),PSl.new _ 1 rfl (Nat.le_refl _),⟨rfl,fun j=>by rw [at_ge (by simp)];omega⟩⟩
 rintro k us h ⟨i,vR,x,hi,rfl,rfl,km,so1,ps,hx⟩
 simp only [pwA,seval,-iQ0];refine iteI (fun hlt=>?_) fun hge=>?_
 rotate_left
 ·have hie:i=n:=by omega
  subst hie;obtain⟨t,cap,rfl,h1,h2,h3,h4,h5⟩:=ps;exact hk t cap x h km so1 h4 h5 h2 h1 hx
 refine zo so1 (by omega) fun a h1 ha m1 so2=>?_
 obtain⟨σ',m,so3,q,hn'⟩:=(km.mv hs m1).so so2 hs;simp only [pwA,seval,-iQ0];refine PSl.push (σb:=σ') (bytes:=8) q (by rw [hn'];exact PSl.mv ps hs m1) (by omega) (by omega) fun v' h3 k3 a3=>?_
 simp only [pwA,seval,-iQ0,wrapS hlt (by omega:n≤4611686018427387904)]
 refine⟨_,by omega,i+1,v',x++[a],by omega,rfl,rfl,⟨σ',m,k3⟩,so3.keep k3,?_,zJT hx ⟨ha.1,ha.lt hp.1⟩⟩
 rw [hn',show [PV.int .i64 a]=pis [a] from rfl,zAV]at a3
 exact a3
theorem zAz {cap:Cap} (ho:σ.obj s=some (pis xs)) (hs:s<σ.next) (hb:xs.length≤1048576) (hk:∀cap,full 1 cap xs.length→K (.sl σ.next 0 xs.length cap) (σ.new (pis xs))):zC Try.prog 86 [.sl s 0 xs.length cap] σ K:=by
 refine zC.gh ?_;have hne:¬s=σ.next:=Nat.ne_of_lt hs;refine zD mix Try.func86 ?_
 conv=>arg 2;cbv
 refine zG rfl ?_;simp only [pwA,seval,-iQ0];refine PSl.app (b:=0) (news:=pis xs) (m:=xs.length) (zF σ _) (Nat.zero_le _) (PSl.new _ 1 rfl (Nat.le_refl _)) rfl (fun h0=>?_) (by rw [zU,Nat.mul_one]) (by omega) (by omega) fun v' h' k1 k2=>?_
 ·rw [Qn]
  simp only [h0,if_false,Nat.le_refl,if_true,Nat.mul_one,zBI,hne];rw [qE ho,if_pos (by rw [zU];omega),List.drop_zero,List.take_of_length_le (by rw [zU];exact Nat.le_refl _)]
 ·simp only [pwA,seval,-iQ0]at k2 ⊢
  exact k2.out k1 (qO _ _) hk
theorem zBl {cap:Cap} (hp:2≤p∧p≤7) (hc:-7≤c∧c≤7) (hx:Ve p n x) (hn:n≤1000) (ho:σ.obj s=some (pis x)) (hs:s<σ.next) (hk:∀cap,full 1 cap n→K (.sl σ.next 0 n cap) (σ.new (pis (scl p c x)))):zC Try.prog 87 [.int .i64 p,.int .i64 c,.sl s 0 n cap] σ K:=by
 have hxl:=hx.len;have hsl:(scl p c x).length=n:=by rw [qb];exact hxl
 refine zC.gh ?_;refine zD mix Try.func87 ?_
 conv=>arg 2;cbv
 refine zG rfl ?_;simp only [pwA,seval,-iQ0,List.length_replicate,QV,mk8 (n:=n) (by omega),mkL (n:=n) (by omega)]
 -- the sum with zeros
 refine zD mix Try.func95 ?_
 conv=>arg 2;cbv
 refine zG rfl ?_;simp only [pwA,seval,-iQ0];have hz:(σ.new (pis (List.replicate n 0))).obj σ.next=some (pis (List.replicate n 0)):=by rw [zL,if_pos rfl]
 have e0:(List.replicate n (0:Int)).length=n:=by simp
 have own:=fun(K':PV→PHeap→Prop) (k':∀cap,full 1 cap n→K' (.sl (σ.next+1) 0 n cap) ((σ.new (pis (List.replicate n 0))).new (pis (List.replicate n 0))))=>by
  have:=zAz (K:=K') (cap:=.known n) hz (by show σ.next<σ.next+1;omega) (by rw [e0];omega) (by rw [e0];exact k')
  rwa [e0]at this
 refine own _ fun cap2 hcap2=>?_
 have ho2:((σ.new (pis (List.replicate n 0))).new (pis (List.replicate n 0))).obj s=some (pis x):=by rw [zL,if_neg (by show ¬s=σ.next+1;omega),zL,if_neg (by omega)];exact ho
 generalize hH:σ.new (pis (List.replicate n 0))=H at *
 have hHn:H.next=σ.next+1:=by rw [←hH];rfl
 have hHk:Keep σ H:=by rw [←hH];exact zF σ _
 have hvs:(List.replicate n (0:Int)).length=(scl p c x).length:=by rw [hsl,e0]
 simp only [pwA,seval,-iQ0];refine zR (fun k us h'=>∃i:Nat,i≤n∧k=n-i∧us=[.int .i64 p,.int .i64 c,.sl s 0 n cap,.sl (σ.next+1) 0 n cap2,.int .i64 i]∧h'=H.new (pis ((scl p c x).take i++(List.replicate n 0).drop i))) n ?_ ?_
 ·exact⟨0,by omega,by omega,rfl,by rw [List.take_zero,List.drop_zero,List.nil_append]⟩
 rintro k us h' ⟨i,hi,rfl,rfl,rfl⟩
 by_cases hlt:i<n
 rotate_left
 ·have hie:i=n:=by omega
  subst hie;simp only [pwA,seval,-iQ0,Nat.lt_irrefl];rw [List.drop_of_length_le (by rw [e0];exact Nat.le_refl _),List.append_nil,List.take_of_length_le (by omega)]
  rw [←hHn];exact(PSl.own (b:=σ.next) (e:=1) hcap2 (by rw [zL,if_pos rfl]) (by rw [zU,hsl];omega) (by omega) (Nat.lt_succ_self _)).out (hHk.new _) (qO _ _) hk
 have hlx:i<x.length:=by omega
 have hl0:i<(List.replicate n (0:Int)).length:=by rw [e0];exact hlt
 have hlen:i+1≤((scl p c x).take i++(List.replicate n 0).drop i).length:=by simp;omega
 have e1:=zAA hvs.symm hl0;rw [List.getElem_replicate]at e1
 have hxb:=hx.bd i;rw [at_eq hlx]at hxb
 have hb:=sm7 (a:=c) (b:=x[i]) hc (by omega)
 have ew1:IntKind.i64.wrap (c*x[i])=c*x[i]:=wrap64 (by omega) (by omega)
 have ew2:IntKind.i64.wrap (0+c*x[i])=c*x[i]:=by rw [Int.zero_add];exact ew1
 have r1:(H.new (pis ((scl p c x).take i++(List.replicate n 0).drop i))).rd1 s i=some (.int .i64 x[i]):=by
  rw [zH (cs:=pis x) (by rw [zL,if_neg (by omega)];rw [zL,if_neg (by omega)]at ho2;exact ho2),zW,gi hlx];rfl
 have r2:(H.new (pis ((scl p c x).take i++(List.replicate n 0).drop i))).rd1 (σ.next+1) i=some (.int .i64 0):=by
  rw [zH (cs:=pis ((scl p c x).take i++(List.replicate n 0).drop i)) (by rw [zL,if_pos hHn.symm]),zW,e1];rfl
 have hw:(H.new (pis ((scl p c x).take i++(List.replicate n 0).drop i))).wr (σ.next+1) i [.int .i64 (c*x[i] % p)]=some (H.new (pis ((scl p c x).take (i+1)++(List.replicate n 0).drop (i+1)))):=by
  have hiv:i<(scl p c x).length:=by omega
  rw [qz (cs:=pis ((scl p c x).take i++(List.replicate n 0).drop i)) (by rw [zL,if_pos hHn.symm]) (by rw [zU];omega) rfl,zAD,←hHn,Qj]
  congr 2
  rw [←QU hvs.symm hiv]
  congr 1
  simp [scl,Int.mul_comm]
 generalize H.new (pis ((scl p c x).take i++(List.replicate n 0).drop i))=H1 at *
 simp only [pwA,seval,-iQ0,hlt,r1,r2,ew1,ew2];refine Qr (by omega) (by omega) ?_
 simp only [pwA,seval,-iQ0,hlt,hw,wrapS hlt (by omega:n≤4611686018427387904)]
 exact⟨_,by omega,i+1,by omega,rfl,rfl,rfl⟩
end Go.Proofs
namespace Go.Grp
end Go.Grp
namespace Go.Proofs
open Go.Ab Go.Lie Go.Grp Go.Mx
variable {σ σ0 h h' h2:PHeap} {K:PV→PHeap→Prop} {p c:Int} {n m s t b:Nat} {x y w bs xs:List Int} {A B:List (List Int)} {v vC:PV} {kids:List TR}
theorem zAv {α:Type} {o:Option α} {K K':α→Prop} (h:optK o K) (f:∀x,K x→K' x):optK o K':=by
 obtain⟨v,hv,k⟩:=h;exact⟨v,hv,f v k⟩
theorem KM.set' (k:KM σ s h) (so:So h s vC bs) {t:Nat} (ht:σ.next≤t) (hs:s<σ.next) (cs:List PV):KM σ s (h.set t cs)∧So (h.set t cs) s vC bs:=⟨k.set ht cs,so.set (by omega) cs⟩
theorem Zb (so:So σ s vC bs) (hp:isP p) (hm:m≤8) (hn:n≤8) (hk:∀v kids A h,KM σ s h→So h s vC bs→DR σ.next h v kids A→A.length=m→Ma p n A→(∀t x,kids[0]? = some t→A[0]? = some x→∃s cap,t=TR.row s cap x)→K (.agg [.int .i64 p,.int .i64 n,v]) h):
  zC Try.prog 45 [.ptr s 0,.int .i64 p,.int .i64 m,.int .i64 n] σ K:=by
 have hs:=so.lt;have hpb:=hp.bd;generalize hT:(σ.new [.int .i64 0,.int .i64 0,.fz true .nils 0 []]).new [.int .i64 p,.int .i64 n,.fz true .nils 0 []]=T;have hTn:T.next=σ.next+2:=by rw [←hT];rfl
 have hkT:Keep σ T:=by rw [←hT];exact(zF σ _).new _
 have obT:T.obj (σ.next+1)=some [.int .i64 p,.int .i64 n,.fz true .nils 0 []]:=by rw [←hT];simp only [pwA,seval,-iQ0]
 have obR:T.obj σ.next=some [.int .i64 0,.int .i64 0,.fz true .nils 0 []]:=by rw [←hT];simp only [pwA,seval,-iQ0]
 refine zD mix Try.func45 ?_
 conv=>arg 2;cbv
 refine zG rfl ?_;simp only [pwA,seval,-iQ0];rw [hT];refine zR (fun k us h=>∃(i:Nat) (v:PV) (kids:List TR) (A:List (List Int)),i≤m∧k=m-i∧us=[.ptr s 0,.int .i64 p,.int .i64 m,.int .i64 n,.ptr σ.next 0,.ptr (σ.next+1) 0,.int .i64 i]∧(KM σ s h∧So h s vC bs∧h.obj (σ.next+1)=some [.int .i64 p,.int .i64 n,v]∧h.obj σ.next=some [.int .i64 0,.int .i64 0,.fz true .nils 0 []]∧T.next≤h.next)∧DR T.next h v kids A∧A.length=i∧Ma p n A∧(∀t x,kids[0]? = some t→A[0]? = some x→∃s cap,t=TR.row s cap x)) m ?_ ?_
 ·exact⟨0,_,[],[],by omega,by omega,rfl,⟨so.kmK hkT,so.keep hkT,obT,obR,Nat.le_refl _⟩,DR.nil _ _,rfl,fun r hr=>(by cases hr),fun t x h=>(by cases h)⟩
 rintro k us h ⟨i,v,kids,A,hi,rfl,rfl,⟨km,so1,ob1,ob0,hTh⟩,dr,hAl,hA,h00⟩
 have hkl:=dr.len;simp only [pwA,seval,-iQ0];refine iteI (fun hlt=>?_) fun hge=>?_
 rotate_left
 ·have hie:i=m:=by omega
  subst hie;have r3:h.rd (σ.next+1) 0 3=some [.int .i64 p,.int .i64 n,v]:=by rw [qE ob1];rfl
  obtain⟨w1,r1⟩:=res3 (a:=p) (b:=(n:Int)) ob0 dr.one.1;simp only [pwA,seval,-iQ0,r3,w1,r1]
  have:=KM.set' km so1 (t:=σ.next) (Nat.le_refl _) hs [.int .i64 p,.int .i64 n,v]
  have dr2:DR T.next (h.set σ.next [.int .i64 p,.int .i64 n,v]) v kids A:=dr.move (Nat.le_refl _) fun t ht _=>by rw [zJ,if_neg (by omega)]
  refine hk v kids A _ this.1 this.2 ⟨dr2.row,qY.2 fun t ht=>?_,dr2.nd,?_⟩ hAl hA h00
  ·obtain⟨j,hj,rfl⟩:=List.mem_iff_getElem.1 ht
   obtain⟨t',g1,g2,g3⟩:=dr2.get (i:=j) (by rw [←dr2.len];exact hj)
   rw [List.getElem?_eq_getElem hj]at g1
   cases g1;rcases g2 with ⟨s',cap',e⟩|⟨v',e,hv⟩
   ·rw [e,qK]at g3
    rw [e,qK];exact⟨g3.1,g3.2.1,by have:=g3.2.2.1;omega,g3.2.2.2⟩
   ·rw [e];exact hv.bel 0
  ·rcases dr2.out with e | ⟨s0,cap,q1,q2,q3,q4,q5,q6⟩
   ·exact .inl e
   ·exact .inr ⟨s0,cap,q1,q2,q3,by omega,q5,q6⟩
 have wi1:=wrapS hlt (by omega:m≤4611686018427387904)
 -- what follows once the row stands
 have rest:∀{h1:PHeap} {u:TR} {x:List Int} {vX:PV},u.pv=vX→KM σ s h1→So h1 s vC bs→h1.obj (σ.next+1)=some [.int .i64 p,.int .i64 n,v]→h1.obj σ.next=some [.int .i64 0,.int .i64 0,.fz true .nils 0 []]→T.next≤h1.next→DR T.next h1 v kids A→RowT u x→u.okF h1 T.next→(∀s∈u.slots,s∉TR.slotss kids∧∀off l c,v≠.sl s off l c)→Ve p n x→(i=0→∃s cap,u=TR.row s cap x)→
   optK (qA 1 24 (h1.new [vX]) v (.sl h1.next 0 1 (.known 1))) fun pr=>∃(h3:PHeap) (kids:List TR) (A:List (List Int)),pr.2.wr (σ.next+1) 2 [pr.1]=some h3∧pr.1.cells=[pr.1]∧(KM σ s h3∧So h3 s vC bs∧h3.obj (σ.next+1)=some [.int .i64 p,.int .i64 n,pr.1]∧h3.obj σ.next=some [.int .i64 0,.int .i64 0,.fz true .nils 0 []]∧T.next≤h3.next)∧DR T.next h3 pr.1 kids A∧A.length=i+1∧Ma p n A∧(∀t x,kids[0]? = some t→A[0]? = some x→∃s cap,t=TR.row s cap x):=by
  intro h1 u x vX e km1 so1 ob1 ob0 hTh dr ru hu hf hx h0;subst e;obtain⟨σ',m',so',q,hn'⟩:=km1.so so1 hs;refine DR.push (σb:=σ') dr q (by omega) hTh ru hu hf (by omega) fun v' h2 d2 k2 o2 n2 l2=>?_
  have hv1:∀off l c,v≠.sl (σ.next+1) off l c:=dr.below (by omega)
  have hv0:∀off l c,v≠.sl σ.next off l c:=dr.below (by omega)
  have ob2:h2.obj (σ.next+1)=some [.int .i64 p,.int .i64 n,v]:=by rw [o2 _ (by omega) hv1];exact ob1
  have ob3:h2.obj σ.next=some [.int .i64 0,.int .i64 0,.fz true .nils 0 []]:=by rw [o2 _ (by omega) hv0];exact ob0
  have hw:h2.wr (σ.next+1) 2 [v']=some (h2.set (σ.next+1) [.int .i64 p,.int .i64 n,v']):=by
   have:=qz (i:=2) (v:=v') ob2 (by simp) d2.one.1
   simpa using this
  have k3:=KM.set' ⟨σ',m',k2⟩ (so'.keep k2) (t:=σ.next+1) (by omega) hs [.int .i64 p,.int .i64 n,v']
  refine⟨_,kids++[u],A++[x],hw,d2.one.2.1,⟨k3.1,k3.2,by rw [zJ,if_pos rfl],by rw [zJ,if_neg (by omega)];exact ob3,by show T.next≤h2.next;omega⟩,d2.move (Nat.le_refl _) fun t ht _=>by rw [zJ,if_neg (by omega)],by rw [List.length_append,hAl];rfl,fun r hr=>?_,fun t y ht hy=>?_⟩
  ·rcases List.mem_append.1 hr with hr | hr
   ·exact hA r hr
   ·rw [List.mem_singleton.1 hr];exact hx
  ·by_cases hi0:i=0
   ·have hA0:A=[]:=List.eq_nil_of_length_eq_zero (by omega)
    have hk0:kids=[]:=List.eq_nil_of_length_eq_zero (by omega)
    subst hA0 hk0;simp at ht hy
    rw [←ht,←hy];exact h0 hi0
   ·rw [List.getElem?_append_left (by omega)]at ht hy
    exact h00 t y ht hy
 refine zCg so1 (by omega) (by omega) fun t cap x h1 km1 so2 ht1 ht2 ho hf hx=>?_
 have hxl:=hx.len;have km2:=km.trans hs km1;have keep1:∀u,T.next≤u∨u=σ.next∨u=σ.next+1→u<h.next→h1.obj u=h.obj u:=fun u hu hl=>km1.obj hl (by omega)
 have ob1':h1.obj (σ.next+1)=some [.int .i64 p,.int .i64 n,v]:=by rw [keep1 _ (by omega) (by omega)];exact ob1
 have ob0':h1.obj σ.next=some [.int .i64 0,.int .i64 0,.fz true .nils 0 []]:=by rw [keep1 _ (by omega) (by omega)];exact ob0
 have hn1:=km1.next;have dr1:DR T.next h1 v kids A:=dr.km (by omega) km1
 have fr:=dr.fresh ht1;simp only [pwA,seval,-iQ0]
 by_cases hi0:i=0
 ·have hi0':¬(0:Int)<(i:Int):=by omega
  have r2:h1.rd1 (σ.next+1) 2=some v:=by rw [zH ob1'];rfl
  have hne:¬σ.next+1=h1.next:=by omega
  simp only [pwA,seval,-iQ0,hi0',r2,hne];refine zAv (rest (u:=TR.row t cap x) (x:=x) (by rw [TR.row_pv,hxl]) km2 so2 ob1' ob0' (by omega) dr1 (.inl ⟨t,cap,rfl⟩) (qK.2 ⟨by rw [hxl];exact hf,ho,by omega,ht2⟩) (fun s' hs'=>by rw [TR.row_slots,List.mem_singleton]at hs';subst hs';exact fr) hx fun _=>⟨t,cap,rfl⟩) ?_
  rintro ⟨v',hq⟩ ⟨h3,kids',A',hw,hc,g1,g2,g3,g4,g5⟩
  dsimp only at hw hc g1 g2
  simp only [pwA,seval,-iQ0,hw,hc,wi1];exact⟨m-(i+1),by omega,i+1,v',kids',A',by omega,rfl,rfl,g1,g2,g3,g4,g5⟩
 have hi0':(0:Int)<(i:Int):=by omega
 simp only [pwA,seval,-iQ0,hi0'];refine zo so2 (by omega) fun x4 h2 hx4 m4 so4=>?_
 have km4:=km2.mv hs m4;have dr4:DR T.next h2 v kids A:=dr1.mv (by omega) m4
 have ob14:h2.obj (σ.next+1)=some [.int .i64 p,.int .i64 n,v]:=by rw [m4.obj (by omega)];exact ob1'
 have ob04:h2.obj σ.next=some [.int .i64 0,.int .i64 0,.fz true .nils 0 []]:=by rw [m4.obj (by omega)];exact ob0'
 have ho4:h2.obj t=some (pis x):=by rw [m4.obj (by omega)];exact ho
 have hn4:=m4.next
 by_cases hx0:x4=0
 rotate_left
 ·have r2:h2.rd1 (σ.next+1) 2=some v:=by rw [zH ob14];rfl
  have hne:¬σ.next+1=h2.next:=by omega
  simp only [pwA,seval,-iQ0,hx0,r2,hne];refine zAv (rest (u:=TR.row t cap x) (x:=x) (by rw [TR.row_pv,hxl]) km4 so4 ob14 ob04 (by omega) dr4 (.inl ⟨t,cap,rfl⟩) (qK.2 ⟨by rw [hxl];exact hf,ho4,by omega,by omega⟩) (fun s' hs'=>by rw [TR.row_slots,List.mem_singleton]at hs';subst hs';exact fr) hx fun _=>⟨t,cap,rfl⟩) ?_
  rintro ⟨v',hq⟩ ⟨h3,kids',A',hw,hc,g1,g2,g3,g4,g5⟩
  dsimp only at hw hc g1 g2
  simp only [pwA,seval,-iQ0,hw,hc,wi1];exact⟨m-(i+1),by omega,i+1,v',kids',A',by omega,rfl,rfl,g1,g2,g3,g4,g5⟩
 subst hx0;have r2:h2.rd1 (σ.next+1) 2=some v:=by rw [zH ob14];rfl
 simp only [pwA,seval,-iQ0,r2];refine zo so4 (by omega) fun c h5 hc m5 so5=>?_
 have r5:h5.rd1 (σ.next+1) 2=some v:=by rw [zH (by rw [m5.obj (by omega)];exact ob14)];rfl
 simp only [pwA,seval,-iQ0,r5];refine zo so5 (by omega) fun j h6 hj m6 so6=>?_
 have ob16:h6.obj (σ.next+1)=some [.int .i64 p,.int .i64 n,v]:=by rw [m6.obj (by omega),m5.obj (by omega)];exact ob14
 have ob06:h6.obj σ.next=some [.int .i64 0,.int .i64 0,.fz true .nils 0 []]:=by rw [m6.obj (by omega),m5.obj (by omega)];exact ob04
 have r6:h6.rd1 (σ.next+1) 2=some v:=by rw [zH ob16];rfl
 have km6:=(km4.mv hs m5).mv hs m6;have dr6:DR T.next h6 v kids A:=(dr4.mv (by omega) m5).mv (by omega) m6
 have hn5:=m5.next;have hn6:=m6.next;have hc2:=hc.lt (by omega)
 have hc3:=hc.1;obtain⟨j,rfl⟩:∃j':Nat,j=(j':Int):=⟨j.toNat,by have:=hj.1;omega⟩
 have hji:j<i:=by have:=hj.lt (by omega);omega
 have hjA:j<A.length:=by omega
 obtain⟨u,hu,hru,huk⟩:=dr6.get hjA;have hxj:=hA _ (List.getElem_mem hjA);rcases dr6.out with ⟨e,_⟩|⟨s0,cap0,e0,f1,f2,f3,f4,f5⟩
 ·rw [e]at hu;simp at hu
 have r0:h6.rd1 s0 j=some u.pv:=by rw [zH f2,qR,List.getElem?_map,hu];rfl
 have hjk:j<kids.length:=by omega
 have sc:zC Try.prog 87 [.int .i64 p,.int .i64 c,u.pv] h6 fun v h=>FI v (scl p c A[j])∧h=h6:=by
  rcases hru with ⟨s',cap',rfl⟩|⟨v',rfl,hv'⟩
  ·rw [qK]at huk
   have hxjl:=hxj.len;refine zC.fz (e:=1) (l:=n) (cs:=pis (scl p c A[j])) (fun K' k'=>?_) (qO _ _) fun o cap=>⟨⟨true,.sl o 0 n cap,by rw [qb,hxjl]⟩,rfl⟩
   rw [TR.row_pv,hxjl];exact zBl hpb (by omega) hxj (by omega) huk.2.1 huk.2.2.2 k'
  ·exact zBm hpb (by omega) hxj (by omega) hv' fun z hz=>⟨hz,rfl⟩
 subst e0;simp only [pwA,seval,-iQ0,r6,hjk,r0];refine sc.mono ?_
 rintro z h9 ⟨hz,e9⟩
 obtain rfl:h6=h9:=e9.symm;have hne:¬σ.next+1=h6.next:=by omega
 have g1:=hz.one;have g2:=hz.cells;simp only [pwA,seval,-iQ0,r6,hne,g1,g2];refine zAv (rest (u:=.leaf z) (x:=scl p c A[j]) rfl km6 so6 ob16 ob06 (by omega) dr6 (.inr ⟨z,rfl,hz⟩) (hz.bel 0) (fun s' hs'=>by cases hs') (zDu (by omega) hxj) fun h=>absurd h hi0) ?_
 rintro ⟨v',hq⟩ ⟨h3,kids',A',hw,hc,g1,g2,g3,g4,g5⟩
 dsimp only at hw hc g1 g2
 simp only [pwA,seval,-iQ0,hw,hc,wi1];exact⟨m-(i+1),by omega,i+1,v',kids',A',by omega,rfl,rfl,g1,g2,g3,g4,g5⟩
end Go.Proofs
