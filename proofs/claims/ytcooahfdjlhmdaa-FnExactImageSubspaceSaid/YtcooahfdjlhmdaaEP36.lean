/- Images of subspaces: contracts for the law of the reference. -/
import Derived.Test.YtcooahfdjlhmdaaEP28
import Derived.Test.YtcooahfdjlhmdaaEP26
import Derived.Test.YtcooahfdjlhmdaaEAbPz
import Derived.Test.YtcooahfdjlhmdaaEAbPa
import Derived.Test.YtcooahfdjlhmdaaEP30
import Derived.Test.YtcooahfdjlhmdaaEAbPh
import Derived.Test.YtcooahfdjlhmdaaEAbPn
open Nat renaming left_eq_add→nQ1,add_eq_left→nQ2,succ_ne_self→nQ3,one_ne_zero→nQ4,add_left_cancel_iff→nQ5,add_assoc→nQ6,reduceLeDiff→nQ7,le_refl→nQ8,lt_add_one→nQ9,reduceEqDiff→nQ10,reduceBEq→nQ11,reduceAdd→nQ12,mul_one→nQ13,zero_add→nQ14,add_zero→nQ15
open Int renaming reduceNatCast'→iQ0,toNat_natCast→iQ2,reduceEq→iQ3,reduceLT→iQ4,reduceLE→iQ5,reduceNeg→iQ6
open List renaming getElem?_cons_zero→lQ1,getElem?_cons_succ→lQ2,take_succ_cons→lQ3,take_zero→lQ4,drop_succ_cons→lQ5,drop_zero→lQ6,take_nil→lQ7,drop_nil→lQ8,map_cons→lQ9,map_nil→lQ10,nil_append→lQ11,cons_append→lQ12,all_cons→lQ13,all_nil→lQ14,length_cons→lQ15,length_nil→lQ16,contains_cons→lQ17,contains_nil→lQ18
open Bool renaming not_true→bQ1,not_false→bQ2,and_true→bQ3,true_and→bQ4,and_self→bQ5,true_eq_false→bQ6,false_eq_true→bQ7,or_false→bQ8,or_true→bQ9,true_or→bQ10,false_or→bQ11
open Option renaming map_some→oQ1,map_none→oQ2
set_option maxRecDepth 100000
namespace Go.Grp
end Go.Grp
set_option linter.unusedSimpArgs false
set_option linter.unusedVariables false
namespace Go.Proofs
open Go.Ab Go.Lie Go.Grp Go.Mx
variable {σ:PHeap} {K:PV→PHeap→Prop} {p:Int} {n:Nat} {v w xs ys:List Int} {A M:List (List Int)} {vA vM vv v0:PV}
theorem zCt {α:Type} {a b:List α} {i:Nat} (hl:a.length=b.length) (hi:i<a.length):(a.take i++b.drop i).set i a[i]=a.take (i+1)++b.drop (i+1):=by
 have h1:(a.take i).length=i:=by rw [List.length_take];omega
 rw [List.set_append_right _ _ (by omega),h1,Nat.sub_self,List.drop_eq_getElem_cons (by omega:i<b.length),List.set_cons_zero,List.take_succ_eq_append_getElem hi,List.append_assoc]
 rfl
theorem zCu {α:Type} {a b:List α} {i:Nat} (hl:a.length=b.length) (hi:i<b.length):(a.take i++b.drop i)[i]? = some b[i]:=by
 have h1:(a.take i).length=i:=by rw [List.length_take];omega
 rw [List.getElem?_append_right (by omega),h1,List.getElem?_drop,Nat.sub_self,Nat.add_zero,List.getElem?_eq_getElem hi]
theorem zCE {x:Int} {r out:List Int} (h:r.length=out.length) {j:Nat} (hj:j<out.length):(vstep p x r out)[j]'(by rw [qB h];exact hj)=(out[j] + x*r[j]) % p:=by
 simp [vstep]
def sm9 (x:Int):Prop:=-1000000000≤x∧x≤1000000000
theorem zC6 {s s' l l':Nat} {cap cap':Cap} {k:Int} (hp:0<p∧p≤1000) (hs:σ.obj s=some (pis xs)) (hs':σ.obj s'=some (pis ys)) (hne:s'≠s) (hl:l=xs.length) (hl':l'=ys.length) (hle:ys.length=xs.length) (hb:xs.length≤1048576)
  (hsm:∀i (h1:i<xs.length) (h2:i<ys.length),sm9 (k*ys[i])∧sm9 (xs[i])) (hk:K (.tup []) (σ.set s (pis (vstep p k ys xs)))):
  zA Try.prog 106 [.sl s 0 l cap,.sl s' 0 l' cap',.int .i64 k,.int .i64 p] σ K:=by
 subst hl;subst hl';have hvl:=qB (p:=p) (x:=k) hle;have er:∀t,σ.rd1 s' t=(pis ys)[t]?:=fun t=>qw hs' t
 refine zB mix Try.func106 ?_
 conv=>arg 2;cbv
 refine zC rfl ?_;simp only [pwA,seval,-iQ0];refine zM (fun m vs h'=>∃i:Nat,i≤xs.length∧m=xs.length-i∧vs=[.sl s 0 xs.length cap,.sl s' 0 ys.length cap',.int .i64 k,.int .i64 p,.int .i64 xs.length,.int .i64 i]∧h'=σ.set s (pis ((vstep p k ys xs).take i++xs.drop i))) xs.length ?_ ?_
 ·exact⟨0,by omega,by omega,rfl,by rw [List.take_zero,List.drop_zero,List.nil_append,zBw hs]⟩
 rintro m vs h' ⟨i,hi,rfl,rfl,rfl⟩
 simp only [pwA,seval,-iQ0];refine iteI (fun hlt=>?_) fun hge=>?_
 rotate_left
 ·have:i=xs.length:=by omega
  subst this;rw [List.drop_length,List.append_nil,List.take_of_length_le (by omega)]
  exact hk
 have hlt2:i<ys.length:=by omega
 have e1:=zCu hvl hlt;obtain⟨b1,b2⟩:=hsm i hlt hlt2;unfold sm9 at b1 b2
 have hlen:i+1≤((vstep p k ys xs).take i++xs.drop i).length:=by simp;omega
 have ew1:IntKind.i64.wrap (k*ys[i])=k*ys[i]:=wrap64 (by omega) (by omega)
 have ew2:IntKind.i64.wrap (xs[i] + k*ys[i])=xs[i] + k*ys[i]:=wrap64 (by omega) (by omega)
 simp only [pwA,seval,-iQ0,hlt,hlt2,qO,qY,gi hlt2,e1,hlen,ew1,ew2,hne,er];refine zAS hp.1 (by omega) ?_
 simp only [pwA,seval,-iQ0,hlt,hlen,qY,wrapS hlt (by omega:xs.length≤4611686018427387904)]
 refine⟨_,by omega,i+1,by omega,rfl,rfl,?_⟩
 rw [Zm (by simp;omega)]
 have hiv:i<(vstep p k ys xs).length:=by omega
 rw [←zCt hvl hiv,zCE hle hlt]
end Go.Proofs
namespace Go.Grp
end Go.Grp
namespace Go.Proofs
open Go.Ab Go.Lie Go.Grp Go.Mx
variable {σ:PHeap} {K:PV→PHeap→Prop} {p:Int} {n:Nat} {v w x xs ys:List Int} {A M L u:List (List Int)} {vA vM vv vw vx vu v0:PV}
theorem sm7 {a b:Int} (ha:-7≤a∧a≤7) (hb:0≤b∧b≤7):-49≤a*b∧a*b≤49:=by
 have h1:=Int.mul_le_mul_of_nonneg_right ha.1 hb.1;have h2:=Int.mul_le_mul_of_nonneg_right ha.2 hb.1;omega
theorem zB2 {c:Int} (hp:2≤p∧p≤7) (hc:-7≤c∧c≤7) (hv:Ve p n v) (hw:Ve p n w) (hn:n≤1048576) (hvv:FI vv v) (hvw:FI vw w) (hk:∀z,FI z (vstep p c w v)→K z σ):
  zA Try.prog 95 [.int .i64 p,vv,.int .i64 c,vw] σ K:=by
 have hvl:=hv.len;have hwl:=hw.len;have hln:(vstep p c w v).length=v.length:=qB (by omega)
 obtain⟨wv,av,rfl⟩:=hvv;obtain⟨ww,aw,rfl⟩:=hvw;refine zA.gh ?_;refine zB mix Try.func95 ?_
 conv=>arg 2;cbv
 refine zC rfl ?_;simp only [pwA,seval,-iQ0];refine zA5 rfl (by omega) fun cap hcap=>?_
 simp only [pwA,seval,-iQ0];refine zM (fun m vs h'=>∃i:Nat,i≤v.length∧m=v.length-i∧vs=[.int .i64 p,.int .i64 c,.fz ww aw w.length (pis w),.sl σ.next 0 v.length cap,.int .i64 i]∧h'=σ.new (pis ((vstep p c w v).take i++v.drop i))) v.length ?_ ?_
 ·exact⟨0,by omega,by omega,rfl,by rw [List.take_zero,List.drop_zero,List.nil_append]⟩
 rintro m vs h' ⟨i,hi,rfl,rfl,rfl⟩
 by_cases hlt:i<v.length
 rotate_left
 ·have hie:i=v.length:=by omega
  subst hie;have e0:(vstep p c w v).take v.length++v.drop v.length=vstep p c w v:=by rw [List.drop_length,List.append_nil,List.take_of_length_le (by omega)]
  rw [e0];simp only [pwA,seval,-iQ0,Nat.lt_irrefl];exact Gh.finF (s:=σ.next) (zG σ _) (by simp only [pwA,seval,-iQ0];rfl) (Nat.le_refl _) (ZI _ _) hcap.ok fun o=>hk _ ⟨true,.sl o 0 v.length cap,by rw [hln]⟩
 have hlt2:i<w.length:=by omega
 have e1:=zCu hln hlt;have c1:=hw.bd i;have c2:=hv.bd i;rw [at_eq hlt2]at c1
 rw [at_eq hlt]at c2
 have hlen:i+1≤((vstep p c w v).take i++v.drop i).length:=by simp;omega
 have hb:=sm7 (a:=c) (b:=w[i]) hc (by omega)
 have ew1:IntKind.i64.wrap (c*w[i])=c*w[i]:=wrap64 (by omega) (by omega)
 have ew2:IntKind.i64.wrap (v[i] + c*w[i])=v[i] + c*w[i]:=wrap64 (by omega) (by omega)
 simp only [pwA,seval,-iQ0,hlt,hlt2,qO,qY,gi hlt2,e1,hlen,ew1,ew2];refine zDJ (by omega) (by omega) ?_
 simp only [pwA,seval,-iQ0,hlt,hlen,qY,wrapS hlt (by omega:v.length≤4611686018427387904)]
 refine⟨_,by omega,i+1,by omega,rfl,rfl,?_⟩
 rw [Zm (by simp;omega)]
 have hiv:i<(vstep p c w v).length:=by omega
 have hget:(vstep p c w v)[i]=(v[i] + c*w[i]) % p:=zCE (by omega) hlt
 rw [←zCt hln hiv,hget]
theorem zGQ {c:Int} {v:List Int}:vstep p c v (List.replicate v.length 0)=scl p c v:=by
 refine zAG (by rw [qB (by simp),Zl];simp) fun j hj=>?_
 rw [qB (by simp),List.length_replicate]at hj
 rw [ZO (by simp) (by simpa using hj),Za,zCi,Int.zero_add,Int.mul_comm]
theorem zFl {c:Int} (hp:2≤p∧p≤7) (hc:-7≤c∧c≤7) (hv:Ve p n v) (hn:n≤1048576) (hvv:FI vv v) (hk:∀z,FI z (scl p c v)→K z σ):
  zA Try.prog 87 [.int .i64 p,.int .i64 c,vv] σ K:=by
 have hvl:=hv.len;have hvv0:=hvv;obtain⟨wv,av,rfl⟩:=hvv;refine zA.gh ?_;refine zB mix Try.func87 ?_
 conv=>arg 2;cbv
 refine zC rfl ?_;simp only [pwA,seval,-iQ0,List.length_replicate,zBQ,mk8 (n:=v.length) (by omega),mkL (n:=v.length) (by omega)]
 refine zA.frz (s:=σ.next) (cs:=pis (List.replicate v.length 0)) (by simp only [pwA,seval,-iQ0]) (ZI _ _) fun o=>?_
 simp only [sbs,sb,capOK,and_self,if_true,decide_true,Nat.le_refl];refine zB2 hp hc (n:=v.length) (v:=List.replicate v.length 0) (w:=v) (zI9 (by omega)) (by rw [hvl];exact hv) (by omega) ⟨true,_,by rw [List.length_replicate]⟩ hvv0 fun z hz=>?_
 simp only [pwA,seval,-iQ0];rw [zGQ]at hz
 refine Gh.fin0 ?_ (hz.bel _) (hk z hz);exact(zG σ _).kill (Nat.le_refl _)
theorem zAa {l:Nat} {w:Bool} {a:AV} {xs:List Int} (hl:l=xs.length) (hb:xs.length≤1048576) (hk:K (.int .i64 (dep xs)) σ):zA Try.prog 93 [.fz w a l (pis xs)] σ K:=by
 subst hl;refine zB mix Try.func93 ?_
 conv=>arg 2;cbv
 refine zC rfl ?_;simp only [pwA,seval,-iQ0];refine zM (fun m vs h'=>∃i:Nat,i≤dep xs∧m=dep xs-i∧vs=[.fz w a xs.length (pis xs),.int .i64 i]∧σ=h') (dep xs) ?_ ?_
 ·exact⟨0,by omega,by omega,rfl,rfl⟩
 rintro m vs h' ⟨i,hi,rfl,rfl,rfl⟩
 have hdl:=zCf xs
 by_cases hlt:i<xs.length
 ·simp only [pwA,seval,-iQ0,hlt,qO,gi hlt]
  by_cases h0:xs[i]=0
  ·have hid:i<dep xs:=by
    rcases Nat.lt_or_ge i (dep xs)with x|x
    ·exact x
    ·have:i=dep xs:=by omega
     subst this;exact absurd (by rw [at_eq hlt];exact h0) (QC hlt)
   simp only [pwA,seval,-iQ0,h0,wrapS hlt (by omega:xs.length≤4611686018427387904)]
   exact⟨_,by omega,i+1,by omega,rfl,rfl⟩
  ·have hid:i=dep xs:=by
    rcases Nat.lt_or_ge i (dep xs)with x|x
    ·exact absurd (by rw [←at_eq hlt];exact qX x) h0
    ·omega
   subst hid;simp only [pwA,seval,-iQ0,h0];exact hk
 ·have hid:i=dep xs:=by omega
  have hxe:xs.length=dep xs:=by omega
  simp only [pwA,seval,-iQ0,hlt];rw [hxe];exact hk
theorem zFm (hp:isP p) (hu:∀r∈u,Led p n r) (hul:u.length≤1048576) (hx:El p n x) (hn:n≤1048576) (hvu:FII vu u) (hvx:FI vx x) (hk:∀z,FI z (redL p (W0 n) u x)→K z σ):
  zA Try.prog 92 [.int .i64 p,vu,vx] σ K:=by
 have hpb:=hp.bd;have o:=W0_ok hpb n;obtain⟨wu,au,ru,rfl,hru⟩:=hvu;have hxl:=hx.1;obtain⟨wx,ax,rfl⟩:=hvx;refine zB mix Try.func92 ?_
 conv=>arg 2;cbv
 refine zC rfl ?_;simp only [pwA,seval,-iQ0];refine zIc rfl (by omega) fun a0=>?_
 simp only [pwA,seval,-iQ0];refine zM (fun m vs h'=>∃(i:Nat) (y:List Int) (vy:PV),i≤u.length∧m=u.length-i∧vs=[.int .i64 p,.fz wu au u.length ru,vy,.int .i64 i]∧σ=h'∧FI vy y∧El p n y∧redL p (W0 n) (u.drop i) y=redL p (W0 n) u x) u.length ?_ ?_
 ·exact⟨0,x,_,by omega,by omega,rfl,rfl,⟨true,a0,rfl⟩,hx,by rw [List.drop_zero]⟩
 rintro m vs h' ⟨i,y,vy,hi,rfl,rfl,rfl,hvy,hy,he⟩
 by_cases hlt:i<u.length
 rotate_left
 ·rw [List.drop_eq_nil_of_le (by omega)]at he
  simp only [pwA,seval,-iQ0,hlt];refine hk _ ?_;rw [←he];exact hvy
 obtain⟨w4,a4,hr⟩:=hru.rowI hlt;have hL:=hu _ (List.getElem_mem hlt);have hd:=hL.2.1;have hrl:=hL.1.1;have hyl:=hy.1;have hvy0:=hvy;obtain⟨wy,ay,rfl⟩:=hvy;rw [List.drop_eq_getElem_cons hlt]at he
 simp only [pwA,seval,-iQ0,hlt,hr];refine zAa rfl (by omega) ?_
 have hdy:dep u[i] < y.length:=by omega
 simp only [pwA,seval,-iQ0,hdy,qO,gi hdy];have hred:red1 p (W0 n) y u[i]=vstep p (p-y[dep u[i]]) u[i] y:=by
  rw [zL8 hpb hyl hrl,at_eq hdy];refine zAG (by rw [qB (by omega),qB (by omega)]) fun j hj=>?_
  rw [qB (by omega)]at hj
  rw [ZO (by omega) hj,ZO (by omega) hj]
  have:y[dep u[i]] * at_ u[i] j=y[dep u[i]] * at_ u[i] j:=rfl
  rw [show at_ y j+(p-y[dep u[i]])*at_ u[i] j=(at_ y j + -y[dep u[i]] * at_ u[i] j)+p*at_ u[i] j by grind,Int.add_mul_emod_self_left]
 have hyb:=hy.at0 o (dep u[i]);rw [at_eq hdy]at hyb
 by_cases h0:y[dep u[i]]=0
 ·simp only [pwA,seval,-iQ0,h0,wrapS hlt (by omega:u.length≤4611686018427387904)]
  refine⟨_,by omega,i+1,y,_,by omega,rfl,rfl,hvy0,hy,?_⟩
  rw [←he];show _=redL p (W0 n) (u.drop (i+1)) (red1 p (W0 n) y u[i]);rw [zHk o hy hL.1 (by rw [at_eq hdy];exact h0)]
 ·have hw1:IntKind.i64.wrap (p-y[dep u[i]])=p-y[dep u[i]]:=wrap64 (by omega) (by omega)
  simp only [pwA,seval,-iQ0,h0,hlt,hr,hdy,qO,gi hdy,hw1];refine zB2 hpb (by omega) (el_ve (by omega) hy) (el_ve (by omega) hL.1) hn hvy0 ⟨w4,a4,rfl⟩ fun z hz=>?_
  simp only [pwA,seval,-iQ0,wrapS hlt (by omega:u.length≤4611686018427387904)]
  refine⟨_,by omega,i+1,_,z,by omega,rfl,rfl,hz,?_,?_⟩
  ·rw [←hred];exact zBO o hy hL.1
  ·rw [←he,←hred];rfl
end Go.Proofs
namespace Go.Grp
end Go.Grp
namespace Go.Proofs
open Go.Ab Go.Lie Go.Grp Go.Mx
variable {σ:PHeap} {K:PV→PHeap→Prop} {p:Int} {n:Nat} {v w x y xs ys:List Int} {A M L u l:List (List Int)} {vA vM vv vw vx vu v0 vL:PV}
theorem zDK:∀{l:List (List Int)} {a y:List Int},(∃o∈l,¬dep o<dep y)→insD (l++[a]) y=insD l y++[a]
 | [],a,y,h=>by obtain⟨o,ho,_⟩:=h;cases ho
 | v::l,a,y,h=>by
  simp only [List.cons_append,insD]
  split
  ·rename_i hv
   obtain⟨o,ho,hn⟩:=h;rcases List.mem_cons.1 ho with rfl|ho
   ·exact absurd hv hn
   ·rw [zDK ⟨o,ho,hn⟩];rfl
  ·rfl
theorem zEc:∀{l:List (List Int)} {y:List Int},(∀o∈l,dep o<dep y)→insD l y=l++[y]
 | [],y,_=>rfl
 | v::l,y,h=>by
  simp only [insD];rw [if_pos (h v (by simp)),zEc fun o ho=>h o (by simp [ho])]
  simp
theorem zDL:∀{l:List (List Int)} {a y:List Int},(∀o∈l,dep o<dep y)→¬dep a<dep y→insD (l++[a]) y=(l++[y])++[a]
 | [],a,y,_,h=>by simp only [List.nil_append,insD];rw [if_neg h];rfl
 | v::l,a,y,hl,h=>by
  simp only [List.cons_append,insD];rw [if_pos (hl v (by simp)),zDL (fun o ho=>hl o (by simp [ho])) h]
def part (g:List (List Int)) (y:List Int) (b:Bool):List (List Int):=if b then insD g y else g
theorem zEK {g:List (List Int)} {y:List Int} {b:Bool}:(part g y b).length=g.length+b.toNat:=by
 cases b<;>simp [part,Q3]
theorem zA3 (hp:isP p) (hL:∀r∈L,El p n r) (hll:L.length≤64) (hn:n≤64) (hvL:FII vL L) (hk:∀z u,FII z u→Canon p n (W0 n) L u→K z σ):
  zA Try.prog 54 [.int .i64 p,vL] σ K:=by
 have hpb:=hp.bd;have o:=W0_ok hpb n;obtain⟨wL,aL,rL,rfl,hrL⟩:=hvL;refine zA.gh ?_;refine zB mix Try.func54 ?_
 conv=>arg 2;cbv
 refine zC rfl ?_;simp only [pwA,seval,-iQ0];refine zI7 (fun m vs h'=>∃(i:Nat) (u:List (List Int)) (vu:PV),i≤L.length∧m=L.length-i∧vs=[.int .i64 p,.fz wL aL L.length rL,vu,.int .i64 i]∧Keep σ h'∧FII vu u∧Canon p n (W0 n) (L.take i) u) L.length ?_ ?_
 ·refine .fz σ.next [] (by simp only [pwA,seval,-iQ0]) trivial fun o1=>.here ⟨0,[],.fz true (.sl o1 0 0 (.known 0)) 0 [],by omega,by omega,?_,(zG σ _).kill (Nat.le_refl _),⟨_,_,_,rfl,All2.nil _⟩,by rw [List.take_zero];exact zAL⟩
  simp only [pwA,seval,-iQ0];simp only [sbs,sb,capOK,and_self,if_true,decide_true,Nat.le_refl];rfl
 rintro m vs h' ⟨i,u,vu,hi,rfl,rfl,hkp,hu,hc⟩
 simp only [pwA,seval,-iQ0];refine iteI (fun hlt=>?_) fun hge=>?_
 rotate_left
 ·have hie:i=L.length:=by omega
  subst hie;rw [List.take_length]at hc
  exact Gh.fin0 hkp (hu.bel _) (hk _ _ hu hc)
 obtain⟨w4,a4,hr⟩:=hrL.rowI hlt;have hx:=hL _ (List.getElem_mem hlt);have hul:u.length≤64:=by
  have:=hc.len;omega
 have hlp:∀{M:List (List Int)},L.take i++[L[i]]=M→L.take (i+1)=M:=fun h=>by rw [←h,List.take_succ_eq_append_getElem hlt]
 have hll2:(L.length:Int)≤4611686018427387904:=by omega
 simp only [pwA,seval,-iQ0,hlt,hr];refine zFm hp hc.base.led (by omega) hx (by omega) hu ⟨w4,a4,rfl⟩ fun z hz=>?_
 have hre:=zAA o hc.base.els hx;have hrl:=hre.1;have hput:=fun k=>hc.put hpb hx (k:=k)
 have hskip:=hc.skip0 hpb hx;have hb0:=hre.at0 o;generalize hrr:redL p (W0 n) u L[i]=r at *
 have hz0:=hz;obtain⟨wz,az,rfl⟩:=hz;simp only [pwA,seval,-iQ0];refine zAa rfl (by omega) ?_
 have hdl:=zCf r
 by_cases hd:dep r=r.length
 ·have hd':(dep r:Int)=(r.length:Int):=by omega
  simp only [pwA,seval,-iQ0,hd',wrapS hlt (by omega:L.length≤4611686018427387904)]
  refine⟨_,by omega,.here ⟨i+1,u,_,by omega,rfl,rfl,hkp,hu,?_⟩⟩
  rw [List.take_succ_eq_append_getElem hlt];exact hskip (by omega)
 have hdn:dep r<r.length:=by omega
 have hd':¬(dep r:Int)=(r.length:Int):=by omega
 have hne:=QC hdn;have hbd:=hb0 (dep r);rw [at_eq hdn]at hne hbd
 simp only [pwA,seval,-iQ0,hd',hdn,qO,gi hdn];refine zIe hp (by omega) fun k hk1 hk2 hk3=>?_
 simp only [pwA,seval,-iQ0];refine zFl hpb (by omega) (el_ve (by omega) hre) (by omega) hz0 fun zy hzy=>?_
 obtain⟨c1,c2,c3,c4⟩:=hput k (by omega) (by rw [at_eq hdn];exact hk3)
 generalize hyy:scl p k r=y at *
 have hyl:=c3.1.1;have hzy0:=hzy;obtain⟨wy,ay,rfl⟩:=hzy;have hu0:=hu;obtain⟨wu,au,ru,rfl,hru⟩:=hu;generalize hg:u.map (gOff p y)=g at c1
 have hgl:g.length=u.length:=by rw [←hg,List.length_map]
 have hgat:∀j (h:j<u.length),g[j]'(by omega)=gOff p y u[j]:=fun j h=>by simp [←hg]
 have hgd:∀j (h:j<u.length),dep (g[j]'(by omega))=dep u[j]:=fun j h=>by
  rw [hgat j h];exact(zEj hpb c3 (hc.base.led _ (List.getElem_mem h)) (by rw [c2];exact c4 _ (List.getElem_mem h))).2
 simp only [pwA,seval,-iQ0];have hkn:=zG h' [];refine zM (fun m vs h2=>∃(j:Nat) (b:Bool) (vN:PV) (rows:List PV),j≤u.length∧m=u.length-j∧vs=[.int .i64 p,.fz wL aL L.length rL,.fz wu au u.length ru,.int .i64 i,.fz wy ay y.length (pis y),.int .i64 (dep r),vN,.bool b,.int .i64 j]∧Keep σ h2∧PSl σ.next 1 h2 vN (part (g.take j) y b).length rows∧All2 FI rows (part (g.take j) y b)∧(b=true→∃q∈g.take j,¬dep q<dep y)∧(b=false→∀q∈g.take j,dep q<dep y)) u.length ?_ ?_
 ·refine⟨0,false,_,[],by omega,by omega,rfl,hkp.new _,?_,by rw [List.take_zero];exact All2.nil _,fun h=>(by cases h),fun _ q hq=>(by rw [List.take_zero]at hq;cases hq)⟩
  rw [List.take_zero];exact PSl.new _ 1 rfl hkp.next
 rintro m vs h2 ⟨j,b,vN,rows,hj,rfl,rfl,hkp2,ha,hall,hb1,hb2⟩
 have hpl:(part (g.take j) y b).length≤65:=by rw [zEK,List.length_take];cases b<;>simp<;>omega
 have hpl1:(part (g.take j) y b).length=min j g.length+b.toNat:=by rw [zEK,List.length_take]
 by_cases hlj:j<u.length
 rotate_left
 ·have hje:j=u.length:=by omega
  subst hje;have ht:g.take u.length=g:=by rw [←hgl];exact List.take_length
  rw [ht]at ha hall hb1 hb2 hpl
  have fin:∀{vF:PV} {h3:PHeap} {rs:List PV},Keep σ h3→PSl σ.next 1 h3 vF (insD g y).length rs→All2 FI rs (insD g y)→∃m',m'<L.length-i∧GL (fun vs h'=>∃(i:Nat) (u:List (List Int)) (vu:PV),i≤L.length∧m'=L.length-i∧vs=[.int .i64 p,.fz wL aL L.length rL,vu,.int .i64 i]∧Keep σ h'∧FII vu u∧Canon p n (W0 n) (L.take i) u) [.int .i64 p,.fz wL aL L.length rL,vF,.int .i64 ((i+1:Nat):Int)] h3:=fun {vF h3 rs} k3 a3 all3=>by
   obtain⟨s,cap,rfl,hcap,q2,q3,q4,q5⟩:=a3;refine⟨L.length-(i+1),by omega,.fz s rs q2 (all3.bI 0) fun o2=>.here ⟨i+1,insD g y,_,by omega,rfl,?_,k3.kill q4,⟨true,.sl o2 0 (insD g y).length cap,rs,rfl,all3⟩,by rw [List.take_succ_eq_append_getElem hlt];exact c1⟩⟩
   simp only [sbs,sb,hcap.ok,and_self,if_true]
  cases b with
  | true=>
   simp only [part,if_true]at ha hall
   simp only [pwA,seval,-iQ0,hlj,wrapS hlt (by omega:L.length≤4611686018427387904)]
   exact fin hkp2 ha hall
  | false=>
   simp only [part,Bool.false_eq_true,if_false]at ha hall hpl
   simp only [pwA,seval,-iQ0,hlj];refine PSl.push (bytes:=24) hkp2 ha (by omega) (by omega) fun v' h3 k3 a3=>?_
   simp only [pwA,seval,-iQ0,wrapS hlt (by omega:L.length≤4611686018427387904)]
   have e:=zEc (l:=g) (y:=y) fun q hq=>hb2 rfl q hq
   exact fin k3 (by rw [e,List.length_append];exact a3) (by rw [e];exact hall.snoc hzy0)
 obtain⟨w5,a5,hr5⟩:=hru.rowI hlj;have hL5:=hc.base.led _ (List.getElem_mem hlj);have hl5:=hL5.1.1;have hd5:dep r<u[j].length:=by omega
 have hb5:=hL5.1.at0 o (dep r);rw [at_eq hd5]at hb5
 have hw5:IntKind.i64.wrap (p-u[j][dep r])=p-u[j][dep r]:=wrap64 (by omega) (by omega)
 have hne5:=c4 _ (List.getElem_mem hlj);have hgo:gOff p y u[j]=vstep p (p-u[j][dep r]) y u[j]:=by unfold gOff;rw [c2,at_eq hd5]
 have htk:g.take (j+1)=g.take j++[gOff p y u[j]]:=by rw [List.take_succ_eq_append_getElem (by omega),hgat j hlj]
 have hdd:=hgd j hlj;rw [hgat j hlj]at hdd
 -- what follows once the row stands: one more
 have rest:∀{vN:PV} {h2:PHeap} {rows:List PV} {N:List (List Int)} (b':Bool),N++[gOff p y u[j]]=part (g.take (j+1)) y b'→(b'=true→∃q∈g.take (j+1),¬dep q<dep y)→(b'=false→∀q∈g.take (j+1),dep q<dep y)→All2 FI rows N→
   ∀z,FI z (gOff p y u[j])→Keep σ h2→PSl σ.next 1 h2 vN (N.length+1) (rows++[z])→∃m',m'<u.length-j∧∃(j':Nat) (b:Bool) (vN':PV) (rows:List PV),j'≤u.length∧m'=u.length-j'∧[PV.int .i64 p,.fz wL aL L.length rL,.fz wu au u.length ru,.int .i64 i,.fz wy ay y.length (pis y),.int .i64 (dep r),vN,.bool b',.int .i64 ((j+1:Nat):Int)]=[.int .i64 p,.fz wL aL L.length rL,.fz wu au u.length ru,.int .i64 i,.fz wy ay y.length (pis y),.int .i64 (dep r),vN',.bool b,.int .i64 j']∧Keep σ h2∧PSl σ.next 1 h2 vN' (part (g.take j') y b).length rows∧All2 FI rows (part (g.take j') y b)∧(b=true→∃q∈g.take j',¬dep q<dep y)∧(b=false→∀q∈g.take j',dep q<dep y):=by
  intro vN h2 rows N b' he h1' h2' all2 z hz k3 a3;refine⟨_,by omega,j+1,b',vN,rows++[z],by omega,rfl,rfl,k3,?_,?_,h1',h2'⟩
  ·rw [←he,List.length_append];exact a3
  ·rw [←he];exact all2.snoc hz
 have hcall:∀{h3:PHeap} {K':PV→PHeap→Prop},(∀z,FI z (gOff p y u[j])→K' z h3)→zA Try.prog 95 [.int .i64 p,.fz w5 a5 u[j].length (pis u[j]),.int .i64 (p-u[j][dep r]),.fz wy ay y.length (pis y)] h3 K':=fun {h3 K'} k'=>
  zB2 hpb (by omega) (el_ve (by omega) hL5.1) (el_ve (by omega) c3.1) (by omega) ⟨w5,a5,rfl⟩ hzy0 fun z hz=>k' z (by rw [hgo];exact hz)
 have hin:gOff p y u[j]∈g.take (j+1):=by rw [htk];simp
 cases b with
 | true=>
  simp only [part,if_true]at ha hall hpl
  obtain⟨q,hq,hqd⟩:=hb1 rfl;simp only [pwA,seval,-iQ0,hlj,hr5,qO,hd5,gi hd5,hw5];refine hcall fun z hz=>?_
  have hz0:=hz;obtain⟨wq,aq,rfl⟩:=hz;simp only [pwA,seval,-iQ0];refine PSl.push (bytes:=24) hkp2 ha (by omega) (by omega) fun v' h3 k3 a3=>?_
  simp only [pwA,seval,-iQ0,wrapS hlj (by omega:u.length≤4611686018427387904)]
  exact rest true (by simp only [part,if_true];rw [htk,zDK ⟨q,hq,hqd⟩]) (fun _=>⟨q,by rw [htk];exact List.mem_append_left _ hq,hqd⟩) (fun h=>by cases h) hall _ hz0 k3 a3
 | false=>
  simp only [part,Bool.false_eq_true,if_false]at ha hall hpl
  simp only [pwA,seval,-iQ0,hlj,hr5];refine zAa rfl (by omega) ?_
  by_cases hlt5:dep u[j] < dep y
  ·have h5':¬(dep r:Int)<(dep u[j]:Int):=by omega
   simp only [pwA,seval,-iQ0,h5',hlj,hr5,qO,hd5,gi hd5,hw5];refine hcall fun z hz=>?_
   have hz0:=hz;obtain⟨wq,aq,rfl⟩:=hz;simp only [pwA,seval,-iQ0];refine PSl.push (bytes:=24) hkp2 ha (by omega) (by omega) fun v' h3 k3 a3=>?_
   simp only [pwA,seval,-iQ0,wrapS hlj (by omega:u.length≤4611686018427387904)]
   exact rest false (by simp only [part,Bool.false_eq_true,if_false];rw [htk]) (fun h=>by cases h) (fun _ q hq=>by
    rw [htk]at hq
    rcases List.mem_append.1 hq with hq|hq
    ·exact hb2 rfl q hq
    ·rw [List.mem_singleton.1 hq,hdd];exact hlt5) hall _ hz0 k3 a3
  ·have h5':(dep r:Int)<(dep u[j]:Int):=by omega
   simp only [pwA,seval,-iQ0,h5',hlj];refine PSl.push (bytes:=24) hkp2 ha (by omega) (by omega) fun v' h3 k3 a3=>?_
   simp only [pwA,seval,-iQ0,hlj,hr5,qO,hd5,gi hd5,hw5];refine hcall fun z hz=>?_
   have hz0:=hz;obtain⟨wq,aq,rfl⟩:=hz;simp only [pwA,seval,-iQ0];refine PSl.push (bytes:=24) k3 a3 (by omega) (by omega) fun v4 h4 k4 a4=>?_
   simp only [pwA,seval,-iQ0,wrapS hlj (by omega:u.length≤4611686018427387904)]
   refine rest (N:=g.take j++[y]) true (by simp only [part,if_true];rw [htk,zDL (fun q hq=>hb2 rfl q hq) (by rw [hdd];exact hlt5)]) (fun _=>⟨_,hin,by rw [hdd];exact hlt5⟩) (fun h=>by cases h) (hall.snoc hzy0) _ hz0 k4 (by rw [List.length_append];exact a4)
end Go.Proofs
namespace Go.Grp
end Go.Grp
namespace Go.Proofs
open Go.Ab Go.Lie Go.Grp Go.Mx
variable {σ h:PHeap} {K:PV→PHeap→Prop} {p:Int} {n s0:Nat} {A L X u:List (List Int)} {vA vL:PV} {rows:List SR}
theorem zCD {h:PHeap} {t i:Nat} {cs:List PV} {v:PV} (ho:h.obj t=some cs) (hi:i<cs.length) (hv:v.one=true):h.wr t i [v]=some (h.set t (cs.set i v)):=by
 rw [zCS ho,if_pos ⟨by simp;omega,by simp [hv]⟩]
 congr 2
 rw [List.append_assoc];exact take_set cs hi v
theorem zA2 {α β:Type} (f:α→β) {xs:List α} {i:Nat} {x y:α} (hx:xs[i]? = some x) (e:f y=f x):(xs.set i y).map f=xs.map f:=by
 rw [List.map_set,e];refine List.ext_getElem? fun j=>?_
 rw [List.getElem?_set]
 split
 ·rename_i e2
  subst e2;rw [List.getElem?_map,hx]
  split
  ·rfl
  ·rename_i e3
   have:=(List.getElem?_eq_some_iff.1 hx).1
   simp only [List.length_map]at e3
   omega
 ·rfl
structure RM (σ h:PHeap) (s0:Nat) (rows:List SR):Prop where
 keep:Keep σ h
 obj:h.obj s0=some (rows.map SR.pv)
 lo:σ.next≤s0
 lt:s0<h.next
 ok:∀q∈rows,q.ok h σ.next
 nd:(qz rows).Nodup
 ne:s0∉qz rows
theorem zDq (nd:(qz rows).Nodup) {i j:Nat} (hi:i<rows.length) (hj:j<rows.length) (e:rows[i].s=rows[j].s):i=j:=by
 have:=(List.getElem_inj (xs:=qz rows) (i:=i) (j:=j) (h₀:=by simpa [qz]using hi) (h₁:=by simpa [qz]using hj) nd).1 (by simpa [qz]using e)
 exact this
theorem RM.put (a:RM σ h s0 rows) {i:Nat} (hi:i<rows.length) {x:List Int} (hx:x.length=rows[i].x.length):RM σ (h.set rows[i].s (pis x)) s0 (rows.set i ⟨rows[i].s,rows[i].cap,x⟩):=by
 have hm:=List.getElem_mem hi;obtain⟨g1,g2,g3,g4⟩:=a.ok _ hm;have hne:s0≠rows[i].s:=fun e=>a.ne (List.mem_map.2 ⟨_,hm,e.symm⟩)
 have hsl:qz (rows.set i ⟨rows[i].s,rows[i].cap,x⟩)=qz rows:=zA2 SR.s (List.getElem?_eq_getElem hi) rfl;have hpv:(rows.set i ⟨rows[i].s,rows[i].cap,x⟩).map SR.pv=rows.map SR.pv:=zA2 SR.pv (List.getElem?_eq_getElem hi) (by show PV.sl _ 0 x.length _=PV.sl _ 0 rows[i].x.length _;rw [hx])
 refine⟨a.keep.set g3 _,by rw [ZR,if_neg hne,hpv];exact a.obj,a.lo,a.lt,fun q hq=>?_,by rw [hsl];exact a.nd,by rw [hsl];exact a.ne⟩
 obtain⟨j,hj,rfl⟩:=List.mem_iff_getElem.1 hq;rw [List.length_set]at hj
 rw [List.getElem_set]
 split
 ·exact⟨by show full 1 rows[i].cap x.length;rw [hx];exact g1,by rw [ZR,if_pos rfl],g3,g4⟩
 ·rename_i e
  obtain⟨f1,f2,f3,f4⟩:=a.ok _ (List.getElem_mem hj);exact⟨f1,by rw [ZR,if_neg fun e2=>e (zDq a.nd hi hj e2.symm)];exact f2,f3,f4⟩
theorem RM.swap (a:RM σ h s0 rows) {i j:Nat} (hi:i<rows.length) (hj:j<rows.length):RM σ (h.set s0 (((rows.set i rows[j]).set j rows[i]).map SR.pv)) s0 ((rows.set i rows[j]).set j rows[i]):=by
 have hp:=List.set_set_perm hi hj;have hne:∀q∈rows,q.s≠s0:=fun q hq e=>a.ne (List.mem_map.2 ⟨q,hq,e⟩)
 refine⟨a.keep.set a.lo _,by rw [ZR,if_pos rfl],a.lo,a.lt,fun q hq=>?_,((hp.map SR.s).nodup_iff).2 a.nd,fun hm=>a.ne ((hp.map SR.s).mem_iff.1 hm)⟩
 have hq':=hp.mem_iff.1 hq;obtain⟨f1,f2,f3,f4⟩:=a.ok _ hq';exact⟨f1,by rw [ZR,if_neg (hne q hq')];exact f2,f3,f4⟩
def RX (σ h:PHeap) (s0:Nat) (X:List (List Int)):Prop:=∃rows,RM σ h s0 rows∧rows.map SR.x=X
theorem RX.get (a:RX σ h s0 X) {i:Nat} (hi:i<X.length):∃s cap,h.rd1 s0 i=some (.sl s 0 X[i].length cap)∧h.obj s=some (pis X[i])∧full 1 cap X[i].length∧s≠s0∧s<h.next∧∀x:List Int,x.length=X[i].length→RX σ (h.set s (pis x)) s0 (X.set i x):=by
 obtain⟨rows,a,rfl⟩:=a;rw [List.length_map]at hi
 have hm:=List.getElem_mem hi;obtain⟨g1,g2,g3,g4⟩:=a.ok _ hm;rw [List.getElem_map];refine⟨rows[i].s,rows[i].cap,?_,g2,g1,fun e=>a.ne (List.mem_map.2 ⟨_,hm,e⟩),g4,fun x hx=>⟨_,a.put hi hx,?_⟩⟩
 ·rw [qw a.obj,List.getElem?_map,List.getElem?_eq_getElem hi];rfl
 ·rw [List.map_set]
theorem RX.two (a:RX σ h s0 X) {i j:Nat} (hi:i<X.length) (hj:j<X.length) (hne:i≠j):∃s cap t cap',h.rd1 s0 i=some (.sl s 0 X[i].length cap)∧h.obj s=some (pis X[i])∧h.rd1 s0 j=some (.sl t 0 X[j].length cap')∧h.obj t=some (pis X[j])∧s≠t∧s≠s0∧t≠s0∧∀x:List Int,x.length=X[i].length→RX σ (h.set s (pis x)) s0 (X.set i x):=by
 obtain⟨rows,a,rfl⟩:=a;rw [List.length_map]at hi hj
 obtain⟨g1,g2,g3,g4⟩:=a.ok _ (List.getElem_mem hi);obtain⟨f1,f2,f3,f4⟩:=a.ok _ (List.getElem_mem hj);rw [List.getElem_map,List.getElem_map];refine⟨rows[i].s,rows[i].cap,rows[j].s,rows[j].cap,?_,g2,?_,f2,fun e=>hne (zDq a.nd hi hj e),fun e=>a.ne (List.mem_map.2 ⟨_,List.getElem_mem hi,e⟩),fun e=>a.ne (List.mem_map.2 ⟨_,List.getElem_mem hj,e⟩),fun x hx=>⟨_,a.put hi hx,?_⟩⟩
 ·rw [qw a.obj,List.getElem?_map,List.getElem?_eq_getElem hi];rfl
 ·rw [qw a.obj,List.getElem?_map,List.getElem?_eq_getElem hj];rfl
 ·rw [List.map_set]
theorem RX.swap (a:RX σ h s0 X) {i j:Nat} (hi:i<X.length) (hj:j<X.length):∃s cap t cap' h1 h2,h.rd1 s0 i=some (.sl s 0 X[i].length cap)∧h.rd1 s0 j=some (.sl t 0 X[j].length cap')∧h.wr s0 i [.sl t 0 X[j].length cap']=some h1∧h1.wr s0 j [.sl s 0 X[i].length cap]=some h2∧RX σ h2 s0 ((X.set i X[j]).set j X[i]):=by
 obtain⟨rows,a,rfl⟩:=a;rw [List.length_map]at hi hj
 rw [List.getElem_map,List.getElem_map];refine⟨rows[i].s,rows[i].cap,rows[j].s,rows[j].cap,h.set s0 ((rows.map SR.pv).set i rows[j].pv),h.set s0 (((rows.map SR.pv).set i rows[j].pv).set j rows[i].pv),?_,?_,?_,?_,⟨(rows.set i rows[j]).set j rows[i],?_,?_⟩⟩
 ·rw [qw a.obj,List.getElem?_map,List.getElem?_eq_getElem hi];rfl
 ·rw [qw a.obj,List.getElem?_map,List.getElem?_eq_getElem hj];rfl
 ·exact zCD a.obj (by simpa using hi) rfl
 ·have:=zCD (h:=h.set s0 ((rows.map SR.pv).set i rows[j].pv)) (t:=s0) (i:=j) (v:=rows[i].pv) (by rw [ZR,if_pos rfl]) (by simpa using hj) rfl
  rw [zHc]at this
  exact this
 ·have:=a.swap hi hj
  rw [List.map_set,List.map_set]at this
  exact this
 ·rw [List.map_set,List.map_set]
theorem zBD (hL:∀r∈A,r.length≤1048576) (hll:A.length≤1000) (hvA:FII vA A) (hk:∀v h' rows,Keep σ h'→PAcc σ.next 1 h' v A.length rows→All2 FI rows A→K v h'):zA Try.prog 70 [vA] σ K:=by
 obtain⟨wA,aA,rA,rfl,hrA⟩:=hvA;refine zB mix Try.func70 ?_
 conv=>arg 2;cbv
 refine zC rfl ?_;simp only [pwA,seval,-iQ0];refine zM (fun m vs h'=>∃(i:Nat) (v:PV) (rows:List PV),i≤A.length∧m=A.length-i∧vs=[v,.fz wA aA A.length rA,.int .i64 A.length,.int .i64 i]∧Keep σ h'∧PAcc σ.next 1 h' v i rows∧All2 FI rows (A.take i)) A.length ?_ ?_
 ·exact⟨0,_,[],by omega,by omega,rfl,Keep.refl σ,PAcc.nil _ _ _,by rw [List.take_zero];exact All2.nil _⟩
 rintro m vs h' ⟨i,v,rows,hi,rfl,rfl,hkp,ha,hall⟩
 simp only [pwA,seval,-iQ0];refine iteI (fun hlt=>?_) fun hge=>?_
 rotate_left
 ·have hie:i=A.length:=by omega
  subst hie;rw [List.take_length]at hall
  exact hk _ _ _ hkp ha hall
 obtain⟨w4,a4,hr⟩:=hrA.rowI hlt;simp only [pwA,seval,-iQ0,hlt,hr];refine zA.fzI (fun K' k'=>zE4 rfl (by have:=hL _ (List.getElem_mem hlt);omega) k') fun a5=>?_
 simp only [pwA,seval,-iQ0];refine PAcc.push (bytes:=24) hkp ha (by omega) (by omega) fun v' h2 k2 a2=>?_
 simp only [pwA,seval,-iQ0,wrapS hlt (by omega:A.length≤4611686018427387904)]
 exact⟨_,by omega,i+1,v',rows++[.fz true a5 A[i].length (pis A[i])],by omega,rfl,rfl,k2,a2.acc,by rw [List.take_succ_eq_append_getElem hlt];exact hall.snoc ⟨true,a5,rfl⟩⟩
theorem zFz (hL:∀r∈A,r.length=n) (hn:0<n∧n≤1000) (hll:A.length≤1000) (hvA:FII vA A) (hk:∀v h' rows,RowsI σ h' v rows→rows.map SR.x=A→K v h'):zA Try.prog 70 [vA] σ K:=by
 obtain⟨wA,aA,rA,rfl,hrA⟩:=hvA;refine zB mix Try.func70 ?_
 conv=>arg 2;cbv
 refine zC rfl ?_;simp only [pwA,seval,-iQ0];refine zM (fun m vs h'=>∃(i:Nat) (v:PV) (rows:List SR),i≤A.length∧m=A.length-i∧vs=[v,.fz wA aA A.length rA,.int .i64 A.length,.int .i64 i]∧RowsI σ h' v rows∧rows.map SR.x=A.take i) A.length ?_ ?_
 ·exact⟨0,_,[],by omega,by omega,rfl,RowsI.nil σ,by rw [List.take_zero];rfl⟩
 rintro m vs h' ⟨i,v,rows,hi,rfl,rfl,ha,hall⟩
 simp only [pwA,seval,-iQ0];refine iteI (fun hlt=>?_) fun hge=>?_
 rotate_left
 ·have hie:i=A.length:=by omega
  subst hie;rw [List.take_length]at hall
  exact hk _ _ _ ha hall
 obtain⟨w4,a4,hr⟩:=hrA.rowI hlt;have hl:=hL _ (List.getElem_mem hlt);have hrl:rows.length=i:=by have:=congrArg List.length hall;rw [List.length_map,List.length_take]at this;omega
 simp only [pwA,seval,-iQ0,hlt,hr];refine zE4 rfl (by omega) ⟨fun h0=>by rw [h0]at hl;simp at hl;omega,fun cap hcap=>?_⟩
 simp only [pwA,seval,-iQ0];refine RowsI.push ha (zG _ _) (t:=h'.next) (cap:=cap) (x:=A[i]) (Nat.le_refl _) (Nat.lt_succ_self _) (by rw [Zw,if_pos rfl]) hcap (by omega) fun v' h2 a2 k2 l2=>?_
 simp only [pwA,seval,-iQ0,wrapS hlt (by omega:A.length≤4611686018427387904)]
 exact⟨_,by omega,i+1,v',_,by omega,rfl,rfl,a2,by rw [List.take_succ_eq_append_getElem hlt,List.map_append,hall];rfl⟩
theorem RowsI.rx {v:PV} (a:RowsI σ h v rows) (hpos:0<rows.length):∃s0 cap,v=.sl s0 0 rows.length cap∧full 1 cap rows.length∧RX σ h s0 (rows.map SR.x):=by
 obtain⟨s0,cap,rfl,hf,q2,q3,q4,q5⟩:=a.acc.pos hpos;exact⟨s0,cap,rfl,hf,rows,⟨a.keep,q2,q4,q5,a.ok,a.nd,fun hm=>a.ne s0 hm 0 _ cap rfl⟩,rfl⟩
end Go.Proofs
namespace Go.Grp
end Go.Grp
namespace Go.Proofs
open Go.Ab Go.Lie Go.Grp Go.Mx
variable {σ h:PHeap} {K:PV→PHeap→Prop} {p:Int} {n s0:Nat} {A L X u:List (List Int)} {vA vL:PV} {rows:List SR}
theorem zDm {P:Program} {c:IC} {Q:Exit→PEnv→PHeap→Prop} {e:PEnv} {h:PHeap} (id:Nat) (J:PEnv→PHeap→Prop) (h1:∀Q':Exit→PEnv→PHeap→Prop,(∀e h,J e h→Q' (.exit id) e h)→vp P c Q' e h) (h2:∀e h,J e h→Q (.exit id) e h):vp P c Q e h:=h1 Q h2
theorem zAv {m d:Nat} {cap:Cap} (hf:full 1 cap m) (hd:d≤m):ZK 1 (.sl s0 0 m cap) none (some (.int .i64 d)) (some (.int .i64 d))=some (.sl s0 0 d (.known d)):=by
 have h1:(0:Int)≤(d:Int)∧(d:Int)≤(m:Int):=by omega
 have h2:(0:Int)≤(d:Int)∧(d:Int)≤(d:Int):=by omega
 rcases hf with rfl|rfl
 ·rw [zHv]
  simp [zl,ZL,h1,h2]
 ·rw [zAu]
  simp [zl,ZL,h1,h2]
theorem zAg (hp:isP p) (hL:∀r∈L,El p n r) (hn:0<n∧n≤64) (hll:0<L.length∧L.length≤64) (hvL:FII vL L)
  (hk:∀s0 d X h',RX σ h' s0 X→X.length=L.length→d≤X.length→Canon p n (W0 n) L (X.take d)→K (.sl s0 0 d (.known d)) h'):
  zA Try.prog 101 [.int .i64 p,vL] σ K:=by
 have hpb:=hp.bd;have hq:pr7 p:=hp;have o:=W0_ok hpb n;refine zB mix Try.func101 ?_
 conv=>arg 2;cbv
 refine zC rfl ?_;simp only [pwA,seval,-iQ0];refine zFz (n:=n) (fun r hr=>(hL r hr).1) ⟨hn.1,by omega⟩ (by omega) hvL fun v h0 rows ha hX=>?_
 have hrl:rows.length=L.length:=by rw [←hX,List.length_map]
 obtain⟨s0,cap,rfl,hf,rx⟩:=RowsI.rx ha (by omega)
 rw [hrl]at hf ⊢
 rw [hX]at rx
 simp only [pwA,seval,-iQ0];refine zM (fun m vs h'=>∃(c d:Nat) (X:List (List Int)),m=n-c∧vs=[.int .i64 p,.sl s0 0 L.length cap,.int .i64 d,.int .i64 c]∧RX σ h' s0 X∧X.length=L.length∧Ech p n L X d c) n ?_ ?_
 ·exact⟨0,0,L,by omega,rfl,rx,rfl,Ech.start hL⟩
 clear rx ha hX hrl
 rintro m vs h' ⟨c,d,X,rfl,rfl,rx,hXl,he⟩
 have hcn:=he.cn;have hdl:=he.dl;have hXn:∀i (hi:i<X.length),X[i].length=n:=fun i hi=>(he.el _ (List.getElem_mem hi)).1
 obtain⟨s1,cap1,q1,q2,q3,q4,q5,q6⟩:=rx.get (i:=0) (by omega)
 rw [hXn]at q1
 have hpos:(0:Int)<(L.length:Int):=by omega
 have fin:c=n∨d=X.length→K (.sl s0 0 d (.known d)) h':=fun hcd=>hk s0 d X h' rx hXl hdl (he.done hcd)
 have hsl:=zAv (s0:=s0) hf (d:=d) (by omega)
 by_cases hc:c<n
 rotate_left
 ·have hce:c=n:=by omega
  simp only [pwA,seval,-iQ0,hpos,q1,hc,decide_false,hsl];exact fin (.inl hce)
 by_cases hd:d<L.length
 rotate_left
 ·have hde:d=X.length:=by omega
  simp only [pwA,seval,-iQ0,hpos,q1,hc,hd,decide_true,decide_false,hsl];exact fin (.inr hde)
 clear fin;have wc1:IntKind.i64.wrap ((c:Int)+1)=((c+1:Nat):Int):=by rw [wrap64 (by omega) (by omega)];omega
 simp only [pwA,seval,-iQ0,hpos,q1,hc,hd,decide_true];have row0:∀k (hk:k<X.length) j (hj:j<X[k].length),at_ (row X k) j=X[k][j]:=fun k hk j hj=>by rw [qC hk,at_eq hj]
 refine zDm 2 (fun e h=>∃(t:Nat) (b0:PV),e=PEnv.mk [0,1,5,6,7,47] [.int .i64 p,.sl s0 0 L.length cap,.int .i64 d,.int .i64 c,.int .i64 t,b0]∧h=h'∧d≤t∧t≤L.length∧(∀k,d≤k→k<t→at_ (row X k) c=0)∧(t<L.length→at_ (row X t) c≠0)) (fun Q2 hQ2=>?_) ?_
 ·refine zM (fun m us h=>∃t:Nat,m=L.length-t∧us=[.int .i64 p,.sl s0 0 L.length cap,.int .i64 d,.int .i64 c,.int .i64 t]∧h=h'∧d≤t∧t≤L.length∧∀k,d≤k→k<t→at_ (row X k) c=0) (L.length-d) ⟨d,rfl,rfl,rfl,Nat.le_refl _,by omega,fun k h1 h2=>by omega⟩ ?_
  rintro m us h ⟨t,rfl,rfl,rfl,hdt,htl,hz⟩
  by_cases hlt:t<L.length
  rotate_left
  ·simp only [pwA,seval,-iQ0,hlt,decide_false]
   exact hQ2 _ _ ⟨t,_,rfl,rfl,hdt,htl,hz,fun g=>absurd g hlt⟩
  have htX:t<X.length:=by omega
  obtain⟨s2,cap2,r1,r2,r3,r4,r5,r6⟩:=rx.get htX;rw [hXn]at r1
  have hcr:c<X[t].length:=by rw [hXn];exact hc
  have r7:h.rd1 s2 c=some (.int .i64 X[t][c]):=by rw [qw r2,qO,gi hcr];rfl
  have hat:=row0 t htX c hcr
  by_cases h0:X[t][c]=0
  ·simp only [pwA,seval,-iQ0,hlt,decide_true,r1,hc,r7,h0,wrapS hlt (by omega:L.length≤4611686018427387904)]
   refine⟨_,by omega,t+1,rfl,rfl,by omega,by omega,fun k h1 h2=>?_⟩
   by_cases hk:k=t
   ·rw [hk,hat,h0]
   ·exact hz k h1 (by omega)
  ·simp only [pwA,seval,-iQ0,hlt,decide_true,r1,hc,r7,h0,decide_false]
   exact hQ2 _ _ ⟨t,_,rfl,rfl,hdt,htl,hz,fun _=>by rw [hat];exact h0⟩
 rintro e h ⟨t,b0,rfl,rfl,hdt,htl,hz,hnz⟩
 simp only [pwA,seval,-iQ0]
 by_cases hlt:t<L.length
 rotate_left
 ·have hte:(t:Int)=(L.length:Int):=by omega
  simp only [pwA,seval,-iQ0,hte,wc1];exact⟨_,by omega,c+1,d,X,rfl,rfl,rx,hXl,he.skip hc fun k h1 h2=>hz k h1 (by omega)⟩
 have htX:t<X.length:=by omega
 have hdX:d<X.length:=by omega
 have hte:¬(t:Int)=(L.length:Int):=by omega
 have hnz:=hnz hlt;have htel:=he.el _ (List.getElem_mem htX);have htb:=htel.at0 o c;have hcr:c<X[t].length:=by rw [hXn];exact hc
 rw [qC htX]at hnz
 obtain⟨s2,cap2,s3,cap3,h1,h2,r1,r2,r3,r4,rx2⟩:=rx.swap hdX htX;rw [hXn]at r1 r2 r3 r4
 simp only [pwA,seval,-iQ0,hte,hd,hlt,r1,r2,r3,r4];have hBl:((X.set d X[t]).set t X[d]).length=L.length:=by simp [hXl]
 have hBr:∀i,row ((X.set d X[t]).set t X[d]) i=if i=t then row X d else if i=d then row X t else row X i:=fun i=>by
  rw [zBN (by rw [List.length_set];omega),zBN (by omega),qC hdX,qC htX]
 have hBB:(X.set d X[t]).set t X[d]=(X.set d (row X t)).set t (row X d):=by rw [qC hdX,qC htX]
 generalize hB:(X.set d X[t]).set t X[d]=B at *
 have hrX:∀i,i<L.length→El p n (row X i):=fun i hi=>he.el _ (by rw [qC (by omega)];exact List.getElem_mem _)
 have hBE:∀i,i<L.length→El p n (row B i):=fun i hi=>by
  rw [hBr]
  split
  ·exact hrX d hd
  ·split
   ·exact hrX t hlt
   ·exact hrX i hi
 have hdB:d<B.length:=by omega
 have hBd:row B d=X[t]:=by
  rw [hBr,qC htX]
  split
  ·rename_i h;subst h;exact qC hdX
  ·rw [if_pos rfl]
 obtain⟨sd,capd,g1,g2,g3,g4,g5,gp⟩:=rx2.get hdB;have eBd:B[d]=X[t]:=by rw [←hBd,qC hdB]
 rw [eBd,hXn]at g1 gp
 rw [eBd]at g2
 have g6:h2.rd1 sd c=some (.int .i64 X[t][c]):=by rw [qw g2,qO,gi hcr];rfl
 rw [at_eq hcr]at hnz htb
 simp only [pwA,seval,-iQ0,hd,g1,hc,g6];refine zDd hp ⟨by omega,by omega⟩ fun k b hk0 hk1 hk2=>?_
 have hyl:=hXn t htX;generalize hy:X[t]=y at *
 have hsl2:(scl p k y).length=n:=by rw [Zl];exact hyl
 simp only [pwA,seval,-iQ0,hd,g1];refine zDm 4 (fun e h=>∃b0:PV,e=PEnv.mk [0,1,5,6,8,84,85,86] [.int .i64 p,.sl s0 0 L.length cap,.int .i64 d,.int .i64 c,.int .i64 k,.int .i64 n,.int .i64 n,b0]∧h=h2.set sd (pis (scl p k y))) (fun Q4 hQ4=>?_) ?_
 ·refine zM (fun m us h=>∃i:Nat,i≤n∧m=n-i∧us=[.int .i64 p,.sl s0 0 L.length cap,.int .i64 d,.int .i64 c,.int .i64 k,.int .i64 n,.int .i64 i]∧h=h2.set sd (pis ((scl p k y).take i++y.drop i))) n ⟨0,by omega,by omega,rfl,by rw [List.take_zero,List.drop_zero,List.nil_append,zBw g2]⟩ ?_
  rintro m us h ⟨i,hi,rfl,rfl,rfl⟩
  simp only [pwA,seval,-iQ0];refine iteI (fun hin=>?_) fun hge=>?_
  rotate_left
  ·have hie:i=n:=by omega
   subst hie;rw [List.drop_of_length_le (by omega),List.append_nil,List.take_of_length_le (by omega)]
   exact hQ4 _ _ ⟨_,rfl,rfl⟩
  have hiy:i<y.length:=by omega
  have e1:=zCu (hsl2.trans hyl.symm) hiy;have hyb:=htel.at0 o i;rw [at_eq hiy]at hyb
  have hb:=sm7 (a:=y[i]) (b:=k) (by omega) (by omega)
  have ew1:IntKind.i64.wrap (y[i] * k)=y[i] * k:=wrap64 (by omega) (by omega)
  have hg7:¬s0=sd:=Ne.symm g4;have hp0:p≠0:=by omega
  have hlen:i+1≤((scl p k y).take i++y.drop i).length:=by simp;omega
  have hiv:i<(scl p k y).length:=by omega
  have hge:(scl p k y)[i]=y[i] * k % p:=by simp [scl]
  have etm:(y[i] * k).tmod p=(scl p k y)[i]:=by rw [hge];exact Int.tmod_eq_emod_of_nonneg (Int.mul_nonneg (by omega) (by omega))
  have eset:List.take i (pis ((scl p k y).take i++y.drop i))++[PV.int .i64 ((y[i] * k).tmod p)]++List.drop (i+1) (pis ((scl p k y).take i++y.drop i))=pis ((scl p k y).take (i+1)++y.drop (i+1)):=by
   rw [etm,Zm (by simp;omega),zCt (hsl2.trans hyl.symm) hiv]
  simp only [pwA,seval,-iQ0,hd,g1,hg7,hin,e1,ew1,hp0,qO,qY,hlen,eset,wrapS hin (by omega:n≤4611686018427387904)]
  exact⟨_,by omega,i+1,by omega,rfl,rfl,rfl⟩
 rintro e h ⟨b0,rfl,rfl⟩
 have rx3:=gp (scl p k y) hsl2;have hRr:∀i,row (B.set d (scl p k y)) i=if i=d then scl p k y else row B i:=fun i=>zBN hdB i
 have hRl:(B.set d (scl p k y)).length=L.length:=by rw [List.length_set];exact hBl
 have hRE:∀i,i<L.length→El p n (row (B.set d (scl p k y)) i):=fun i hi=>by
  rw [hRr]
  split
  ·exact zDs (by omega) hyl
  ·exact hBE i hi
 generalize hRR:B.set d (scl p k y)=R at rx3 hRr hRl hRE
 have hCl:∀m,(clrM p c d R m).length=L.length:=fun m=>by rw [QM];exact hRl
 have hCr:=fun m (hm:m≤L.length) i=>zEu (p:=p) (c:=c) (d:=d) (R:=R) m (by omega) i
 have hech:Ech p n L (clrM p c d R L.length) (d+1) (c+1):=by
  refine he.piv hpb (B:=B) (t:=t) (k:=k) hc hdt htX hBB (by rw [qC htX,hy,at_eq hcr];exact hk2) (by rw [hCl,hXl]) (by rw [hCr _ (Nat.le_refl _),if_neg (by omega),hRr,if_pos rfl,qC htX,hy]) fun i hi hne=>?_
  rw [hCr _ (Nat.le_refl _) i,if_pos ⟨by omega,hne⟩,hCr _ (Nat.le_refl _) d,if_neg (by omega),hRr i,if_neg hne]
 simp only [pwA,seval,-iQ0];generalize hH3:h2.set sd (pis (scl p k y))=H3 at *
 refine zDm 6 (fun e h=>∃b0:PV,e=PEnv.mk [0,1,5,6,107,108,109] [.int .i64 p,.sl s0 0 L.length cap,.int .i64 d,.int .i64 c,.int .i64 L.length,.int .i64 L.length,b0]∧RX σ h s0 (clrM p c d R L.length)) (fun Q6 hQ6=>?_) ?_
 ·refine zM (fun m us h=>∃i:Nat,i≤L.length∧m=L.length-i∧us=[.int .i64 p,.sl s0 0 L.length cap,.int .i64 d,.int .i64 c,.int .i64 L.length,.int .i64 i]∧RX σ h s0 (clrM p c d R i)) L.length ⟨0,by omega,by omega,rfl,rx3⟩ ?_
  rintro m us h ⟨i,hi,rfl,rfl,rx4⟩
  simp only [pwA,seval,-iQ0];refine iteI (fun hin=>?_) fun hge=>?_
  rotate_left
  ·have hie:i=L.length:=by omega
   subst hie;exact hQ6 _ _ ⟨_,rfl,rx4⟩
  have wi1:=wrapS hin (by omega:L.length≤4611686018427387904)
  by_cases hid:i=d
  ·subst hid
   simp only [pwA,seval,-iQ0,wi1];refine⟨_,by omega,i+1,by omega,rfl,rfl,?_⟩
   unfold clrM;rw [if_pos rfl];exact rx4
  have hid':¬(i:Int)=(d:Int):=by omega
  have hiC:i<(clrM p c d R i).length:=by rw [hCl];exact hin
  have hdC:d<(clrM p c d R i).length:=by rw [hCl];exact hd
  obtain⟨si,capi,sj,capj,f1,f2,f3,f4,f5,f6,f7,f8⟩:=rx4.two hiC hdC hid;have ei:(clrM p c d R i)[i]=row R i:=by rw [←qC hiC,hCr i (by omega),if_neg (by omega)]
  have ed:(clrM p c d R i)[d]=row R d:=by rw [←qC hdC,hCr i (by omega),if_neg (by omega)]
  have gi1:=hRE i hin;have gd1:=hRE d hd;rw [ei,gi1.1]at f1 f8
  rw [ei]at f2
  rw [ed,gd1.1]at f3
  rw [ed]at f4
  have hci:c<(row R i).length:=by rw [gi1.1];exact hc
  have f9:h.rd1 si c=some (.int .i64 (row R i)[c]):=by rw [qw f2,qO,gi hci];rfl
  have gib:=gi1.at0 o c;rw [at_eq hci]at gib
  have ewn:IntKind.i64.wrap (0-(row R i)[c])=0-(row R i)[c]:=wrap64 (by omega) (by omega)
  simp only [pwA,seval,-iQ0,hid',hin,hd,f1,f3,hc,f9,ewn];refine zC6 (xs:=row R i) (ys:=row R d) (by omega) f2 f4 (Ne.symm f5) gi1.1.symm gd1.1.symm (by rw [gi1.1,gd1.1]) (by rw [gi1.1];omega) (fun j g1 g2=>?_) ?_
  ·have b1:=gd1.at0 o j
   have b2:=gi1.at0 o j;rw [at_eq g2]at b1
   rw [at_eq g1]at b2
   have:=sm7 (a:=0-(row R i)[c]) (b:=(row R d)[j]) (by omega) (by omega)
   unfold sm9;omega
  simp only [pwA,seval,-iQ0,wi1];refine⟨_,by omega,i+1,by omega,rfl,rfl,?_⟩
  have:=f8 (vstep p (0-(row R i)[c]) (row R d) (row R i)) (by rw [qB (by rw [gi1.1,gd1.1]),gi1.1])
  unfold clrM;rw [if_neg hid,at_eq hci,show -(row R i)[c]=0-(row R i)[c] by omega]
  exact this
 rintro e h ⟨b0,rfl,rx5⟩
 have wd1:IntKind.i64.wrap ((d:Int)+1)=((d+1:Nat):Int):=by rw [wrap64 (by omega) (by omega)];omega
 simp only [pwA,seval,-iQ0,wc1,wd1];exact⟨_,by omega,c+1,d+1,_,rfl,rfl,rx5,hCl _,hech⟩
end Go.Proofs
namespace Go.Grp
end Go.Grp
namespace Go.Proofs
open Go.Ab Go.Lie Go.Grp Go.Mx
variable {σ h:PHeap} {K:PV→PHeap→Prop} {p:Int} {n s0 b:Nat} {A L X u:List (List Int)} {vA vL:PV} {rows:List SR}
theorem zEW:∀xs:List PV,TR.pvs (xs.map TR.leaf)=xs
 | []=>rfl
 | x::xs=>by simp only [List.map_cons,TR.pvs,TR.pv,zEW xs]
theorem zEX:∀{xs:List PV},Bels 0 xs→TR.okFs h b (xs.map TR.leaf)
 | [],_=>trivial
 | x::xs,hb=>⟨hb.1,zEX hb.2⟩
theorem zEa:∀x:List Int,TR.okFs h b (x.map fun n=>.leaf (.int .i64 n))
 | []=>trivial
 | n::x=>⟨trivial,zEa x⟩
theorem SR.ok.trF {q:SR} (a:q.ok h b):q.tr.okF h b:=⟨⟨by rw [List.length_map];exact a.1,by rw [TR.ints_pvs];exact a.2.1,a.2.2.1,a.2.2.2⟩,zEa q.x⟩
theorem zBx:∀{rows:List SR},(∀q∈rows,q.ok h b)→TR.okFs h b (rows.map SR.tr)
 | [],_=>trivial
 | q::rows,a=>⟨SR.ok.trF (a q (List.mem_cons_self ..)),zBx fun q' hq=>a q' (List.mem_cons_of_mem _ hq)⟩
theorem RX.fin {d:Nat} (a:RX σ h s0 X) (hd:d≤X.length) (k:∀z,FII z (X.take d)→K z σ):Gh σ K (.sl s0 0 d (.known d)) h:=by
 obtain⟨rows,r,rfl⟩:=a;rw [List.length_map]at hd
 have et:(TR.cut s0 0 d (.known d) (rows.map SR.tr)).pv=.sl s0 0 d (.known d):=rfl;rw [←et];refine Gh.treeF r.keep ⟨⟨fun c e=>by cases e;exact Nat.le_refl _,by rw [TR.rows_pvs];exact r.obj,r.lo,r.lt,by rw [List.length_map];omega⟩,zBx r.ok⟩ fun aa=>k _ ⟨false,.sl (aa s0) 0 d (.known d),(TR.fzs aa (rows.map SR.tr)).take d,?_,(TR.rows_all2 rows).take d⟩
 have hl:(List.take d (rows.map SR.x)).length=d:=by simp;omega
 rw [hl];rfl
theorem zDR (hp:isP p) (hL:∀r∈L,El p n r) (hn:n≤64) (hll:L.length≤64) (hvL:FII vL L) (hk:∀z u,FII z u→Canon p n (W0 n) L u→K z σ):
  zA Try.prog 101 [.int .i64 p,vL] σ K:=by
 refine zA.gh ?_
 by_cases h0:0<n∧0<L.length
 ·exact zAg hp hL ⟨h0.1,hn⟩ ⟨h0.2,hll⟩ hvL fun s0 d X h' rx hXl hd hc=>rx.fin hd fun z hz=>hk z _ hz hc
 -- nothing to do
 have hcan:Canon p n (W0 n) L []:=by
  have hE:=Ech.start hL
  have:=hE.done (by
   by_cases h1:0<n
   ·exact .inr (by have:¬0<L.length:=fun h=>h0 ⟨h1,h⟩;omega)
   ·exact .inl (by omega))
  rwa [List.take_zero]at this
 refine zB mix Try.func101 ?_
 conv=>arg 2;cbv
 refine zC rfl ?_;simp only [pwA,seval,-iQ0];refine zBD (fun r hr=>by rw [(hL r hr).1];omega) (by omega) hvL fun v h1 rows hk1 ha hall=>?_
 rcases ha with ⟨rfl,e1,e2⟩|⟨s0,cap,rfl,hf,q2,q3,q4,q5⟩
 ·have hsl:ZK 1 (.fz true .nils 0 []) none (some (.int .i64 0)) (some (.int .i64 0))=some (.fz true .nils 0 []):=rfl
  simp only [pwA,seval,-iQ0,hsl];refine zM (fun m vs h'=>m=0∧vs=[.int .i64 p,.fz true .nils 0 [],.int .i64 0,.int .i64 0]∧h'=h1) 0 ⟨rfl,rfl,rfl⟩ ?_
  rintro m vs h' ⟨rfl,rfl,rfl⟩
  have hz0:¬(0:Int)<((0:Nat):Int):=by omega
  simp only [pwA,seval,-iQ0,hz0,decide_false,hsl];exact Gh.fin0 hk1 (show Bel _ (PV.fz true .nils 0 []) from trivial) (hk _ _ ⟨true,.nils,[],rfl,All2.nil _⟩ hcan)
 ·have hsl:ZK 1 (.sl s0 0 L.length cap) none (some (.int .i64 0)) (some (.int .i64 0))=some (.sl s0 0 0 (.known 0)):=zAv (s0:=s0) hf (d:=0) (Nat.zero_le _)
  have hfin:Gh σ K (.sl s0 0 0 (.known 0)) h1:=by
   have et:(TR.cut s0 0 0 (.known 0) (rows.map TR.leaf)).pv=.sl s0 0 0 (.known 0):=rfl;rw [←et];exact Gh.treeF hk1 ⟨⟨fun c e=>by cases e;exact Nat.le_refl _,by rw [zEW];exact q2,q4,q5,by simp⟩,zEX (hall.bI 0)⟩ fun aa=>hk _ [] ⟨false,.sl (aa s0) 0 0 (.known 0),[],by simp [TR.fz],All2.nil _⟩ hcan
  simp only [pwA,seval,-iQ0];refine zM (fun m vs h'=>m=0∧vs=[.int .i64 p,.sl s0 0 L.length cap,.int .i64 0,.int .i64 0]∧h'=h1) 0 ⟨rfl,rfl,rfl⟩ ?_
  rintro m vs h' ⟨rfl,rfl,rfl⟩
  by_cases hpos:0<L.length
  ·have hn0:n=0:=by
    rcases Nat.eq_zero_or_pos n with g|g
    ·exact g
    ·exact absurd ⟨g,hpos⟩ h0
   obtain⟨w4,a4,hr⟩:=hall.rowI hpos;have hl0:L[0].length=0:=by rw [(hL _ (List.getElem_mem hpos)).1];exact hn0
   have r1:h'.rd1 s0 0=some (.fz w4 a4 L[0].length (pis L[0])):=by rw [qw q2];exact hr
   rw [hl0]at r1
   have hpos':(0:Int)<(L.length:Int):=by omega
   have hz0:¬(0:Int)<((0:Nat):Int):=by omega
   simp only [pwA,seval,-iQ0,hpos',r1,hz0,decide_false,hsl];exact hfin
  ·have hpos':¬(0:Int)<(L.length:Int):=by omega
   simp only [pwA,seval,-iQ0,hpos',hsl];exact hfin
end Go.Proofs
namespace Go.Grp
end Go.Grp
namespace Go.Proofs
open Go.Ab Go.Lie Go.Grp Go.Mx
variable {σ σ0 σ1 h:PHeap} {K:PV→PHeap→Prop} {p:Int} {n s0 b lo hi:Nat} {A L X u:List (List Int)} {vA vL:PV} {rows:List SR}
theorem Gh.treeFT {t:TR} (hk:Keep σ0 σ1) (ht:t.okF σ1 σ0.next)
  (k:∀a T,(∀s∈t.slots,σ0.top≤a s∧a s<T)→(∀s∈t.slots,∀s'∈t.slots,a s=a s'→s=s')→σ0.top≤T→K (t.fz a) (σ0.up T)):Gh σ0 K t.pv σ1:=by
 intro w ι Z h b r hv h1 h2 h3 h4;have hso:=TR.slot_objF ht;have hlt:∀{s:Nat} {cs:List PV},σ1.obj s=some cs→ι s<h.next:=fun hs=>r.hwf.lt (r.obj _ _ hs).1
 have hz1:∀o,Z o→(Z o∨∃s∈t.slots,o=ι s)∧h.obj o=h.obj o:=fun o ho=>⟨.inl ho,rfl⟩
 have hin:∀s∈t.slots,∀s'∈t.slots,ι s=ι s'→s=s':=fun s hs s' hs' e=>by
  obtain⟨_,cs,g⟩:=hso s hs;obtain⟨_,cs',g'⟩:=hso s' hs';exact r.inj s s' cs cs' g g' e
 obtain⟨v1,v2⟩:=TR.vokF (Z':=fun o=>Z o∨∃s∈t.slots,o=ι s) r (fun o ho=>.inl ho) ht hv fun s hs=>.inr ⟨s,hs,rfl⟩
 refine⟨t.fz ι,σ0.up h.next,ι,fun o=>Z o∨∃s∈t.slots,o=ι s,⟨r.hwf,?_,Nat.le_refl _,w.wf,fun s cs hs=>?_,fun s s' cs cs' hs hs' he=>?_⟩,v1.mono (fun o ho=>⟨ho,rfl⟩) (Nat.zero_le _),Nat.le_refl _,fun _ _=>rfl,fun _ ho=>.inl ho,fun s cs hs hc=>?_,fun s hs hn=>hn,v2 ι,k ι h.next (fun s hs=>?_) hin (Nat.le_trans hk.top r.top)⟩
 ·rintro o (ho | ⟨s,hs,rfl⟩)
  ·exact r.zlt o ho
  ·obtain⟨_,cs,g⟩:=hso s hs
   exact hlt g
 ·have hl:=w.lt hs
  have hs1:σ1.obj s=some cs:=by rw [hk.obj s hl];exact hs
  obtain⟨q1,q2,q3⟩:=r.obj s cs hs1;refine⟨q1,(q2.of_bel (w.bel s cs hs)).mono hz1 (Nat.le_refl _),?_⟩
  rintro (hz | ⟨s',hs',e⟩)
  ·exact q3 hz
  ·obtain⟨g0,cs',g⟩:=hso s' hs'
   have:=r.inj s s' cs cs' hs1 g e
   omega
 ·exact r.inj s s' cs cs' (by rw [hk.obj s (w.lt hs)];exact hs) (by rw [hk.obj s' (w.lt hs')];exact hs') he
 ·have:=w.lt hc
  omega
 ·obtain⟨g0,cs,g⟩:=hso s hs
  exact⟨Nat.le_trans h2 (h3 s cs g0 g),hlt g⟩
structure OwnC (lo hi:Nat) (v:PV):Prop where
 ex:∃w a l rs,v=.fz w a l rs∧(rs=[]∨isSl a=true)∧Whs rs
 nd:(ead v).Nodup
 lt:∀o∈ead v,lo≤o∧o<hi
theorem OwnC.nil (lo hi:Nat) {w:Bool} {a:AV} {l:Nat}:OwnC lo hi (.fz w a l []):=⟨⟨w,a,l,[],rfl,.inl rfl,trivial⟩,by simp [ead],fun o ho=>by simp [ead]at ho⟩
theorem zHg {rows:List SR} (a:∀q∈rows,q.ok h b):TR.oks h b (rows.map SR.tr):=TR.rows_oks a
theorem RX.finT {d:Nat} (a:RX σ h s0 X) (hd:d≤X.length) (k:∀z t,FII z (X.take d)→OwnC σ.top t z→σ.top≤t→K z (σ.up t)):Gh σ K (.sl s0 0 d (.known d)) h:=by
 obtain⟨rows,r,rfl⟩:=a;rw [List.length_map]at hd
 have et:(TR.cut s0 0 d (.known d) (rows.map SR.tr)).pv=.sl s0 0 d (.known d):=rfl;rw [←et];refine Gh.treeFT r.keep ⟨⟨fun c e=>by cases e;exact Nat.le_refl _,by rw [TR.rows_pvs];exact r.obj,r.lo,r.lt,by rw [List.length_map];omega⟩,zBx r.ok⟩ fun aa T h1 h2 h3=>?_
 have hl:(List.take d (rows.map SR.x)).length=d:=by simp;omega
 have hz:(TR.cut s0 0 d (.known d) (rows.map SR.tr)).fz aa=.fz false (.sl (aa s0) 0 d (.known d)) d ((TR.fzs aa (rows.map SR.tr)).take d):=rfl;have hsl:(TR.cut s0 0 d (.known d) (rows.map SR.tr)).slots=s0::qz rows:=by simp only [TR.slots,TR.rows_slots]
 rw [hsl]at h1 h2
 rw [hz];obtain⟨e1,e2⟩:=TR.eads_sub (a:=aa) (zHg r.ok);rw [TR.rows_slots]at e1
 have e3:(eads ((TR.fzs aa (rows.map SR.tr)).take d)).Sublist (eads (TR.fzs aa (rows.map SR.tr))):=by
  have:=List.take_append_drop d (TR.fzs aa (rows.map SR.tr))
  conv=>rhs;rw [←this,Zu]
  exact List.sublist_append_left ..
 have e4:=e3.trans e1;have nd:((s0::qz rows).map aa).Nodup:=zDY (List.nodup_cons.2 ⟨r.ne,r.nd⟩) h2;have es:(ead (.fz false (.sl (aa s0) 0 d (.known d)) d ((TR.fzs aa (rows.map SR.tr)).take d))).Sublist ((s0::qz rows).map aa):=by
  by_cases hn:(TR.fzs aa (rows.map SR.tr)).take d=[]
  ·rw [hn];simp [ead]
  ·rw [QB hn];exact List.Sublist.cons_cons _ e4
 refine k _ T ⟨false,.sl (aa s0) 0 d (.known d),(TR.fzs aa (rows.map SR.tr)).take d,by rw [hl],(TR.rows_all2 rows).take d⟩ ⟨⟨_,_,_,_,rfl,.inr rfl,ZJ.2 fun c hc=>ZJ.1 e2 c (List.mem_of_mem_take hc)⟩,?_,?_⟩ h3
 ·exact List.Nodup.sublist es nd
 ·intro o ho
  obtain⟨s,hs,rfl⟩:=List.mem_map.1 (es.subset ho);exact h1 s hs
theorem zDw (hp:isP p) (hL:∀r∈L,El p n r) (hn:n≤64) (hll:L.length≤64) (hvL:FII vL L) (hk:∀z u t,FII z u→OwnC σ.top t z→σ.top≤t→Canon p n (W0 n) L u→K z (σ.up t)):
  zA Try.prog 101 [.int .i64 p,vL] σ K:=by
 refine zA.gh ?_
 by_cases h0:0<n∧0<L.length
 ·exact zAg hp hL ⟨h0.1,hn⟩ ⟨h0.2,hll⟩ hvL fun s0 d X h' rx hXl hd hc=>rx.finT hd fun z t hz ho ht=>hk z _ t hz ho ht hc
 -- nothing to do
 have hcan:Canon p n (W0 n) L []:=by
  have hE:=Ech.start hL
  have:=hE.done (by
   by_cases h1:0<n
   ·exact .inr (by have:¬0<L.length:=fun h=>h0 ⟨h1,h⟩;omega)
   ·exact .inl (by omega))
  rwa [List.take_zero]at this
 refine zB mix Try.func101 ?_
 conv=>arg 2;cbv
 refine zC rfl ?_;simp only [pwA,seval,-iQ0];refine zBD (fun r hr=>by rw [(hL r hr).1];omega) (by omega) hvL fun v h1 rows hk1 ha hall=>?_
 rcases ha with ⟨rfl,e1,e2⟩|⟨s0,cap,rfl,hf,q2,q3,q4,q5⟩
 ·have hsl:ZK 1 (.fz true .nils 0 []) none (some (.int .i64 0)) (some (.int .i64 0))=some (.fz true .nils 0 []):=rfl
  simp only [pwA,seval,-iQ0,hsl];refine zM (fun m vs h'=>m=0∧vs=[.int .i64 p,.fz true .nils 0 [],.int .i64 0,.int .i64 0]∧h'=h1) 0 ⟨rfl,rfl,rfl⟩ ?_
  rintro m vs h' ⟨rfl,rfl,rfl⟩
  have hz0:¬(0:Int)<((0:Nat):Int):=by omega
  simp only [pwA,seval,-iQ0,hz0,decide_false,hsl];exact Gh.fin0T hk1 hk1.top trivial fun _=>hk _ _ σ.top ⟨true,.nils,[],rfl,All2.nil _⟩ (OwnC.nil _ _) (Nat.le_refl _) hcan
 ·have hsl:ZK 1 (.sl s0 0 L.length cap) none (some (.int .i64 0)) (some (.int .i64 0))=some (.sl s0 0 0 (.known 0)):=zAv (s0:=s0) hf (d:=0) (Nat.zero_le _)
  have hfin:Gh σ K (.sl s0 0 0 (.known 0)) h1:=by
   have et:(TR.cut s0 0 0 (.known 0) (rows.map TR.leaf)).pv=.sl s0 0 0 (.known 0):=rfl;rw [←et];exact Gh.treeFT hk1 ⟨⟨fun c e=>by cases e;exact Nat.le_refl _,by rw [zEW];exact q2,q4,q5,by simp⟩,zEX (hall.bI 0)⟩ fun aa T _ _ h3=>hk _ [] T ⟨false,.sl (aa s0) 0 0 (.known 0),[],by simp [TR.fz],All2.nil _⟩ (by simp only [TR.fz,List.take_zero];exact OwnC.nil _ _) h3 hcan
  simp only [pwA,seval,-iQ0];refine zM (fun m vs h'=>m=0∧vs=[.int .i64 p,.sl s0 0 L.length cap,.int .i64 0,.int .i64 0]∧h'=h1) 0 ⟨rfl,rfl,rfl⟩ ?_
  rintro m vs h' ⟨rfl,rfl,rfl⟩
  by_cases hpos:0<L.length
  ·have hn0:n=0:=by
    rcases Nat.eq_zero_or_pos n with g|g
    ·exact g
    ·exact absurd ⟨g,hpos⟩ h0
   obtain⟨w4,a4,hr⟩:=hall.rowI hpos;have hl0:L[0].length=0:=by rw [(hL _ (List.getElem_mem hpos)).1];exact hn0
   have r1:h'.rd1 s0 0=some (.fz w4 a4 L[0].length (pis L[0])):=by rw [qw q2];exact hr
   rw [hl0]at r1
   have hpos':(0:Int)<(L.length:Int):=by omega
   have hz0:¬(0:Int)<((0:Nat):Int):=by omega
   simp only [pwA,seval,-iQ0,hpos',r1,hz0,decide_false,hsl];exact hfin
  ·have hpos':¬(0:Int)<(L.length:Int):=by omega
   simp only [pwA,seval,-iQ0,hpos',hsl];exact hfin
end Go.Proofs
namespace Go.Proofs
open Go.Ab Go.Lie
section
variable {h:AHeap} {K:AV→AHeap→Prop}
theorem zA1 {v:PV} {xs:List Int} {k:Int} (hI:FI v xs) (hW:Wh v) (hw:HWF h) (hv:VOK (zlt h) h 0 v) (hb:xs.length≤4294967296) (hk0:0≤k) (hk1:k≤4611686018427387904)
  (hk:∀h',Upd h (mkI k v xs) h'→K (.int .i64 (k+xs.length)) h'):qV Try.prog 99 [er idz v,.int .i64 k] h K:=by
 refine ZH mix Try.func99 cf99 rfl ?_;dsimp only [if99,mI0,kI0,xI0,bI0,cI0,sI0,vI0,R0,S0]
 by_cases hne:xs=[]
 ·subst hne
  have hlen:aLen (er idz v)=some (.int .i64 ((0:Nat):Int)):=by
   obtain⟨w,a,rfl⟩:=hI;obtain⟨rfl,_⟩|⟨o,off,cap,rfl,_⟩:=hv.1<;>rfl
  simp only [nm_eq,nm_eq,abQ,↓reduceIte,iQ2,qF,qP,zx,nQ1,nQ2,nQ3,nQ4,nQ5,nQ6,lQ1,lQ2,lQ3,lQ4,lQ5,lQ6,lQ7,lQ8,nQ7,nQ8,zh,zR,zK,zL,zF,nQ9,iQ3,iQ4,iQ5,iQ6,qL,qM,zw,zX,zi,zS,zT,recOf,zW,zI,zJ,zU,zk,lQ9,lQ10,nQ10,if_true,if_false,ite_true,ite_false,lQ11,lQ12,oQ1,oQ2,reduceCtorEq,decide_true,decide_false,bQ1,bQ2,ze,zQ,zY,zO,zZ,zN,z8,zP,zf,zg,lQ13,lQ14,qJ,zu,qG,zq,qH,zo,qQ,zt,qK,lQ15,lQ16,bQ3,bQ4,bQ5,true_and,and_true,bQ6,bQ7,lQ17,lQ18,bQ8,bQ9,bQ10,bQ11,eq_self,nQ11,nQ12,nQ13,nQ14,nQ15];refine Qe (fun m vs h'=>vs=[er idz v,.int .i64 k,.int .i64 0]∧h'=h) 0 ⟨rfl,rfl⟩ ?_
  rintro m vs h' ⟨rfl,rfl⟩
  simp only [nm_eq,nm_eq,abQ,↓reduceIte,iQ2,qF,qP,zx,nQ1,nQ2,nQ3,nQ4,nQ5,nQ6,lQ1,lQ2,lQ3,lQ4,lQ5,lQ6,lQ7,lQ8,nQ7,nQ8,zh,zR,zK,zL,zF,nQ9,iQ3,iQ4,iQ5,iQ6,qL,qM,zw,zX,zi,zS,zT,recOf,zW,zI,zJ,zU,zk,lQ9,lQ10,nQ10,if_true,if_false,ite_true,ite_false,lQ11,lQ12,oQ1,oQ2,reduceCtorEq,decide_true,decide_false,bQ1,bQ2,ze,zQ,zY,zO,zZ,zN,z8,zP,zf,zg,lQ13,lQ14,qJ,zu,qG,zq,qH,zo,qQ,zt,qK,lQ15,lQ16,bQ3,bQ4,bQ5,true_and,and_true,bQ6,bQ7,lQ17,lQ18,bQ8,bQ9,bQ10,bQ11,eq_self,nQ11,nQ12,nQ13,nQ14,nQ15,hlen,Int.lt_irrefl]
  have:=hk h' (Upd.refl hw)
  simpa using this
 ·obtain⟨w,a,rfl⟩:=hI
  obtain⟨hwt,_,_⟩:=hW.resolve_left (Qk hne);obtain⟨o,cap,rfl,ho,hz⟩:=hv.whole hwt (Qk hne);have ho':h.obj o=some ⟨true,ints xs⟩:=by rw [ho,Zd];congr 2;simp only [pis,ints,List.map_map];rfl
  simp only [nm_eq,nm_eq,abQ,↓reduceIte,iQ2,qF,qP,zx,nQ1,nQ2,nQ3,nQ4,nQ5,nQ6,lQ1,lQ2,lQ3,lQ4,lQ5,lQ6,lQ7,lQ8,nQ7,nQ8,zh,zR,zK,zL,zF,nQ9,iQ3,iQ4,iQ5,iQ6,qL,qM,zw,zX,zi,zS,zT,recOf,zW,zI,zJ,zU,zk,lQ9,lQ10,nQ10,if_true,if_false,ite_true,ite_false,lQ11,lQ12,oQ1,oQ2,reduceCtorEq,decide_true,decide_false,bQ1,bQ2,ze,zQ,zY,zO,zZ,zN,z8,zP,zf,zg,lQ13,lQ14,qJ,zu,qG,zq,qH,zo,qQ,zt,qK,lQ15,lQ16,bQ3,bQ4,bQ5,true_and,and_true,bQ6,bQ7,lQ17,lQ18,bQ8,bQ9,bQ10,bQ11,eq_self,nQ11,nQ12,nQ13,nQ14,nQ15,er];refine Qe (fun m vs h'=>∃i:Nat,i≤xs.length∧m=xs.length-i∧vs=[.sl o 0 xs.length cap,.int .i64 (k+i),.int .i64 i]∧h'=h.set o (ints ((seqI k xs.length).take i++xs.drop i))) xs.length ?_ ?_
  ·exact⟨0,by omega,by omega,(by(simp only [nm_eq,nm_eq,abQ,↓reduceIte,iQ2,qF,qP,zx,nQ1,nQ2,nQ3,nQ4,nQ5,nQ6,lQ1,lQ2,lQ3,lQ4,lQ5,lQ6,lQ7,lQ8,nQ7,nQ8,zh,zR,zK,zL,zF,nQ9,iQ3,iQ4,iQ5,iQ6,qL,qM,zw,zX,zi,zS,zT,recOf,zW,zI,zJ,zU,zk,lQ9,lQ10,nQ10,if_true,if_false,ite_true,ite_false,lQ11,lQ12,oQ1,oQ2,reduceCtorEq,decide_true,decide_false,bQ1,bQ2,ze,zQ,zY,zO,zZ,zN,z8,zP,zf,zg,lQ13,lQ14,qJ,zu,qG,zq,qH,zo,qQ,zt,qK,lQ15,lQ16,bQ3,bQ4,bQ5,true_and,and_true,bQ6,bQ7,lQ17,lQ18,bQ8,bQ9,bQ10,bQ11,eq_self,nQ11,nQ12,nQ13,nQ14,nQ15,List.cons.injEq,AV.int.injEq,AV.sl.injEq,and_self])<;>omega),by simp [set_self ho']⟩
  ·rintro m vs h' ⟨i,hi,rfl,rfl,rfl⟩
   simp only [nm_eq,nm_eq,abQ,↓reduceIte,iQ2,qF,qP,zx,nQ1,nQ2,nQ3,nQ4,nQ5,nQ6,lQ1,lQ2,lQ3,lQ4,lQ5,lQ6,lQ7,lQ8,nQ7,nQ8,zh,zR,zK,zL,zF,nQ9,iQ3,iQ4,iQ5,iQ6,qL,qM,zw,zX,zi,zS,zT,recOf,zW,zI,zJ,zU,zk,lQ9,lQ10,nQ10,if_true,if_false,ite_true,ite_false,lQ11,lQ12,oQ1,oQ2,reduceCtorEq,decide_true,decide_false,bQ1,bQ2,ze,zQ,zY,zO,zZ,zN,z8,zP,zf,zg,lQ13,lQ14,qJ,zu,qG,zq,qH,zo,qQ,zt,qK,lQ15,lQ16,bQ3,bQ4,bQ5,true_and,and_true,bQ6,bQ7,lQ17,lQ18,bQ8,bQ9,bQ10,bQ11,eq_self,nQ11,nQ12,nQ13,nQ14,nQ15]
   split
   ·have hlt:i<xs.length:=by omega
    simp only [nm_eq,nm_eq,abQ,↓reduceIte,iQ2,qF,qP,zx,nQ1,nQ2,nQ3,nQ4,nQ5,nQ6,lQ1,lQ2,lQ3,lQ4,lQ5,lQ6,lQ7,lQ8,nQ7,nQ8,zh,zR,zK,zL,zF,nQ9,iQ3,iQ4,iQ5,iQ6,qL,qM,zw,zX,zi,zS,zT,recOf,zW,zI,zJ,zU,zk,lQ9,lQ10,nQ10,if_true,if_false,ite_true,ite_false,lQ11,lQ12,oQ1,oQ2,reduceCtorEq,decide_true,decide_false,bQ1,bQ2,ze,zQ,zY,zO,zZ,zN,z8,zP,zf,zg,lQ13,lQ14,qJ,zu,qG,zq,qH,zo,qQ,zt,qK,lQ15,lQ16,bQ3,bQ4,bQ5,true_and,and_true,bQ6,bQ7,lQ17,lQ18,bQ8,bQ9,bQ10,bQ11,eq_self,nQ11,nQ12,nQ13,nQ14,nQ15,zAd hlt,wrapS hlt (by omega:xs.length≤4611686018427387904),wrap64 (n:=k+(i:Int)+1) (by omega) (by omega)]
    have hls:i<(seqI k xs.length).length:=by rw [ZQ];exact hlt
    rw [Go.Ab.zCD (zAR _ _) (by rw [zBo];simp [ZQ];omega) rfl,zI]
    refine⟨_,by omega,i+1,by omega,rfl,(by(simp only [nm_eq,nm_eq,abQ,↓reduceIte,iQ2,qF,qP,zx,nQ1,nQ2,nQ3,nQ4,nQ5,nQ6,lQ1,lQ2,lQ3,lQ4,lQ5,lQ6,lQ7,lQ8,nQ7,nQ8,zh,zR,zK,zL,zF,nQ9,iQ3,iQ4,iQ5,iQ6,qL,qM,zw,zX,zi,zS,zT,recOf,zW,zI,zJ,zU,zk,lQ9,lQ10,nQ10,if_true,if_false,ite_true,ite_false,lQ11,lQ12,oQ1,oQ2,reduceCtorEq,decide_true,decide_false,bQ1,bQ2,ze,zQ,zY,zO,zZ,zN,z8,zP,zf,zg,lQ13,lQ14,qJ,zu,qG,zq,qH,zo,qQ,zt,qK,lQ15,lQ16,bQ3,bQ4,bQ5,true_and,and_true,bQ6,bQ7,lQ17,lQ18,bQ8,bQ9,bQ10,bQ11,eq_self,nQ11,nQ12,nQ13,nQ14,nQ15,List.cons.injEq,AV.int.injEq,AV.sl.injEq,and_self])<;>omega),?_⟩
    rw [zKu,ints_set,←zLV _ _ hlt hls,zDr]
   ·have hie:i=xs.length:=by omega
    subst hie;rw [List.take_of_length_le (by rw [ZQ];exact Nat.le_refl _),List.drop_length,List.append_nil]
    have hlt:=hw.lt ho;refine hk _ ⟨Nat.le_refl _,hw.set hlt _,fun x hx hn=>zAQ (fun e=>?_) _,fun x ms hx=>?_⟩
    ·subst e
     rw [mkI,if_neg hne]at hn
     simp [aof]at hn
    ·rw [mkI,if_neg hne]at hx
     simp only [List.lookup_cons,List.lookup_nil,aof]at hx
     split at hx
     ·rename_i hxo
      cases hx;have hxo:x=o:=by simpa using hxo
      subst hxo;refine⟨?_,zJj _,Qk fun e=>?_,_,ho',by rw [zBo,qY,ZQ]⟩
      ·rw [zAR,Zd];congr 2;simp only [pis,ints,List.map_map];rfl
      ·have:=ZQ xs.length k
       rw [e]at this
       exact hne (List.eq_nil_of_length_eq_zero this.symm)
     ·cases hx
theorem zDb {v:PV} {xs:List (List Int)} {k:Int} (hI:FII v xs) (hW:Wh v) (hnd:(ead v).Nodup) (hw:HWF h) (hv:VOK (zlt h) h 0 v) (hb:xs.length≤4294967296) (hb2:∀x∈xs,x.length≤4294967296) (hk0:0≤k) (hk1:k+totL List.length xs≤4611686018427387904)
  (hk:∀h',Upd h (mkF mkI List.length k v xs) h'→K (.int .i64 (k+totL List.length xs)) h'):qV Try.prog 58 [er idz v,.int .i64 k] h K:=by
 refine ZH mix Try.func58 cf58 rfl ?_;dsimp only [if58,mI0,kI0,lI0,xI0,bI0,cI0,sI0,C2,R0,S0];obtain⟨w,a,rows,rfl,hr⟩:=hI
 by_cases hne:rows=[]
 ·have hx:=hr.nil_iff.1 hne
  subst hne;subst hx;have hlen:aLen a=some (.int .i64 ((0:Nat):Int)):=by
   obtain⟨rfl,_⟩|⟨o,off,cap,rfl,_⟩:=hv.1<;>rfl
  simp only [nm_eq,nm_eq,abQ,↓reduceIte,iQ2,qF,qP,zx,nQ1,nQ2,nQ3,nQ4,nQ5,nQ6,lQ1,lQ2,lQ3,lQ4,lQ5,lQ6,lQ7,lQ8,nQ7,nQ8,zh,zR,zK,zL,zF,nQ9,iQ3,iQ4,iQ5,iQ6,qL,qM,zw,zX,zi,zS,zT,recOf,zW,zI,zJ,zU,zk,lQ9,lQ10,nQ10,if_true,if_false,ite_true,ite_false,lQ11,lQ12,oQ1,oQ2,reduceCtorEq,decide_true,decide_false,bQ1,bQ2,ze,zQ,zY,zO,zZ,zN,z8,zP,zf,zg,lQ13,lQ14,qJ,zu,qG,zq,qH,zo,qQ,zt,qK,lQ15,lQ16,bQ3,bQ4,bQ5,true_and,and_true,bQ6,bQ7,lQ17,lQ18,bQ8,bQ9,bQ10,bQ11,eq_self,nQ11,nQ12,nQ13,nQ14,nQ15,er];refine Qe (fun m vs h'=>vs=[a,.int .i64 k,.int .i64 0]∧h'=h) 0 ⟨rfl,rfl⟩ ?_
  rintro m vs h' ⟨rfl,rfl⟩
  simp only [nm_eq,nm_eq,abQ,↓reduceIte,iQ2,qF,qP,zx,nQ1,nQ2,nQ3,nQ4,nQ5,nQ6,lQ1,lQ2,lQ3,lQ4,lQ5,lQ6,lQ7,lQ8,nQ7,nQ8,zh,zR,zK,zL,zF,nQ9,iQ3,iQ4,iQ5,iQ6,qL,qM,zw,zX,zi,zS,zT,recOf,zW,zI,zJ,zU,zk,lQ9,lQ10,nQ10,if_true,if_false,ite_true,ite_false,lQ11,lQ12,oQ1,oQ2,reduceCtorEq,decide_true,decide_false,bQ1,bQ2,ze,zQ,zY,zO,zZ,zN,z8,zP,zf,zg,lQ13,lQ14,qJ,zu,qG,zq,qH,zo,qQ,zt,qK,lQ15,lQ16,bQ3,bQ4,bQ5,true_and,and_true,bQ6,bQ7,lQ17,lQ18,bQ8,bQ9,bQ10,bQ11,eq_self,nQ11,nQ12,nQ13,nQ14,nQ15,hlen,Int.lt_irrefl]
  have:=hk h' (Upd.refl hw)
  simpa [totL]using this
 ·obtain⟨hwt,_,hWs⟩:=hW.resolve_left hne
  obtain⟨o,cap,rfl,ho,hz⟩:=hv.whole hwt hne;rw [QB hne]at hnd
  obtain⟨n1,n2⟩:=List.nodup_cons.1 hnd;simp only [nm_eq,nm_eq,abQ,↓reduceIte,iQ2,qF,qP,zx,nQ1,nQ2,nQ3,nQ4,nQ5,nQ6,lQ1,lQ2,lQ3,lQ4,lQ5,lQ6,lQ7,lQ8,nQ7,nQ8,zh,zR,zK,zL,zF,nQ9,iQ3,iQ4,iQ5,iQ6,qL,qM,zw,zX,zi,zS,zT,recOf,zW,zI,zJ,zU,zk,lQ9,lQ10,nQ10,if_true,if_false,ite_true,ite_false,lQ11,lQ12,oQ1,oQ2,reduceCtorEq,decide_true,decide_false,bQ1,bQ2,ze,zQ,zY,zO,zZ,zN,z8,zP,zf,zg,lQ13,lQ14,qJ,zu,qG,zq,qH,zo,qQ,zt,qK,lQ15,lQ16,bQ3,bQ4,bQ5,true_and,and_true,bQ6,bQ7,lQ17,lQ18,bQ8,bQ9,bQ10,bQ11,eq_self,nQ11,nQ12,nQ13,nQ14,nQ15,er];refine Qe (fun m vs h'=>∃i:Nat,i≤xs.length∧m=xs.length-i∧vs=[.sl o 0 xs.length cap,.int .i64 (k+totL List.length (xs.take i)),.int .i64 i]∧Upd h (mkS mkI List.length k (rows.take i) (xs.take i)) h') xs.length ?_ ?_
  ·exact⟨0,by omega,by omega,by rw [List.take_zero,zBv];exact(by(simp only [nm_eq,nm_eq,abQ,↓reduceIte,iQ2,qF,qP,zx,nQ1,nQ2,nQ3,nQ4,nQ5,nQ6,lQ1,lQ2,lQ3,lQ4,lQ5,lQ6,lQ7,lQ8,nQ7,nQ8,zh,zR,zK,zL,zF,nQ9,iQ3,iQ4,iQ5,iQ6,qL,qM,zw,zX,zi,zS,zT,recOf,zW,zI,zJ,zU,zk,lQ9,lQ10,nQ10,if_true,if_false,ite_true,ite_false,lQ11,lQ12,oQ1,oQ2,reduceCtorEq,decide_true,decide_false,bQ1,bQ2,ze,zQ,zY,zO,zZ,zN,z8,zP,zf,zg,lQ13,lQ14,qJ,zu,qG,zq,qH,zo,qQ,zt,qK,lQ15,lQ16,bQ3,bQ4,bQ5,true_and,and_true,bQ6,bQ7,lQ17,lQ18,bQ8,bQ9,bQ10,bQ11,eq_self,nQ11,nQ12,nQ13,nQ14,nQ15,List.cons.injEq,AV.int.injEq,AV.sl.injEq,and_self])<;>omega),by simp only [List.take_zero,zGJ];exact Upd.refl hw⟩
  ·rintro m vs h' ⟨i,hi,rfl,rfl,u⟩
   simp only [nm_eq,nm_eq,abQ,↓reduceIte,iQ2,qF,qP,zx,nQ1,nQ2,nQ3,nQ4,nQ5,nQ6,lQ1,lQ2,lQ3,lQ4,lQ5,lQ6,lQ7,lQ8,nQ7,nQ8,zh,zR,zK,zL,zF,nQ9,iQ3,iQ4,iQ5,iQ6,qL,qM,zw,zX,zi,zS,zT,recOf,zW,zI,zJ,zU,zk,lQ9,lQ10,nQ10,if_true,if_false,ite_true,ite_false,lQ11,lQ12,oQ1,oQ2,reduceCtorEq,decide_true,decide_false,bQ1,bQ2,ze,zQ,zY,zO,zZ,zN,z8,zP,zf,zg,lQ13,lQ14,qJ,zu,qG,zq,qH,zo,qQ,zt,qK,lQ15,lQ16,bQ3,bQ4,bQ5,true_and,and_true,bQ6,bQ7,lQ17,lQ18,bQ8,bQ9,bQ10,bQ11,eq_self,nQ11,nQ12,nQ13,nQ14,nQ15]
   split
   ·have hlt:i<xs.length:=by omega
    obtain⟨v,hv1,hv2,hv3,hv4,hv5,hv6⟩:=mkT_I.step hr hWs n2 hv.2 hlt u;have hld:h'.rd1 o i=some (er idz v):=by
     rw [Z6 (by rw [u.same o hz (qf.2 fun hm=>n1 (zDP (mkT_I.keysS (hr.take i) (ZJ.2 fun c hc=>ZJ.1 hWs c (List.mem_of_mem_take hc)) o hm)))];exact ho)]
     rw [QJ,hv1];rfl
    have ht:=zAo (len:=List.length) hlt;have htl:=zCs List.length xs (i+1);have hbi:=hb2 _ (List.getElem_mem hlt);simp only [nm_eq,nm_eq,abQ,↓reduceIte,iQ2,qF,qP,zx,nQ1,nQ2,nQ3,nQ4,nQ5,nQ6,lQ1,lQ2,lQ3,lQ4,lQ5,lQ6,lQ7,lQ8,nQ7,nQ8,zh,zR,zK,zL,zF,nQ9,iQ3,iQ4,iQ5,iQ6,qL,qM,zw,zX,zi,zS,zT,recOf,zW,zI,zJ,zU,zk,lQ9,lQ10,nQ10,if_true,if_false,ite_true,ite_false,lQ11,lQ12,oQ1,oQ2,reduceCtorEq,decide_true,decide_false,bQ1,bQ2,ze,zQ,zY,zO,zZ,zN,z8,zP,zf,zg,lQ13,lQ14,qJ,zu,qG,zq,qH,zo,qQ,zt,qK,lQ15,lQ16,bQ3,bQ4,bQ5,true_and,and_true,bQ6,bQ7,lQ17,lQ18,bQ8,bQ9,bQ10,bQ11,eq_self,nQ11,nQ12,nQ13,nQ14,nQ15,zAd hlt,hld,wrapS hlt (by omega:xs.length≤4611686018427387904)]
    refine zA1 hv2 hv3 u.wf hv5 hbi (by omega) (by omega) fun h'' u'=>?_
    simp only [nm_eq,nm_eq,abQ,↓reduceIte,iQ2,qF,qP,zx,nQ1,nQ2,nQ3,nQ4,nQ5,nQ6,lQ1,lQ2,lQ3,lQ4,lQ5,lQ6,lQ7,lQ8,nQ7,nQ8,zh,zR,zK,zL,zF,nQ9,iQ3,iQ4,iQ5,iQ6,qL,qM,zw,zX,zi,zS,zT,recOf,zW,zI,zJ,zU,zk,lQ9,lQ10,nQ10,if_true,if_false,ite_true,ite_false,lQ11,lQ12,oQ1,oQ2,reduceCtorEq,decide_true,decide_false,bQ1,bQ2,ze,zQ,zY,zO,zZ,zN,z8,zP,zf,zg,lQ13,lQ14,qJ,zu,qG,zq,qH,zo,qQ,zt,qK,lQ15,lQ16,bQ3,bQ4,bQ5,true_and,and_true,bQ6,bQ7,lQ17,lQ18,bQ8,bQ9,bQ10,bQ11,eq_self,nQ11,nQ12,nQ13,nQ14,nQ15,wrapS hlt (by omega:xs.length≤4611686018427387904)]
    exact⟨_,by omega,i+1,by omega,rfl,(by(simp only [nm_eq,nm_eq,abQ,↓reduceIte,iQ2,qF,qP,zx,nQ1,nQ2,nQ3,nQ4,nQ5,nQ6,lQ1,lQ2,lQ3,lQ4,lQ5,lQ6,lQ7,lQ8,nQ7,nQ8,zh,zR,zK,zL,zF,nQ9,iQ3,iQ4,iQ5,iQ6,qL,qM,zw,zX,zi,zS,zT,recOf,zW,zI,zJ,zU,zk,lQ9,lQ10,nQ10,if_true,if_false,ite_true,ite_false,lQ11,lQ12,oQ1,oQ2,reduceCtorEq,decide_true,decide_false,bQ1,bQ2,ze,zQ,zY,zO,zZ,zN,z8,zP,zf,zg,lQ13,lQ14,qJ,zu,qG,zq,qH,zo,qQ,zt,qK,lQ15,lQ16,bQ3,bQ4,bQ5,true_and,and_true,bQ6,bQ7,lQ17,lQ18,bQ8,bQ9,bQ10,bQ11,eq_self,nQ11,nQ12,nQ13,nQ14,nQ15,List.cons.injEq,AV.int.injEq,AV.sl.injEq,and_self])<;>omega),hv6 _ u'⟩
   ·have hie:i=xs.length:=by omega
    subst hie;rw [List.take_length,List.take_of_length_le (by rw [hr.1];exact Nat.le_refl _)]at u
    rw [List.take_length];exact hk _ u
end
section
variable {σ:PHeap} {K:PV→PHeap→Prop} {p:Int} {W:List (List Int)} {B:List (List (List Int))} {vP vB:PV} {lo hi:Nat}
theorem zDe {v:PV} {xs:List Int} {k:Int} (hI:FI v (seqI k xs.length)) (hb:xs.length≤4294967296) (hk0:0≤k) (hk1:k≤4611686018427387904) (hk:K (.int .i64 (k+xs.length)) σ):zA Try.prog 100 [v,.int .i64 k] σ K:=by
 obtain⟨w,a,rfl⟩:=hI;have hl:=ZQ xs.length k;have hg:=zDr xs.length k;generalize seqI k xs.length=ys at *
 refine zB mix Try.func100 ?_
 conv=>arg 2;cbv
 refine zC rfl ?_;simp only [pwA,seval,-iQ0];refine zM (fun m vs h'=>∃i:Nat,i≤ys.length∧m=ys.length-i∧vs=[.fz w a ys.length (pis ys),.int .i64 (k+(i:Int)),.int .i64 i]∧σ=h') ys.length ?_ ?_
 ·exact⟨0,by omega,by omega,by rw [show k+((0:Nat):Int)=k by omega];rfl,rfl⟩
 rintro m vs h' ⟨i,hi,rfl,rfl,rfl⟩
 simp only [pwA,seval,-iQ0];refine iteI (fun hlt=>?_) fun hge=>?_
 ·simp only [pwA,seval,-iQ0,hlt,gi hlt,hg i hlt,qO,wrapS hlt (by omega:ys.length≤4611686018427387904),wrap64 (n:=k+(i:Int)+1) (by omega) (by omega)]
  refine⟨_,by omega,i+1,by omega,rfl,?_⟩
  have:k+(i:Int)+1=k+((i+1:Nat):Int):=by omega
  rw [this]
 ·have hie:i=xs.length:=by omega
  subst hie;exact hk
theorem zC4 {v:PV} {xs:List (List Int)} {k:Int} (hI:FII v (sqL sqI List.length k xs)) (hb:xs.length≤4294967296) (hb2:∀x∈xs,x.length≤4294967296) (hk0:0≤k) (hk1:k+totL List.length xs≤4611686018427387904) (hk:K (.int .i64 (k+totL List.length xs)) σ):zA Try.prog 59 [v,.int .i64 k] σ K:=by
 obtain⟨w,a,rows,rfl,hr⟩:=hI;have hl:=Z4 sqI List.length xs k;have hg:∀(i:Nat) (hi:i<xs.length) (h2:i<(sqL sqI List.length k xs).length),(sqL sqI List.length k xs)[i]=sqI (k+totL List.length (xs.take i)) xs[i]:=fun i hi _=>zGB sqI List.length xs k i hi
 generalize sqL sqI List.length k xs=ys at *
 refine zB mix Try.func59 ?_
 conv=>arg 2;cbv
 refine zC rfl ?_;simp only [pwA,seval,-iQ0];refine zM (fun m vs h'=>∃i:Nat,i≤ys.length∧m=ys.length-i∧vs=[.fz w a ys.length rows,.int .i64 (k+totL List.length (xs.take i)),.int .i64 i]∧σ=h') ys.length ?_ ?_
 ·exact⟨0,by omega,by omega,by rw [List.take_zero,zBv,show k+((0:Nat):Int)=k by omega];rfl,rfl⟩
 rintro m vs h' ⟨i,hi,rfl,rfl,rfl⟩
 simp only [pwA,seval,-iQ0];refine iteI (fun hlt=>?_) fun hge=>?_
 ·have hlx:i<xs.length:=by omega
  obtain⟨w4,a4,hrk⟩:=hr.rowI hlt;have ht:=zAo (len:=List.length) hlx;have htl:=zCs List.length xs (i+1);have hgi:=hg i hlx hlt;simp only [pwA,seval,-iQ0,hlt,hrk];have hbi:=hb2 _ (List.getElem_mem hlx);refine zDe (xs:=xs[i]) ⟨w4,a4,by rw [hgi,sqI]⟩ hbi (by omega) (by omega) ?_
  have hn:¬(k+(totL List.length (xs.take i):Int)+(xs[i].length:Int)<0):=by omega
  simp only [pwA,seval,-iQ0,hn,wrapS hlt (by omega:ys.length≤4611686018427387904)]
  refine⟨_,by omega,i+1,by omega,rfl,?_⟩
  have:k+(totL List.length (xs.take i):Int)+(xs[i].length:Int)=k+(totL List.length (xs.take (i+1)):Int):=by omega
  rw [this]
 ·have hie:i=xs.length:=by omega
  subst hie;rw [List.take_length];exact hk
theorem zGR {v:PV} {xs:List Int} (hI:FI v xs) (hb:xs.length≤1048576) (hk:∀v t,FI v xs→Own σ.top t v→σ.top≤t→K v (σ.up t)):zA Try.prog 96 [v] σ K:=
 zA.fzT (fun K'=>zBd hI hb) (ZI _ _) (Owns.pis _ _ _) fun o cap t h1 h2=>hk _ t ⟨_,_,rfl⟩ h1 h2
theorem zE7 {v:PV} {xs:List (List Int)} (hI:FII v xs) (sz:SzL xs) (hk:∀v t,FII v xs→Own σ.top t v→σ.top≤t→K v (σ.up t)):zA Try.prog 55 [v] σ K:=by
 obtain⟨w,a,rs,rfl,hr⟩:=hI;have hb:=sz.l;refine zA.gh ?_;refine zB mix Try.func55 ?_
 conv=>arg 2;cbv
 refine zC rfl ?_;simp only [pwA,seval,-iQ0,mk24 (n:=xs.length) (by omega),mkL (n:=xs.length) (by omega)]
 refine zM (fun m vs h'=>∃i:Nat,i≤xs.length∧m=xs.length-i∧vs=[.fz w a xs.length rs,.sl σ.next 0 xs.length (.known xs.length),.int .i64 i]∧∃rows t,rows.length=i∧All2 FI rows (xs.take i)∧Owns σ.top t rows∧σ.top≤t∧h'=(σ.new (rows++List.replicate (xs.length-i) (.fz true .nils 0 []))).up t) xs.length ?_ ?_
 ·exact⟨0,by omega,by omega,rfl,[],σ.top,rfl,by simpa using All2.nil _,Owns.nil _ _,Nat.le_refl _,by simp [PHeap.up,PHeap.new]⟩
 rintro m vs h' ⟨i,hi,rfl,rfl,rows,t,hrl,hra,hro,htt,rfl⟩
 simp only [pwA,seval,-iQ0];refine iteI (fun hlt=>?_) fun hge=>?_
 ·obtain⟨w4,a4,hrk⟩:=hr.rowI hlt
  simp only [pwA,seval,-iQ0,hlt,hrk];refine zGR ⟨_,_,rfl⟩ (sz.r _ (List.getElem_mem hlt)) fun r t2 hr' ho' ht'=>?_
  have hlen:i+1≤(rows++List.replicate (xs.length-i) (PV.fz true .nils 0 [])).length:=by simp;omega
  simp only [pwA,seval,-iQ0,hlt,hlen,hr'.cells,hr'.one,wrapS hlt (by omega:xs.length≤4611686018427387904)]
  refine⟨_,by omega,i+1,by omega,rfl,rfl,rows++[r],t2,by simp [hrl],?_,hro.snoc ho' htt ht',Nat.le_trans htt ht',?_⟩
  ·rw [List.take_succ_eq_append_getElem hlt];exact hra.snoc hr'
  ·rw [zDt hrl hlt];rfl
 ·have hie:i=xs.length:=by omega
  subst hie;rw [List.take_length]at hra
  rw [Nat.sub_self,List.replicate_zero,List.append_nil];exact Gh.own ((zG σ _).up htt) (by simp only [pwA,seval,-iQ0]) (Nat.le_refl _) (hra.bI 0) (by simp [capOK]) hro fun o t h1 h2=>hk _ t ⟨_,_,_,rfl,hra⟩ h1 h2
end
end Go.Proofs
namespace Go.Grp
end Go.Grp
namespace Go.Proofs
open Go.Ab Go.Lie Go.Grp Go.Mx
section
variable {h:AHeap} {K:AV→AHeap→Prop}
theorem zEV {p d k:Int} {vA:PV} {F:List (List Int)} (hA:FII vA F) (hW:Wh (.agg [.int .i64 p,.int .i64 d,vA])) (hnd:(ead (.agg [.int .i64 p,.int .i64 d,vA])).Nodup) (hw:HWF h) (hv:VOK (zlt h) h 0 (.agg [.int .i64 p,.int .i64 d,vA])) (sz:SzL F) (hk0:0≤k) (hk1:k+totL List.length F≤4611686018427387904)
  (hk:∀h',Upd h (mkF mkI List.length k vA F) h'→K (.int .i64 (k+totL List.length F)) h'):qV Try.prog 20 [er idz (.agg [.int .i64 p,.int .i64 d,vA]),.int .i64 k] h K:=by
 refine ZH mix Try.func20 cf20 rfl ?_;dsimp only [if20,mI0,kI0,lI0,fI0,C2,R0,S0];simp only [er,ers];obtain⟨_,_,hvA,_⟩:=hv;obtain⟨_,_,wA,_⟩:=hW;have oA:(er idz vA).one=true:=by rw [zEl hvA];exact hA.one
 have cA:=Qo oA;simp only [ead,eads,List.nil_append,List.append_nil]at hnd
 obtain⟨hh,he,hx1,hn,qq⟩:=box1 hw [.int .i64 p,.int .i64 d,er idz vA];have hzz:∀o,zlt h o→zlt hh o∧hh.obj o=h.obj o:=fun o ho=>⟨Nat.lt_of_lt_of_le ho hx1.next,hx1.obj o ho⟩
 have q:=qq _ (Ext.refl hx1.wf);have kA:=(mkT_I.F).keys (k:=k) hA wA;simp only [nm_eq,nm_eq,abQ,↓reduceIte,iQ2,qF,qP,zx,nQ1,nQ2,nQ3,nQ4,nQ5,nQ6,lQ1,lQ2,lQ3,lQ4,lQ5,lQ6,lQ7,lQ8,nQ7,nQ8,zh,zR,zK,zL,zF,nQ9,iQ3,iQ4,iQ5,iQ6,qL,qM,zw,zX,zi,zS,zT,recOf,zW,zI,zJ,zU,zk,lQ9,lQ10,nQ10,if_true,if_false,ite_true,ite_false,lQ11,lQ12,oQ1,oQ2,reduceCtorEq,decide_true,decide_false,bQ1,bQ2,ze,zQ,zY,zO,zZ,zN,z8,zP,zf,zg,lQ13,lQ14,qJ,zu,qG,zq,qH,zo,qQ,zt,qK,lQ15,lQ16,bQ3,bQ4,bQ5,true_and,and_true,bQ6,bQ7,lQ17,lQ18,bQ8,bQ9,bQ10,bQ11,eq_self,nQ11,nQ12,nQ13,nQ14,nQ15,he,oA,cA,Z6 q];refine zDb hA wA hnd hx1.wf (hvA.mono hzz (Nat.le_refl _)) (by have:=sz.l;omega) (fun x hx=>by have:=sz.r x hx;omega) (by omega) (by omega) fun h1 u1=>?_
 have u4:=hx1.upd.trans u1 (fun o ho=>by cases ho) fun o ho=>ead_z hvA o (kA o ho)
 simp only [nm_eq,nm_eq,abQ,↓reduceIte,iQ2,qF,qP,zx,nQ1,nQ2,nQ3,nQ4,nQ5,nQ6,lQ1,lQ2,lQ3,lQ4,lQ5,lQ6,lQ7,lQ8,nQ7,nQ8,zh,zR,zK,zL,zF,nQ9,iQ3,iQ4,iQ5,iQ6,qL,qM,zw,zX,zi,zS,zT,recOf,zW,zI,zJ,zU,zk,lQ9,lQ10,nQ10,if_true,if_false,ite_true,ite_false,lQ11,lQ12,oQ1,oQ2,reduceCtorEq,decide_true,decide_false,bQ1,bQ2,ze,zQ,zY,zO,zZ,zN,z8,zP,zf,zg,lQ13,lQ14,qJ,zu,qG,zq,qH,zo,qQ,zt,qK,lQ15,lQ16,bQ3,bQ4,bQ5,true_and,and_true,bQ6,bQ7,lQ17,lQ18,bQ8,bQ9,bQ10,bQ11,eq_self,nQ11,nQ12,nQ13,nQ14,nQ15];exact hk _ (by simpa using u4)
end
section
variable {σ:PHeap} {K:PV→PHeap→Prop} {p d:Int} {O:List Int} {P:List (List Int)} {C As:List (List (List Int))} {F:List (List Int)} {vO vP vC vA:PV} {lo hi:Nat}
theorem zDH {k:Int} (hA:FII vA F) (hW:Wh (.agg [.int .i64 p,.int .i64 d,vA])):∀o∈(mkF mkI List.length k vA F).map Prod.fst,o∈ead (.agg [.int .i64 p,.int .i64 d,vA]):=by
 obtain⟨_,_,wA,_⟩:=hW;intro o ho;simp only [ead,eads,List.nil_append,List.append_nil];exact mkT_I.F.keys hA wA o ho
theorem keysX {k:Int} (hA:FII vA F) (ho:Own lo hi (.agg [.int .i64 p,.int .i64 d,vA])):∀o∈(mkF mkI List.length k vA F).map Prod.fst,lo≤o∧o<hi:=fun o hm=>ho.lt o (zDH hA ho.wh o hm)
theorem zA0 {k:Int} (hA:FII vA F) (ho:Own lo hi (.agg [.int .i64 p,.int .i64 d,vA])) (sz:SzL F) (hk0:0≤k) (hk1:k+totL List.length F≤4611686018427387904):
  QU Try.prog 20 [.agg [.int .i64 p,.int .i64 d,vA],.int .i64 k] σ (mkF mkI List.length k vA F) .i64 (k+totL List.length F):=
 QU.of ⟨trivial,trivial,hA.bel 0,trivial⟩ (zDH hA ho.wh) fun h hw hv=>zEV hA ho.wh ho.nd hw hv sz hk0 hk1 fun h' u=>⟨rfl,u⟩
theorem Owns.mod {lo t:Nat} {v:PV} (h:Own lo t v) (hl:lo≤t):Own lo t (.agg [.int .i64 p,.int .i64 d,v]):=
 ((((Owns.nil lo lo).snoc (Own.int _ _ .i64 p) (Nat.le_refl _) (Nat.le_refl _)).snoc (Own.int _ _ .i64 d) (Nat.le_refl _) (Nat.le_refl _)).snoc h (Nat.le_refl _) hl).agg
theorem zAq {xs:List (List Int)} (sz:SzL xs):totL List.length xs≤1099511627776:=by
 have h3:=zGA (m:=1048576) (len:=List.length) sz.r;have h4:=sz.l;omega
end
end Go.Proofs
namespace Go.Grp
end Go.Grp
namespace Go.Proofs
open Go.Ab Go.Lie Go.Grp Go.Mx
variable {σ:PHeap} {K:PV→PHeap→Prop} {p d:Int} {n na:Nat} {v w x y xs ys:List Int} {A B M F vals:List (List Int)} {As:List (List (List Int))} {vA vB vM vv vx vw vV v0:PV} {O:List Int} {P:List (List Int)} {C:List (List (List Int))} {vO vP vC:PV} {s sp:Nat}
open Classical in
theorem zId {vL:PV} {xs:List (List Int)} (hL:FII vL xs) (sz:SzL xs) (hk:∀v,FII v xs→K v σ):zA Try.prog 89 [vL] σ K:=by
 have hb:=sz.l;obtain⟨wl,al,rl,rfl,hrl⟩:=hL;refine zA.gh ?_;refine zB mix Try.func89 ?_
 conv=>arg 2;cbv
 refine zC rfl ?_;simp only [pwA,seval,-iQ0];refine zM (fun m vs h'=>∃i v rows,i≤xs.length∧m=xs.length-i∧vs=[.fz wl al xs.length rl,v,.int .i64 (i:Nat)]∧Keep σ h'∧PSl σ.next 1 h' v i rows∧All2 FI rows (xs.take i)) xs.length ?_ ?_
 ·exact⟨0,_,[],by omega,by omega,rfl,zG σ _,PSl.new σ.next 1 rfl (Nat.le_refl _),by simpa using All2.nil _⟩
 ·rintro m vs h' ⟨i,v,rows,hi,rfl,rfl,hkp,ha,hall⟩
  simp only [pwA,seval,-iQ0];refine iteI (fun hlt=>?_) fun hge=>?_
  ·obtain⟨w4,a4,hrk⟩:=hrl.rowI hlt
   simp only [pwA,seval,-iQ0,hlt,hrk];refine zA.fz (e:=1) (fun K'=>zA5 rfl (by have:=sz.r _ (List.getElem_mem hlt);omega)) (ZI _ _) fun o cap=>?_
   simp only [pwA,seval,-iQ0];refine PSl.push (bytes:=24) (σb:=σ) hkp ha (by omega) (by omega) fun v2 h2 k2 a2=>?_
   simp only [pwA,seval,-iQ0,wrapS hlt (by omega:xs.length≤4611686018427387904)]
   refine⟨_,by omega,i+1,v2,_,by omega,rfl,rfl,k2,a2,?_⟩
   rw [List.take_succ_eq_append_getElem hlt];exact hall.snoc ⟨_,_,rfl⟩
  ·have hie:i=xs.length:=by omega
   subst hie;rw [List.take_length]at hall
   exact ha.fin hkp (hall.bI 0) fun o cap=>hk _ ⟨_,_,_,rfl,hall⟩
theorem zG4 (hF:FII vM F) (sz:SzL F) (hk:∀v,FII v F→K (.agg [.int .i64 p,.int .i64 d,v]) σ):zA Try.prog 47 [.int .i64 p,.int .i64 d,vM] σ K:=by
 refine zA.gh ?_;refine zB mix Try.func47 ?_
 conv=>arg 2;cbv
 refine zC rfl ?_;simp only [pwA,seval,-iQ0];refine zId hF sz fun v hv=>?_
 simp only [pwA,seval,-iQ0,hv.one,hv.cells];exact Gh.fin0 (zG σ _) ⟨trivial,trivial,hv.bel _,trivial⟩ (hk _ hv)
theorem zAh {k:Int} (hI:FII vM (sqL sqI List.length k F)) (sz:SzL F) (hk0:0≤k) (hk1:k+totL List.length F≤4611686018427387904) (hk:K (.int .i64 (k+totL List.length F)) σ):zA Try.prog 21 [.agg [.int .i64 p,.int .i64 d,vM],.int .i64 k] σ K:=by
 have h1:=hI.one;refine zA.gh ?_;refine zB mix Try.func21 ?_
 conv=>arg 2;cbv
 refine zC rfl ?_;simp only [pwA,seval,-iQ0,h1];refine zC4 hI (by have:=sz.l;omega) (fun y hy=>by have:=sz.r y hy;omega) hk0 hk1 ?_
 have hn:¬(k+(totL List.length F:Int)<0):=by omega
 simp only [pwA,seval,-iQ0,hn];exact Gh.fin0 (zG σ _) trivial hk
end Go.Proofs
namespace Go.Grp
end Go.Grp
namespace Go.Proofs
open Go.Ab Go.Lie Go.Grp Go.Mx
variable {σ H:PHeap} {K:PV→PHeap→Prop} {p p' c c' a b:Int} {n m r:Nat} {x y bs:List Int} {A B F F' u xs ys:List (List Int)} {v vx vy va vb vA vB vF vF' vC:PV}
theorem res3 (hor:H.obj r=some [.int .i64 0,.int .i64 0,.fz true .nils 0 []]) (hv:v.one=true):
  H.wr r 0 [.int .i64 a,.int .i64 b,v]=some (H.set r [.int .i64 a,.int .i64 b,v])∧(H.set r [.int .i64 a,.int .i64 b,v]).rd r 0 3=some [.int .i64 a,.int .i64 b,v]:=
 ⟨by rw [zCS hor,if_pos ⟨by simp,by simp only [List.all_cons,List.all_nil,hv];rfl⟩];rfl,by rw [zGF,if_pos rfl];rfl⟩
def RetM (K:PV→PHeap→Prop) (σ:PHeap) (r:(Int×Int×List (List Int))×Int):Prop:=∀v,FII v r.1.2.2→K (.tup [.agg [.int .i64 r.1.1,.int .i64 r.1.2.1,v],.int .i64 r.2]) σ
theorem RetM.fin {R:(Int×Int×List (List Int))×Int} (k:RetM K σ R) {e:Int} {h:PHeap} (hk:Keep σ h) (hv:FII v A) (hR:R=((a,b,A),e)):Gh σ K (.tup [.agg [.int .i64 a,.int .i64 b,v],.int .i64 e]) h:=by
 subst hR;exact Gh.fin0 hk ⟨⟨trivial,trivial,hv.bel _,trivial⟩,trivial,trivial⟩ (k v hv)
theorem nilM:FII (.fz true .nils 0 []) []:=⟨true,.nils,[],rfl,All2.nil _⟩
theorem mx_n (h:isMx p c F):∃n:Nat,c=(n:Int)∧n≤8∧isP p∧F.length≤8∧Ma p n F:=by
 obtain⟨h1,h2,h3,h4⟩:=h;exact⟨c.toNat,by omega,by omega,h1,h3,h4⟩
open Classical in
theorem zHb (hp:isP p) (hL:∀r∈A,El p n r) (hn:n≤64) (hll:A.length≤64) (hvL:FII vA A) (hk:∀z u,FII z u→Canon p n (W0 n) A u→K (.agg [.int .i64 p,.int .i64 n,z]) σ):zA Try.prog 69 [.int .i64 p,.int .i64 n,vA] σ K:=by
 refine zA.gh ?_;generalize hH:σ.new [.int .i64 0,.int .i64 0,.fz true .nils 0 []]=H;have hkp:Keep σ H:=by rw [←hH];exact zG σ _
 have hor:H.obj σ.next=some [.int .i64 0,.int .i64 0,.fz true .nils 0 []]:=by rw [←hH];simp only [pwA,seval,-iQ0]
 refine zB mix Try.func69 ?_
 conv=>arg 2;cbv
 refine zC rfl ?_;simp only [pwA,seval,-iQ0];rw [hH];simp only [pwA,seval,-iQ0];refine zDR hp hL hn hll hvL fun z u hz hu=>?_
 obtain⟨w1,r1⟩:=res3 (a:=p) (b:=(n:Int)) hor hz.one;simp only [pwA,seval,-iQ0,w1,r1,hz.one,hz.cells];exact Gh.fin0 (hkp.set (by omega) _) ⟨trivial,trivial,hz.bel _,trivial⟩ (hk z u hz hu)
theorem zGY (hp:isP p) (hL:∀r∈A,El p n r) (hn:n≤64) (hll:A.length≤64) (hvL:FII vA A) (hk:∀z u,FII z u→Canon p n (W0 n) A u→K (.agg [.int .i64 p,.int .i64 n,z]) σ):zA Try.prog 51 [.agg [.int .i64 p,.int .i64 n,vA]] σ K:=by
 have h1:=hvL.one;refine zA.gh ?_;generalize hH:(σ.new [.int .i64 p,.int .i64 n,vA]).new [.int .i64 0,.int .i64 0,.fz true .nils 0 []]=H;have hkp:Keep σ H:=by rw [←hH];exact(zG σ _).new _
 have m0:H.rd1 σ.next 0=some (.int .i64 p):=by rw [←hH];simp only [pwA,seval,-iQ0]
 have m1:H.rd1 σ.next 1=some (.int .i64 n):=by rw [←hH];simp only [pwA,seval,-iQ0]
 have m2:H.rd1 σ.next 2=some vA:=by rw [←hH];simp only [pwA,seval,-iQ0]
 have hor:H.obj (σ.next+1)=some [.int .i64 0,.int .i64 0,.fz true .nils 0 []]:=by rw [←hH];simp only [pwA,seval,-iQ0]
 refine zB mix Try.func51 ?_
 conv=>arg 2;cbv
 refine zC rfl ?_;simp only [pwA,seval,-iQ0,h1];rw [hH];simp only [pwA,seval,-iQ0,m0,m1,m2];refine zHb hp hL hn hll hvL fun z u hz hu=>?_
 obtain⟨w1,r1⟩:=res3 (a:=p) (b:=(n:Int)) hor hz.one;simp only [pwA,seval,-iQ0,w1,r1,hz.one,hz.cells];exact Gh.fin0 (hkp.set (by omega) _) ⟨trivial,trivial,hz.bel _,trivial⟩ (hk z u hz hu)
end Go.Proofs
namespace Go.Grp
end Go.Grp
namespace Go.Proofs
open Go.Ab Go.Lie Go.Grp Go.Mx
variable {σ h:PHeap} {K:PV→PHeap→Prop} {p c:Int} {n m s:Nat} {x y v w b:List Int} {A B F u:List (List Int)} {vA vB vF vU v0 vx vb:PV} {rows:List SR}
def isSp (p c:Int) (F:List (List Int)):Prop:=isMx p c F∧Canon p c.toNat (W0 c.toNat) F F
theorem zDA (sz:SzL F) (hF:FII vF F) (hk:∀t:Bool,(t=true↔isSp p c F)→K (.bool t) σ):zA Try.prog 56 [.agg [.int .i64 p,.int .i64 c,vF]] σ K:=by
 have h1:=hF.one;refine zA.gh ?_;generalize hH:σ.new [.int .i64 p,.int .i64 c,vF]=H;have hkp:Keep σ H:=by rw [←hH];exact zG σ _
 have hob:H.obj σ.next=some [.int .i64 p,.int .i64 c,vF]:=by rw [←hH];simp only [pwA,seval,-iQ0]
 have g0:H.rd σ.next 0 3=some [.int .i64 p,.int .i64 c,vF]:=by rw [zAD hob];rfl
 have m2:H.rd1 σ.next 2=some vF:=by rw [qw hob];rfl
 refine zB mix Try.func56 ?_
 conv=>arg 2;cbv
 refine zC rfl ?_;simp only [pwA,seval,-iQ0,h1];rw [hH];simp only [pwA,seval,-iQ0,g0];refine zBL sz hF fun t ht=>?_
 cases t with
 | false=>
  simp only [pwA,seval,-iQ0,g0];exact Gh.fin0 hkp trivial (hk false ⟨fun h=>(by cases h),fun h=>(by cases ht.2 h.1)⟩)
 | true=>
 have hm:=ht.1 rfl;obtain⟨n,rfl,hn,hp,hl,hA⟩:=mx_n hm;have hq:pr7 p:=hp;simp only [pwA,seval,-iQ0,g0,m2];refine zGY hp (ma_el hA) (by omega) (by omega) hF fun z u hz hu=>?_
 have ul:u.length≤F.length:=zCz hq (ma_el hA) hu;have z1:=hz.one;have z2:=hz.cells;simp only [pwA,seval,-iQ0,g0,m2,z1,z2];refine zFA hz hF (by omega) (fun x hx=>by have:=(hu.base.els _ hx).1;omega) fun t ht2=>?_
 simp only [pwA,seval,-iQ0,g0,m2];refine Gh.fin0 hkp trivial (hk t ⟨fun h=>⟨hm,?_⟩,fun h=>ht2.2 ?_⟩)
 ·rw [Int.toNat_natCast]
  have:=ht2.1 h
  subst this;exact hu
 ·have:=h.2
  rw [Int.toNat_natCast]at this
  exact hu.unique (W0_ok hq.ok _) this
theorem zC9 (sz:SzL F) (hF:FII vF F) (hk:∀t:Bool,(t=true↔isSp p c F)→K (.bool t) σ):zA Try.prog 53 [.agg [.int .i64 p,.int .i64 c,vF]] σ K:=by
 have h1:=hF.one;refine zA.gh ?_;generalize hH:σ.new [.int .i64 p,.int .i64 c,vF]=H;have hkp:Keep σ H:=by rw [←hH];exact zG σ _
 have hob:H.obj σ.next=some [.int .i64 p,.int .i64 c,vF]:=by rw [←hH];simp only [pwA,seval,-iQ0]
 have g0:H.rd σ.next 0 3=some [.int .i64 p,.int .i64 c,vF]:=by rw [zAD hob];rfl
 have m0:H.rd1 σ.next 0=some (.int .i64 p):=by rw [qw hob];rfl
 have m2:H.rd1 σ.next 2=some vF:=by rw [qw hob];rfl
 refine zB mix Try.func53 ?_
 conv=>arg 2;cbv
 refine zC rfl ?_;simp only [pwA,seval,-iQ0,h1];rw [hH];simp only [pwA,seval,-iQ0,g0];refine zA4 sz hF fun t ht=>?_
 cases t with
 | false=>
  simp only [pwA,seval,-iQ0,g0];exact Gh.fin0 hkp trivial (hk false ⟨fun h=>(by cases h),fun h=>(by cases ht.2 h.1)⟩)
 | true=>
 have hm:=ht.1 rfl;obtain⟨n,rfl,hn,hp,hl,hA⟩:=mx_n hm;have hq:pr7 p:=hp;simp only [pwA,seval,-iQ0,g0,m0,m2];refine zA3 hp (ma_el hA) (by omega) (by omega) hF fun z u hz hu=>?_
 have ul:u.length≤F.length:=zCz hq (ma_el hA) hu;have z1:=hz.one;have z2:=hz.cells;simp only [pwA,seval,-iQ0,g0,m0,m2,z1,z2];refine zFn hz hF (by omega) (fun x hx=>by have:=(hu.base.els _ hx).1;omega) fun t ht2=>?_
 simp only [pwA,seval,-iQ0,g0,m0,m2];refine Gh.fin0 hkp trivial (hk t ⟨fun h=>⟨hm,?_⟩,fun h=>ht2.2 ?_⟩)
 ·rw [Int.toNat_natCast]
  have:=ht2.1 h
  subst this;exact hu
 ·have:=h.2
  rw [Int.toNat_natCast]at this
  exact hu.unique (W0_ok hq.ok _) this
end Go.Proofs
namespace Go.Grp
end Go.Grp
namespace Go.Proofs
open Go.Ab Go.Lie Go.Grp Go.Mx
variable {σ h:PHeap} {K:PV→PHeap→Prop} {p p' c c':Int} {n m s:Nat} {x y v w b:List Int} {A B F F' u:List (List Int)} {vA vB vF vF' vU v0 vx vb:PV} {rows:List SR}
def Img (p c:Int) (F:List (List Int)) (p' c':Int) (F':List (List Int)) (r:(Int×Int×List (List Int))×Int):Prop:=
 (¬(isSp p c F∧isMx p' c' F')∧r=((0,0,[]),1))∨(isSp p c F∧isMx p' c' F'∧¬(p=p'∧(F'.length:Int)=c)∧r=((0,0,[]),2))∨
 (isSp p c F∧isMx p' c' F'∧(p=p'∧(F'.length:Int)=c)∧∃U,Canon p c'.toNat (W0 c'.toNat) (mm p c'.toNat F F') U∧r=((p,c',U),0))
theorem Img.unique {r r':(Int×Int×List (List Int))×Int} (a:Img p c F p' c' F' r) (a':Img p c F p' c' F' r'):r=r':=by
 rcases a with ⟨a1,rfl⟩|⟨a1,a2,a3,rfl⟩|⟨a1,a2,a3,U,a4,rfl⟩
 ·rcases a' with ⟨b1,rfl⟩ | ⟨b1,b2,b3,rfl⟩ | ⟨b1,b2,b3,U',b4,rfl⟩
  ·rfl
  ·exact absurd ⟨b1,b2⟩ a1
  ·exact absurd ⟨b1,b2⟩ a1
 ·rcases a' with ⟨b1,rfl⟩ | ⟨b1,b2,b3,rfl⟩ | ⟨b1,b2,b3,U',b4,rfl⟩
  ·exact absurd ⟨a1,a2⟩ b1
  ·rfl
  ·exact absurd b3 a3
 ·rcases a' with ⟨b1,rfl⟩ | ⟨b1,b2,b3,rfl⟩ | ⟨b1,b2,b3,U',b4,rfl⟩
  ·exact absurd ⟨a1,a2⟩ b1
  ·exact absurd a3 b3
  ·have hq:pr7 p:=a1.1.1
   obtain rfl:U=U':=a4.unique (W0_ok hq.ok _) b4
   rfl
theorem zCo (hF:FII vF F) (sz:SzL F) (hF':FII vF' F') (sz':SzL F') (hk:∀r,Img p c F p' c' F' r→RetM K σ r):zA Try.prog 16 [.agg [.int .i64 p,.int .i64 c,vF],.agg [.int .i64 p',.int .i64 c',vF']] σ K:=by
 have h1:=hF.one;have h2:=hF'.one;refine zA.gh ?_;generalize hH:((σ.new [.int .i64 p,.int .i64 c,vF]).new [.int .i64 p',.int .i64 c',vF']).new [.int .i64 0,.int .i64 0,.fz true .nils 0 []]=H;have hkp:Keep σ H:=by rw [←hH];exact((zG σ _).new _).new _
 have g0:H.rd σ.next 0 3=some [.int .i64 p,.int .i64 c,vF]:=by rw [←hH];simp only [pwA,seval,-iQ0]
 have g1:H.rd (σ.next+1) 0 3=some [.int .i64 p',.int .i64 c',vF']:=by rw [←hH];simp only [pwA,seval,-iQ0]
 have m0:H.rd1 σ.next 0=some (.int .i64 p):=by rw [←hH];simp only [pwA,seval,-iQ0]
 have m1:H.rd1 σ.next 1=some (.int .i64 c):=by rw [←hH];simp only [pwA,seval,-iQ0]
 have m9:H.rd1 σ.next 2=some vF:=by rw [←hH];simp only [pwA,seval,-iQ0]
 have m2:H.rd1 (σ.next+1) 0=some (.int .i64 p'):=by rw [←hH];simp only [pwA,seval,-iQ0]
 have m4:H.rd1 (σ.next+1) 1=some (.int .i64 c'):=by rw [←hH];simp only [pwA,seval,-iQ0]
 have m3:H.rd1 (σ.next+1) 2=some vF':=by rw [←hH];simp only [pwA,seval,-iQ0]
 have hor:H.obj (σ.next+2)=some [.int .i64 0,.int .i64 0,.fz true .nils 0 []]:=by rw [←hH];simp only [pwA,seval,-iQ0]
 obtain⟨w0,r0⟩:=res3 (a:=0) (b:=0) hor (v:=.fz true .nils 0 []) rfl;have no:∀e,Img p c F p' c' F' ((0,0,[]),e)→Gh σ K (.tup [.agg [.int .i64 0,.int .i64 0,.fz true .nils 0 []],.int .i64 e]) (H.set (σ.next+2) [.int .i64 0,.int .i64 0,.fz true .nils 0 []]):=fun e he=>(hk _ he).fin (hkp.set (by omega) _) nilM rfl
 refine zB mix Try.func16 ?_
 conv=>arg 2;cbv
 refine zC rfl ?_;simp only [pwA,seval,-iQ0,h1,h2];rw [hH];simp only [pwA,seval,-iQ0,g0];refine zC9 sz hF fun t ht=>?_
 cases t with
 | false=>
  simp only [pwA,seval,-iQ0,w0,r0];exact no _ (.inl ⟨fun h=>(by cases ht.2 h.1),rfl⟩)
 | true=>
 have hs:=ht.1 rfl;have hm:=hs.1;simp only [pwA,seval,-iQ0,g1];refine zA4 sz' hF' fun t' ht'=>?_
 cases t' with
 | false=>
  simp only [pwA,seval,-iQ0,w0,r0];exact no _ (.inl ⟨fun h=>(by cases ht'.2 h.2),rfl⟩)
 | true=>
 have hm':=ht'.1 rfl;have hlen:pLen vF'=some (.int .i64 F'.length):=by obtain⟨w,a,r,rfl,_⟩:=hF';rfl
 by_cases hpp:p=p'
 rotate_left
 ·simp only [pwA,seval,-iQ0,m0,m2,hpp,w0,r0]
  exact no _ (.inr (.inl ⟨hs,hm',fun h=>hpp h.1,rfl⟩))
 subst hpp
 by_cases hc:(F'.length:Int)=c
 rotate_left
 ·simp only [pwA,seval,-iQ0,m0,m1,m2,m3,hlen,hc,w0,r0]
  exact no _ (.inr (.inl ⟨hs,hm',fun h=>hc h.2,rfl⟩))
 obtain⟨n,rfl,hn,hp,hl,hA⟩:=mx_n hm;obtain⟨n',rfl,hn',_,hl',hB⟩:=mx_n hm';have hnn:n=F'.length:=by omega
 subst hnn;have hq:pr7 p:=hp;have hmm:=mm_ma (by have:=hp.bd;omega) hA hB
 simp only [pwA,seval,-iQ0,m0,m1,m2,m3,m4,m9,hlen,g0,g1];refine zDc hp.bd hA hB hn' hl' hl hF hF' fun v hv=>?_
 simp only [pwA,seval,-iQ0,m0,m1,m2,m3,m4,m9];refine zA3 hp (ma_el hmm) (by rw [Zh];omega) (by omega) hv fun z U hz hU=>?_
 have hUl:=zCz hq (ma_el hmm) hU;rw [Zh]at hUl
 simp only [pwA,seval,-iQ0,m0,m1,m2,m3,m4,m9];refine zG4 hz ⟨by omega,fun r hr=>by have:=(hU.base.els _ hr).1;omega⟩ fun z hz=>?_
 obtain⟨w1,r1⟩:=res3 (a:=p) (b:=(n':Int)) hor hz.one;simp only [pwA,seval,-iQ0,w1,r1,hz.one,hz.cells];exact(hk _ (.inr (.inr ⟨hs,hm',⟨rfl,rfl⟩,U,by rw [Int.toNat_natCast];exact hU,rfl⟩))).fin (hkp.set (by omega) _) hz rfl
end Go.Proofs
namespace Go.Grp
end Go.Grp
namespace Go.Proofs
open Go.Ab Go.Lie Go.Grp Go.Mx
variable {σ h H g:PHeap} {K:PV→PHeap→Prop} {p p' c c':Int} {n m s:Nat} {x y v w b:List Int} {A B F F' u U M:List (List Int)} {vA vB vF vF' vU v0 vx vb:PV} {rows:List PV}
theorem zJM (hq:pr7 p) {L s:List (List Int)} (hs:Canon p n (W0 n) L s):s.length≤n:=by
 rcases Nat.eq_zero_or_pos s.length with h|h
 ·omega
 ·have h1:=zLk hs.base.asc (i:=s.length-1) (by omega)
  have h2:=(hs.base.led _ (List.getElem_mem (show s.length-1<s.length by omega))).2.1
  rw [qC (by omega)]at h1
  omega
end Go.Proofs
namespace Go.Grp
end Go.Grp
namespace Go.Proofs
open Go.Ab Go.Lie Go.Grp Go.Mx
variable {σ h H:PHeap} {K:PV→PHeap→Prop} {p p' c c' a b:Int} {n m r:Nat} {A F F' u:List (List Int)} {v vA vF vF':PV}
theorem res3u {t:Nat} (hor:H.obj r=some [.int .i64 0,.int .i64 0,.fz true .nils 0 []]) (hv:v.one=true):
  (H.wr r 0 [.int .i64 a,.int .i64 b,v]).map (fun h'=>h'.up t)=some ((H.up t).set r [.int .i64 a,.int .i64 b,v])∧((H.up t).set r [.int .i64 a,.int .i64 b,v]).rd r 0 3=some [.int .i64 a,.int .i64 b,v]:=by
 obtain⟨w1,r1⟩:=res3 (a:=a) (b:=b) (H:=H) (r:=r) hor hv;exact⟨by rw [w1];rfl,r1⟩
theorem zJB (hp:isP p) (hL:∀r∈A,El p n r) (hn:n≤64) (hll:A.length≤64) (hvL:FII vA A) (hk:∀z u t,FII z u→OwnC σ.top t z→σ.top≤t→Canon p n (W0 n) A u→K (.agg [.int .i64 p,.int .i64 n,z]) (σ.up t)):zA Try.prog 69 [.int .i64 p,.int .i64 n,vA] σ K:=by
 refine zA.gh ?_;generalize hH:σ.new [.int .i64 0,.int .i64 0,.fz true .nils 0 []]=H;have hkp:Keep σ H:=by rw [←hH];exact zG σ _
 have htop:H.top=σ.top:=by rw [←hH];rfl
 have hor:H.obj σ.next=some [.int .i64 0,.int .i64 0,.fz true .nils 0 []]:=by rw [←hH];simp only [pwA,seval,-iQ0]
 refine zB mix Try.func69 ?_
 conv=>arg 2;cbv
 refine zC rfl ?_;simp only [pwA,seval,-iQ0];rw [hH];simp only [pwA,seval,-iQ0];refine zDw hp hL hn hll hvL fun z u t hz ho ht hu=>?_
 rw [htop]at ho ht
 obtain⟨w1,r1⟩:=res3u (t:=t) (a:=p) (b:=(n:Int)) hor hz.one;simp only [pwA,seval,-iQ0,w1,r1,hz.one,hz.cells];exact Gh.fin0T ((hkp.up (by rw [htop];exact ht)).set (by omega) _) (Nat.le_refl _) ⟨trivial,trivial,hz.bel _,trivial⟩ fun _=>hk z u t hz ho ht hu
theorem zHj (hp:isP p) (hL:∀r∈A,El p n r) (hn:n≤64) (hll:A.length≤64) (hvL:FII vA A) (hk:∀z u t,FII z u→OwnC σ.top t z→σ.top≤t→Canon p n (W0 n) A u→K (.agg [.int .i64 p,.int .i64 n,z]) (σ.up t)):zA Try.prog 51 [.agg [.int .i64 p,.int .i64 n,vA]] σ K:=by
 have h1:=hvL.one;refine zA.gh ?_;generalize hH:(σ.new [.int .i64 p,.int .i64 n,vA]).new [.int .i64 0,.int .i64 0,.fz true .nils 0 []]=H;have hkp:Keep σ H:=by rw [←hH];exact(zG σ _).new _
 have htop:H.top=σ.top:=by rw [←hH];rfl
 have m0:H.rd1 σ.next 0=some (.int .i64 p):=by rw [←hH];simp only [pwA,seval,-iQ0]
 have m1:H.rd1 σ.next 1=some (.int .i64 n):=by rw [←hH];simp only [pwA,seval,-iQ0]
 have m2:H.rd1 σ.next 2=some vA:=by rw [←hH];simp only [pwA,seval,-iQ0]
 have hor:H.obj (σ.next+1)=some [.int .i64 0,.int .i64 0,.fz true .nils 0 []]:=by rw [←hH];simp only [pwA,seval,-iQ0]
 refine zB mix Try.func51 ?_
 conv=>arg 2;cbv
 refine zC rfl ?_;simp only [pwA,seval,-iQ0,h1];rw [hH];simp only [pwA,seval,-iQ0,m0,m1,m2];refine zJB hp hL hn hll hvL fun z u t hz ho ht hu=>?_
 rw [htop]at ho ht
 obtain⟨w1,r1⟩:=res3u (t:=t) (a:=p) (b:=(n:Int)) hor hz.one;simp only [pwA,seval,-iQ0,w1,r1,hz.one,hz.cells];exact Gh.fin0T ((hkp.up (by rw [htop];exact ht)).set (by omega) _) (Nat.le_refl _) ⟨trivial,trivial,hz.bel _,trivial⟩ fun _=>hk z u t hz ho ht hu
theorem zCn (hF:FII vF F) (sz:SzL F) (hF':FII vF' F') (sz':SzL F') (hk:∀r v t,Img p c F p' c' F' r→FII v r.1.2.2→OwnC σ.top t v→σ.top≤t→K (.tup [.agg [.int .i64 r.1.1,.int .i64 r.1.2.1,v],.int .i64 r.2]) (σ.up t)):zA Try.prog 18 [.agg [.int .i64 p,.int .i64 c,vF],.agg [.int .i64 p',.int .i64 c',vF']] σ K:=by
 have h1:=hF.one;have h2:=hF'.one;refine zA.gh ?_;generalize hH:((σ.new [.int .i64 p,.int .i64 c,vF]).new [.int .i64 p',.int .i64 c',vF']).new [.int .i64 0,.int .i64 0,.fz true .nils 0 []]=H;have hkp:Keep σ H:=by rw [←hH];exact((zG σ _).new _).new _
 have htop:H.top=σ.top:=by rw [←hH];rfl
 have g0:H.rd σ.next 0 3=some [.int .i64 p,.int .i64 c,vF]:=by rw [←hH];simp only [pwA,seval,-iQ0]
 have g1:H.rd (σ.next+1) 0 3=some [.int .i64 p',.int .i64 c',vF']:=by rw [←hH];simp only [pwA,seval,-iQ0]
 have m0:H.rd1 σ.next 0=some (.int .i64 p):=by rw [←hH];simp only [pwA,seval,-iQ0]
 have m1:H.rd1 σ.next 1=some (.int .i64 c):=by rw [←hH];simp only [pwA,seval,-iQ0]
 have m2:H.rd1 (σ.next+1) 0=some (.int .i64 p'):=by rw [←hH];simp only [pwA,seval,-iQ0]
 have m3:H.rd1 (σ.next+1) 2=some vF':=by rw [←hH];simp only [pwA,seval,-iQ0]
 have hor:H.obj (σ.next+2)=some [.int .i64 0,.int .i64 0,.fz true .nils 0 []]:=by rw [←hH];simp only [pwA,seval,-iQ0]
 obtain⟨w0,r0⟩:=res3 (a:=0) (b:=0) hor (v:=.fz true .nils 0 []) rfl;have no:∀e,Img p c F p' c' F' ((0,0,[]),e)→Gh σ K (.tup [.agg [.int .i64 0,.int .i64 0,.fz true .nils 0 []],.int .i64 e]) (H.set (σ.next+2) [.int .i64 0,.int .i64 0,.fz true .nils 0 []]):=fun e he=>Gh.fin0T (t:=σ.top) (hkp.set (by omega) _) (by show σ.top≤H.top;omega) ⟨⟨trivial,trivial,trivial,trivial⟩,trivial,trivial⟩ fun _=>hk _ _ σ.top he nilM (OwnC.nil _ _) (Nat.le_refl _)
 refine zB mix Try.func18 ?_
 conv=>arg 2;cbv
 refine zC rfl ?_;simp only [pwA,seval,-iQ0,h1,h2];rw [hH];simp only [pwA,seval,-iQ0,g0];refine zDA sz hF fun t ht=>?_
 cases t with
 | false=>
  simp only [pwA,seval,-iQ0,w0,r0];exact no _ (.inl ⟨fun h=>(by cases ht.2 h.1),rfl⟩)
 | true=>
 have hs:=ht.1 rfl;have hm:=hs.1;simp only [pwA,seval,-iQ0,g1];refine zBL sz' hF' fun t' ht'=>?_
 cases t' with
 | false=>
  simp only [pwA,seval,-iQ0,w0,r0];exact no _ (.inl ⟨fun h=>(by cases ht'.2 h.2),rfl⟩)
 | true=>
 have hm':=ht'.1 rfl;have hlen:pLen vF'=some (.int .i64 F'.length):=by obtain⟨w,a,r,rfl,_⟩:=hF';rfl
 by_cases hpp:p=p'
 rotate_left
 ·simp only [pwA,seval,-iQ0,m0,m2,hpp,w0,r0]
  exact no _ (.inr (.inl ⟨hs,hm',fun h=>hpp h.1,rfl⟩))
 subst hpp
 by_cases hc:(F'.length:Int)=c
 rotate_left
 ·simp only [pwA,seval,-iQ0,m0,m1,m2,m3,hlen,hc,w0,r0]
  exact no _ (.inr (.inl ⟨hs,hm',fun h=>hc h.2,rfl⟩))
 obtain⟨n,rfl,hn,hp,hl,hA⟩:=mx_n hm;obtain⟨n',rfl,hn',_,hl',hB⟩:=mx_n hm';have hnn:n=F'.length:=by omega
 subst hnn;have hmm:=mm_ma (by have:=hp.bd;omega) hA hB
 simp only [pwA,seval,-iQ0,m0,m1,m2,m3,hlen,g0,g1];refine zGg hp.bd hA hB hn' hl' hl hF hF' rfl fun v hv=>?_
 simp only [pwA,seval,-iQ0];refine zHj hp (ma_el hmm) (by omega) (by rw [Zh];omega) hv fun z U t hz ho ht hU=>?_
 rw [htop]at ho ht
 obtain⟨w1,r1⟩:=res3u (t:=t) (a:=p) (b:=(n':Int)) hor hz.one;simp only [pwA,seval,-iQ0,w1,r1,hz.one,hz.cells];exact Gh.fin0T ((hkp.up (by rw [htop];exact ht)).set (by omega) _) (Nat.le_refl _) ⟨⟨trivial,trivial,hz.bel _,trivial⟩,trivial,trivial⟩ fun _=>hk ((p,(n':Int),U),0) z t (.inr (.inr ⟨hs,hm',⟨rfl,rfl⟩,U,by rw [Int.toNat_natCast];exact hU,rfl⟩)) hz ho ht
end Go.Proofs
namespace Go.Grp
end Go.Grp
namespace Go.Proofs
open Go.Ab Go.Lie Go.Grp Go.Mx
section
variable {h:AHeap} {K:AV→AHeap→Prop} {lo hi:Nat}
theorem OwnC.rows {w:Bool} {a:AV} {l:Nat} {rs:List PV} (o:OwnC lo hi (.fz w a l rs)):(rs=[]∨isSl a=true)∧Whs rs:=by
 obtain⟨w',a',l',rs',e,h1,h2⟩:=o.ex;cases e;exact⟨h1,h2⟩
theorem zAz {k:Int} {v:PV} {xs:List (List Int)} (hI:FII v xs) (ho:OwnC lo hi v):∀o∈(mkF mkI List.length k v xs).map Prod.fst,o∈ead v:=by
 obtain⟨w,a,rows,rfl,hr⟩:=hI;obtain⟨h1,hWs⟩:=OwnC.rows ho;intro o ho
 by_cases hne:rows=[]
 ·subst hne
  simp [mkF,rowsOf,mkS]at ho
 ·obtain⟨o',off,l',cap,rfl⟩:=Qf (h1.resolve_left hne)
  rw [QB hne];exact List.mem_cons_of_mem _ (mkT_I.keysS hr hWs o ho)
theorem zLU {k:Int} {v:PV} {xs:List (List Int)} (hI:FII v xs) (ho:OwnC lo hi v):FII (rm (mkF mkI List.length k v xs) v) (sqL sqI List.length k xs):=by
 obtain⟨w,a,rows,rfl,hr⟩:=hI;obtain⟨h1,hWs⟩:=OwnC.rows ho;have hnd:=ho.nd
 by_cases hne:rows=[]
 ·subst hne
  have:=hr.nil_iff.1 rfl
  subst this;exact⟨w,a,[],rfl,All2.nil _⟩
 ·obtain⟨o',off,l',cap,rfl⟩:=Qf (h1.resolve_left hne)
  rw [QB hne]at hnd
  obtain⟨h1,h2⟩:=List.nodup_cons.1 hnd;have hl:(mkF mkI List.length k (.fz w (.sl o' off l' cap) xs.length rows) xs).lookup o'=none:=qf.2 fun hm=>h1 (mkT_I.keysS hr hWs o' hm)
  rw [rm_fz hne,hl];exact⟨w,.sl o' off l' cap,rms (mkS mkI List.length k rows xs) rows,by rw [Z4];rfl,mkT_I.rdS hr hWs h2⟩
theorem zDa {v:PV} {xs:List (List Int)} {k:Int} (hI:FII v xs) (hO:OwnC lo hi v) (hw:HWF h) (hv:VOK (zlt h) h 0 v) (hb:xs.length≤4294967296) (hb2:∀x∈xs,x.length≤4294967296) (hk0:0≤k) (hk1:k+totL List.length xs≤4611686018427387904)
  (hk:∀h',Upd h (mkF mkI List.length k v xs) h'→K (.int .i64 (k+totL List.length xs)) h'):qV Try.prog 58 [er idz v,.int .i64 k] h K:=by
 refine ZH mix Try.func58 cf58 rfl ?_;dsimp only [if58,mI0,kI0,lI0,xI0,bI0,cI0,sI0,C2,R0,S0];obtain⟨w,a,rows,rfl,hr⟩:=hI;obtain⟨hsl,hWs⟩:=OwnC.rows hO;have hnd:=hO.nd
 by_cases hne:rows=[]
 ·have hx:=hr.nil_iff.1 hne
  subst hne;subst hx;have hlen:aLen a=some (.int .i64 ((0:Nat):Int)):=by
   obtain⟨rfl,_⟩|⟨o,off,cap,rfl,_⟩:=hv.1<;>rfl
  simp only [nm_eq,nm_eq,abQ,↓reduceIte,iQ2,qF,qP,zx,nQ1,nQ2,nQ3,nQ4,nQ5,nQ6,lQ1,lQ2,lQ3,lQ4,lQ5,lQ6,lQ7,lQ8,nQ7,nQ8,zh,zR,zK,zL,zF,nQ9,iQ3,iQ4,iQ5,iQ6,qL,qM,zw,zX,zi,zS,zT,recOf,zW,zI,zJ,zU,zk,lQ9,lQ10,nQ10,if_true,if_false,ite_true,ite_false,lQ11,lQ12,oQ1,oQ2,reduceCtorEq,decide_true,decide_false,bQ1,bQ2,ze,zQ,zY,zO,zZ,zN,z8,zP,zf,zg,lQ13,lQ14,qJ,zu,qG,zq,qH,zo,qQ,zt,qK,lQ15,lQ16,bQ3,bQ4,bQ5,true_and,and_true,bQ6,bQ7,lQ17,lQ18,bQ8,bQ9,bQ10,bQ11,eq_self,nQ11,nQ12,nQ13,nQ14,nQ15,er];refine Qe (fun m vs h'=>vs=[a,.int .i64 k,.int .i64 0]∧h'=h) 0 ⟨rfl,rfl⟩ ?_
  rintro m vs h' ⟨rfl,rfl⟩
  simp only [nm_eq,nm_eq,abQ,↓reduceIte,iQ2,qF,qP,zx,nQ1,nQ2,nQ3,nQ4,nQ5,nQ6,lQ1,lQ2,lQ3,lQ4,lQ5,lQ6,lQ7,lQ8,nQ7,nQ8,zh,zR,zK,zL,zF,nQ9,iQ3,iQ4,iQ5,iQ6,qL,qM,zw,zX,zi,zS,zT,recOf,zW,zI,zJ,zU,zk,lQ9,lQ10,nQ10,if_true,if_false,ite_true,ite_false,lQ11,lQ12,oQ1,oQ2,reduceCtorEq,decide_true,decide_false,bQ1,bQ2,ze,zQ,zY,zO,zZ,zN,z8,zP,zf,zg,lQ13,lQ14,qJ,zu,qG,zq,qH,zo,qQ,zt,qK,lQ15,lQ16,bQ3,bQ4,bQ5,true_and,and_true,bQ6,bQ7,lQ17,lQ18,bQ8,bQ9,bQ10,bQ11,eq_self,nQ11,nQ12,nQ13,nQ14,nQ15,hlen,Int.lt_irrefl]
  have:=hk h' (Upd.refl hw)
  simpa [totL]using this
 ·obtain⟨_,_,e0⟩ | ⟨o,off,cap,rfl,hz,hrd,hcap,_⟩:=hv.1
  ·exact absurd (List.eq_nil_of_length_eq_zero (by rw [←zV (ι:=idz),e0];rfl)) hne
  have hrd:h.rd o off rows.length=some (ers idz rows):=by
   rcases hrd with e|e
   ·exact absurd (List.eq_nil_of_length_eq_zero (by rw [←zV (ι:=idz),e];rfl)) hne
   ·rwa [zV]at e
  rw [QB hne]at hnd
  obtain⟨n1,n2⟩:=List.nodup_cons.1 hnd;simp only [nm_eq,nm_eq,abQ,↓reduceIte,iQ2,qF,qP,zx,nQ1,nQ2,nQ3,nQ4,nQ5,nQ6,lQ1,lQ2,lQ3,lQ4,lQ5,lQ6,lQ7,lQ8,nQ7,nQ8,zh,zR,zK,zL,zF,nQ9,iQ3,iQ4,iQ5,iQ6,qL,qM,zw,zX,zi,zS,zT,recOf,zW,zI,zJ,zU,zk,lQ9,lQ10,nQ10,if_true,if_false,ite_true,ite_false,lQ11,lQ12,oQ1,oQ2,reduceCtorEq,decide_true,decide_false,bQ1,bQ2,ze,zQ,zY,zO,zZ,zN,z8,zP,zf,zg,lQ13,lQ14,qJ,zu,qG,zq,qH,zo,qQ,zt,qK,lQ15,lQ16,bQ3,bQ4,bQ5,true_and,and_true,bQ6,bQ7,lQ17,lQ18,bQ8,bQ9,bQ10,bQ11,eq_self,nQ11,nQ12,nQ13,nQ14,nQ15,er];refine Qe (fun m vs h'=>∃i:Nat,i≤xs.length∧m=xs.length-i∧vs=[.sl o off xs.length cap,.int .i64 (k+totL List.length (xs.take i)),.int .i64 i]∧Upd h (mkS mkI List.length k (rows.take i) (xs.take i)) h') xs.length ?_ ?_
  ·exact⟨0,by omega,by omega,by rw [List.take_zero,zBv];exact(by(simp only [nm_eq,nm_eq,abQ,↓reduceIte,iQ2,qF,qP,zx,nQ1,nQ2,nQ3,nQ4,nQ5,nQ6,lQ1,lQ2,lQ3,lQ4,lQ5,lQ6,lQ7,lQ8,nQ7,nQ8,zh,zR,zK,zL,zF,nQ9,iQ3,iQ4,iQ5,iQ6,qL,qM,zw,zX,zi,zS,zT,recOf,zW,zI,zJ,zU,zk,lQ9,lQ10,nQ10,if_true,if_false,ite_true,ite_false,lQ11,lQ12,oQ1,oQ2,reduceCtorEq,decide_true,decide_false,bQ1,bQ2,ze,zQ,zY,zO,zZ,zN,z8,zP,zf,zg,lQ13,lQ14,qJ,zu,qG,zq,qH,zo,qQ,zt,qK,lQ15,lQ16,bQ3,bQ4,bQ5,true_and,and_true,bQ6,bQ7,lQ17,lQ18,bQ8,bQ9,bQ10,bQ11,eq_self,nQ11,nQ12,nQ13,nQ14,nQ15,List.cons.injEq,AV.int.injEq,AV.sl.injEq,and_self])<;>omega),by simp only [List.take_zero,zGJ];exact Upd.refl hw⟩
  ·rintro m vs h' ⟨i,hi,rfl,rfl,u⟩
   simp only [nm_eq,nm_eq,abQ,↓reduceIte,iQ2,qF,qP,zx,nQ1,nQ2,nQ3,nQ4,nQ5,nQ6,lQ1,lQ2,lQ3,lQ4,lQ5,lQ6,lQ7,lQ8,nQ7,nQ8,zh,zR,zK,zL,zF,nQ9,iQ3,iQ4,iQ5,iQ6,qL,qM,zw,zX,zi,zS,zT,recOf,zW,zI,zJ,zU,zk,lQ9,lQ10,nQ10,if_true,if_false,ite_true,ite_false,lQ11,lQ12,oQ1,oQ2,reduceCtorEq,decide_true,decide_false,bQ1,bQ2,ze,zQ,zY,zO,zZ,zN,z8,zP,zf,zg,lQ13,lQ14,qJ,zu,qG,zq,qH,zo,qQ,zt,qK,lQ15,lQ16,bQ3,bQ4,bQ5,true_and,and_true,bQ6,bQ7,lQ17,lQ18,bQ8,bQ9,bQ10,bQ11,eq_self,nQ11,nQ12,nQ13,nQ14,nQ15]
   split
   ·have hlt:i<xs.length:=by omega
    obtain⟨v,hv1,hv2,hv3,hv4,hv5,hv6⟩:=mkT_I.step hr hWs n2 hv.2 hlt u;have hld:h'.rd1 o (off+i)=some (er idz v):=by
     rw [zHo (u.same o hz (qf.2 fun hm=>n1 (zDP (mkT_I.keysS (hr.take i) (ZJ.2 fun c hc=>ZJ.1 hWs c (List.mem_of_mem_take hc)) o hm)))),zDD hrd (by rw [hr.1];exact hlt)]
     rw [QJ,hv1];rfl
    have ht:=zAo (len:=List.length) hlt;have htl:=zCs List.length xs (i+1);have hbi:=hb2 _ (List.getElem_mem hlt);simp only [nm_eq,nm_eq,abQ,↓reduceIte,iQ2,qF,qP,zx,nQ1,nQ2,nQ3,nQ4,nQ5,nQ6,lQ1,lQ2,lQ3,lQ4,lQ5,lQ6,lQ7,lQ8,nQ7,nQ8,zh,zR,zK,zL,zF,nQ9,iQ3,iQ4,iQ5,iQ6,qL,qM,zw,zX,zi,zS,zT,recOf,zW,zI,zJ,zU,zk,lQ9,lQ10,nQ10,if_true,if_false,ite_true,ite_false,lQ11,lQ12,oQ1,oQ2,reduceCtorEq,decide_true,decide_false,bQ1,bQ2,ze,zQ,zY,zO,zZ,zN,z8,zP,zf,zg,lQ13,lQ14,qJ,zu,qG,zq,qH,zo,qQ,zt,qK,lQ15,lQ16,bQ3,bQ4,bQ5,true_and,and_true,bQ6,bQ7,lQ17,lQ18,bQ8,bQ9,bQ10,bQ11,eq_self,nQ11,nQ12,nQ13,nQ14,nQ15,zAd hlt,hld,Nat.mul_one,wrapS hlt (by omega:xs.length≤4611686018427387904)]
    refine zA1 hv2 hv3 u.wf hv5 hbi (by omega) (by omega) fun h'' u'=>?_
    simp only [nm_eq,nm_eq,abQ,↓reduceIte,iQ2,qF,qP,zx,nQ1,nQ2,nQ3,nQ4,nQ5,nQ6,lQ1,lQ2,lQ3,lQ4,lQ5,lQ6,lQ7,lQ8,nQ7,nQ8,zh,zR,zK,zL,zF,nQ9,iQ3,iQ4,iQ5,iQ6,qL,qM,zw,zX,zi,zS,zT,recOf,zW,zI,zJ,zU,zk,lQ9,lQ10,nQ10,if_true,if_false,ite_true,ite_false,lQ11,lQ12,oQ1,oQ2,reduceCtorEq,decide_true,decide_false,bQ1,bQ2,ze,zQ,zY,zO,zZ,zN,z8,zP,zf,zg,lQ13,lQ14,qJ,zu,qG,zq,qH,zo,qQ,zt,qK,lQ15,lQ16,bQ3,bQ4,bQ5,true_and,and_true,bQ6,bQ7,lQ17,lQ18,bQ8,bQ9,bQ10,bQ11,eq_self,nQ11,nQ12,nQ13,nQ14,nQ15,wrapS hlt (by omega:xs.length≤4611686018427387904)]
    exact⟨_,by omega,i+1,by omega,rfl,(by(simp only [nm_eq,nm_eq,abQ,↓reduceIte,iQ2,qF,qP,zx,nQ1,nQ2,nQ3,nQ4,nQ5,nQ6,lQ1,lQ2,lQ3,lQ4,lQ5,lQ6,lQ7,lQ8,nQ7,nQ8,zh,zR,zK,zL,zF,nQ9,iQ3,iQ4,iQ5,iQ6,qL,qM,zw,zX,zi,zS,zT,recOf,zW,zI,zJ,zU,zk,lQ9,lQ10,nQ10,if_true,if_false,ite_true,ite_false,lQ11,lQ12,oQ1,oQ2,reduceCtorEq,decide_true,decide_false,bQ1,bQ2,ze,zQ,zY,zO,zZ,zN,z8,zP,zf,zg,lQ13,lQ14,qJ,zu,qG,zq,qH,zo,qQ,zt,qK,lQ15,lQ16,bQ3,bQ4,bQ5,true_and,and_true,bQ6,bQ7,lQ17,lQ18,bQ8,bQ9,bQ10,bQ11,eq_self,nQ11,nQ12,nQ13,nQ14,nQ15,List.cons.injEq,AV.int.injEq,AV.sl.injEq,and_self])<;>omega),hv6 _ u'⟩
   ·have hie:i=xs.length:=by omega
    subst hie;rw [List.take_length,List.take_of_length_le (by rw [hr.1];exact Nat.le_refl _)]at u
    rw [List.take_length];exact hk _ u
theorem zEU {p d k:Int} {vA:PV} {F:List (List Int)} (hA:FII vA F) (hO:OwnC lo hi vA) (hw:HWF h) (hv:VOK (zlt h) h 0 (.agg [.int .i64 p,.int .i64 d,vA])) (sz:SzL F) (hk0:0≤k) (hk1:k+totL List.length F≤4611686018427387904)
  (hk:∀h',Upd h (mkF mkI List.length k vA F) h'→K (.int .i64 (k+totL List.length F)) h'):qV Try.prog 20 [er idz (.agg [.int .i64 p,.int .i64 d,vA]),.int .i64 k] h K:=by
 refine ZH mix Try.func20 cf20 rfl ?_;dsimp only [if20,mI0,kI0,lI0,fI0,C2,R0,S0];simp only [er,ers];obtain⟨_,_,hvA,_⟩:=hv;have oA:(er idz vA).one=true:=by rw [zEl hvA];exact hA.one
 have cA:=Qo oA;obtain⟨hh,he,hx1,hn,qq⟩:=box1 hw [.int .i64 p,.int .i64 d,er idz vA];have hzz:∀o,zlt h o→zlt hh o∧hh.obj o=h.obj o:=fun o ho=>⟨Nat.lt_of_lt_of_le ho hx1.next,hx1.obj o ho⟩
 have q:=qq _ (Ext.refl hx1.wf);have kA:=zAz (k:=k) hA hO;simp only [nm_eq,nm_eq,abQ,↓reduceIte,iQ2,qF,qP,zx,nQ1,nQ2,nQ3,nQ4,nQ5,nQ6,lQ1,lQ2,lQ3,lQ4,lQ5,lQ6,lQ7,lQ8,nQ7,nQ8,zh,zR,zK,zL,zF,nQ9,iQ3,iQ4,iQ5,iQ6,qL,qM,zw,zX,zi,zS,zT,recOf,zW,zI,zJ,zU,zk,lQ9,lQ10,nQ10,if_true,if_false,ite_true,ite_false,lQ11,lQ12,oQ1,oQ2,reduceCtorEq,decide_true,decide_false,bQ1,bQ2,ze,zQ,zY,zO,zZ,zN,z8,zP,zf,zg,lQ13,lQ14,qJ,zu,qG,zq,qH,zo,qQ,zt,qK,lQ15,lQ16,bQ3,bQ4,bQ5,true_and,and_true,bQ6,bQ7,lQ17,lQ18,bQ8,bQ9,bQ10,bQ11,eq_self,nQ11,nQ12,nQ13,nQ14,nQ15,he,oA,cA,Z6 q];refine zDa hA hO hx1.wf (hvA.mono hzz (Nat.le_refl _)) (by have:=sz.l;omega) (fun x hx=>by have:=sz.r x hx;omega) (by omega) (by omega) fun h1 u1=>?_
 have u4:=hx1.upd.trans u1 (fun o ho=>by cases ho) fun o ho=>ead_z hvA o (kA o ho)
 simp only [nm_eq,nm_eq,abQ,↓reduceIte,iQ2,qF,qP,zx,nQ1,nQ2,nQ3,nQ4,nQ5,nQ6,lQ1,lQ2,lQ3,lQ4,lQ5,lQ6,lQ7,lQ8,nQ7,nQ8,zh,zR,zK,zL,zF,nQ9,iQ3,iQ4,iQ5,iQ6,qL,qM,zw,zX,zi,zS,zT,recOf,zW,zI,zJ,zU,zk,lQ9,lQ10,nQ10,if_true,if_false,ite_true,ite_false,lQ11,lQ12,oQ1,oQ2,reduceCtorEq,decide_true,decide_false,bQ1,bQ2,ze,zQ,zY,zO,zZ,zN,z8,zP,zf,zg,lQ13,lQ14,qJ,zu,qG,zq,qH,zo,qQ,zt,qK,lQ15,lQ16,bQ3,bQ4,bQ5,true_and,and_true,bQ6,bQ7,lQ17,lQ18,bQ8,bQ9,bQ10,bQ11,eq_self,nQ11,nQ12,nQ13,nQ14,nQ15];exact hk _ (by simpa using u4)
end
section
variable {σ:PHeap} {K:PV→PHeap→Prop} {p d:Int} {F:List (List Int)} {vA:PV} {lo hi:Nat}
theorem zMO {k:Int} (hA:FII vA F) (ho:OwnC lo hi vA):∀o∈(mkF mkI List.length k vA F).map Prod.fst,lo≤o∧o<hi:=fun o hm=>ho.lt o (zAz hA ho o hm)
theorem zDZ {k:Int} (hA:FII vA F) (ho:OwnC lo hi vA) (sz:SzL F) (hk0:0≤k) (hk1:k+totL List.length F≤4611686018427387904):
  QU Try.prog 20 [.agg [.int .i64 p,.int .i64 d,vA],.int .i64 k] σ (mkF mkI List.length k vA F) .i64 (k+totL List.length F):=
 QU.of ⟨trivial,trivial,hA.bel 0,trivial⟩ (fun o h=>by simp only [ead,eads,List.nil_append,List.append_nil];exact zAz hA ho o h) fun h hw hv=>zEU hA ho hw hv sz hk0 hk1 fun h' u=>⟨rfl,u⟩
end
end Go.Proofs
namespace Go.Grp
end Go.Grp
namespace Go.Proofs
open Go.Ab Go.Lie Go.Grp Go.Mx
variable {σ h H:PHeap} {K:PV→PHeap→Prop} {p p' c c' d:Int} {n m r:Nat} {A F F' u:List (List Int)} {v vA vF vF':PV}
theorem zCG (hF:FII vF F) (sz:SzL F) (hk:∀vF t,FII vF F→Own σ.top t (.agg [.int .i64 p,.int .i64 d,vF])→σ.top≤t→K (.agg [.int .i64 p,.int .i64 d,vF]) (σ.up t)):zA Try.prog 17 [.agg [.int .i64 p,.int .i64 d,vF]] σ K:=by
 have h1:=hF.one;refine zA.gh ?_;refine zB mix Try.func17 ?_
 conv=>arg 2;cbv
 refine zC rfl ?_;simp only [pwA,seval,-iQ0,h1];refine zE7 hF sz fun v2 t2 hv2 ho2 ht2=>?_
 simp only [pwA,seval,-iQ0,hv2.cells,hv2.one];exact Gh.fin0T (t:=t2) (v:=.agg [.int .i64 p,.int .i64 d,v2]) (Keep.up (((zG σ _).new _).new _) ht2) (Nat.le_refl _) ⟨trivial,trivial,hv2.bel _,trivial⟩ fun _=>hk v2 t2 hv2 (Owns.mod ho2 ht2) ht2
theorem im_bd {z1 z2 e:Int} {z:List (List Int)} (h:Img p c F p' c' F' ((z1,z2,z),e)):SzL z:=by
 rcases h with ⟨_,h⟩|⟨_,_,_,h⟩|⟨hs,hm,⟨rfl,hc⟩,U,hU,h⟩
 ·simp only [Prod.mk.injEq]at h
  rw [h.1.2.2];exact⟨by simp,fun r hr=>by cases hr⟩
 ·simp only [Prod.mk.injEq]at h
  rw [h.1.2.2];exact⟨by simp,fun r hr=>by cases hr⟩
 ·simp only [Prod.mk.injEq]at h
  rw [h.1.2.2];obtain⟨n,rfl,hn,hp,hl,hA⟩:=mx_n hm;have hq:pr7 p:=hp;rw [Int.toNat_natCast]at hU
  have:=zJM hq hU
  exact⟨by omega,fun r hr=>by have:=(hU.base.els r hr).1;omega⟩
theorem zCB (hF:FII vF F) (sz:SzL F) (hF':FII vF' F') (sz':SzL F') (hk:∀v z1 z2 z e,Img p c F p' c' F' ((z1,z2,z),e)→FII v z→K (.tup [.agg [.int .i64 z1,.int .i64 z2,v],.int .i64 e]) σ):zA Try.prog 16 [.agg [.int .i64 p,.int .i64 c,vF],.agg [.int .i64 p',.int .i64 c',vF']] σ K:=
 zCo hF sz hF' sz' fun r hr v hv=>hk v r.1.1 r.1.2.1 r.1.2.2 r.2 hr hv
theorem Qp (hF:FII vF F) (sz:SzL F) (hF':FII vF' F') (sz':SzL F') (hk:∀v z1 z2 z e t,Img p c F p' c' F' ((z1,z2,z),e)→FII v z→OwnC σ.top t v→σ.top≤t→K (.tup [.agg [.int .i64 z1,.int .i64 z2,v],.int .i64 e]) (σ.up t)):zA Try.prog 18 [.agg [.int .i64 p,.int .i64 c,vF],.agg [.int .i64 p',.int .i64 c',vF']] σ K:=
 zCn hF sz hF' sz' fun r v t hr hv ho ht=>hk v r.1.1 r.1.2.1 r.1.2.2 r.2 t hr hv ho ht
end Go.Proofs
