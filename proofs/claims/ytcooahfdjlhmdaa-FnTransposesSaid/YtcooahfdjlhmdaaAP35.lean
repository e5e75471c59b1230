/- Drawn pairs of matrices. -/
import Derived.Test.YtcooahfdjlhmdaaAP28
import Derived.Test.YtcooahfdjlhmdaaAP26
import Derived.Test.YtcooahfdjlhmdaaAAbPz
import Derived.Test.YtcooahfdjlhmdaaAAbPa
import Derived.Test.YtcooahfdjlhmdaaAP30
import Derived.Test.YtcooahfdjlhmdaaAAbPh
import Derived.Test.YtcooahfdjlhmdaaAAbPm
open Int renaming reduceNatCast'→iQ0
set_option maxRecDepth 100000
namespace Go.Grp
end Go.Grp
set_option linter.unusedSimpArgs false
set_option linter.unusedVariables false
namespace Go.Proofs
open Go.Ab Go.Lie Go.Grp Go.Mx
variable {σ:PHeap} {K:PV→PHeap→Prop} {p:Int} {n:Nat} {v w xs ys:List Int} {A M:List (List Int)} {vA vM vv v0:PV}
theorem QL {α:Type} {a b:List α} {i:Nat} (hl:a.length=b.length) (hi:i<a.length):(a.take i++b.drop i).set i a[i]=a.take (i+1)++b.drop (i+1):=by
 have h1:(a.take i).length=i:=by rw [List.length_take];omega
 rw [List.set_append_right _ _ (by omega),h1,Nat.sub_self,List.drop_eq_getElem_cons (by omega:i<b.length),List.set_cons_zero,List.take_succ_eq_append_getElem hi,List.append_assoc]
 rfl
theorem zAC {α:Type} {a b:List α} {i:Nat} (hl:a.length=b.length) (hi:i<b.length):(a.take i++b.drop i)[i]? = some b[i]:=by
 have h1:(a.take i).length=i:=by rw [List.length_take];omega
 rw [List.getElem?_append_right (by omega),h1,List.getElem?_drop,Nat.sub_self,Nat.add_zero,List.getElem?_eq_getElem hi]
theorem zAz {x:Int} {r out:List Int} (h:r.length=out.length) {j:Nat} (hj:j<out.length):(vstep p x r out)[j]'(by rw [zX h];exact hj)=(out[j] + x*r[j]) % p:=by
 simp [vstep]
def sm9 (x:Int):Prop:=-1000000000≤x∧x≤1000000000
theorem zB0 {s s' l l':Nat} {cap cap':Cap} {k:Int} (hp:0<p∧p≤1000) (hs:σ.obj s=some (pis xs)) (hs':σ.obj s'=some (pis ys)) (hne:s'≠s) (hl:l=xs.length) (hl':l'=ys.length) (hle:ys.length=xs.length) (hb:xs.length≤1048576)
  (hsm:∀i (h1:i<xs.length) (h2:i<ys.length),sm9 (k*ys[i])∧sm9 (xs[i])) (hk:K (.tup []) (σ.set s (pis (vstep p k ys xs)))):
  zC Try.prog 106 [.sl s 0 l cap,.sl s' 0 l' cap',.int .i64 k,.int .i64 p] σ K:=by
 subst hl;subst hl';have hvl:=zX (p:=p) (x:=k) hle;have er:∀t,σ.rd1 s' t=(pis ys)[t]?:=fun t=>zL hs' t
 refine zD mix Try.func106 ?_
 conv=>arg 2;cbv
 refine zG rfl ?_;simp only [pwA,seval,-iQ0];refine zO (fun m vs h'=>∃i:Nat,i≤xs.length∧m=xs.length-i∧vs=[.sl s 0 xs.length cap,.sl s' 0 ys.length cap',.int .i64 k,.int .i64 p,.int .i64 xs.length,.int .i64 i]∧h'=σ.set s (pis ((vstep p k ys xs).take i++xs.drop i))) xs.length ?_ ?_
 ·exact⟨0,by omega,by omega,rfl,by rw [List.take_zero,List.drop_zero,List.nil_append,Zn hs]⟩
 rintro m vs h' ⟨i,hi,rfl,rfl,rfl⟩
 simp only [pwA,seval,-iQ0];refine iteI (fun hlt=>?_) fun hge=>?_
 rotate_left
 ·have:i=xs.length:=by omega
  subst this;rw [List.drop_length,List.append_nil,List.take_of_length_le (by omega)]
  exact hk
 have hlt2:i<ys.length:=by omega
 have e1:=zAC hvl hlt;obtain⟨b1,b2⟩:=hsm i hlt hlt2;unfold sm9 at b1 b2
 have hlen:i+1≤((vstep p k ys xs).take i++xs.drop i).length:=by simp;omega
 have ew1:IntKind.i64.wrap (k*ys[i])=k*ys[i]:=wrap64 (by omega) (by omega)
 have ew2:IntKind.i64.wrap (xs[i] + k*ys[i])=xs[i] + k*ys[i]:=wrap64 (by omega) (by omega)
 simp only [pwA,seval,-iQ0,hlt,hlt2,zo,zU,gi hlt2,e1,hlen,ew1,ew2,hne,er];refine QU hp.1 (by omega) ?_
 simp only [pwA,seval,-iQ0,hlt,hlen,zU,wrapS hlt (by omega:xs.length≤4611686018427387904)]
 refine⟨_,by omega,i+1,by omega,rfl,rfl,?_⟩
 rw [ZI (by simp;omega)]
 have hiv:i<(vstep p k ys xs).length:=by omega
 rw [←QL hvl hiv,zAz hle hlt]
end Go.Proofs
namespace Go.Grp
end Go.Grp
namespace Go.Proofs
open Go.Ab Go.Lie Go.Grp Go.Mx
variable {σ:PHeap} {K:PV→PHeap→Prop} {p:Int} {n:Nat} {v w x xs ys:List Int} {A M L u:List (List Int)} {vA vM vv vw vx vu v0:PV}
theorem sm7 {a b:Int} (ha:-7≤a∧a≤7) (hb:0≤b∧b≤7):-49≤a*b∧a*b≤49:=by
 have h1:=Int.mul_le_mul_of_nonneg_right ha.1 hb.1;have h2:=Int.mul_le_mul_of_nonneg_right ha.2 hb.1;omega
theorem zHE {c:Int} (hp:2≤p∧p≤7) (hc:-7≤c∧c≤7) (hv:Ve p n v) (hw:Ve p n w) (hn:n≤1048576) (hvv:FI vv v) (hvw:FI vw w) (hk:∀z,FI z (vstep p c w v)→K z σ):
  zC Try.prog 95 [.int .i64 p,vv,.int .i64 c,vw] σ K:=by
 have hvl:=hv.len;have hwl:=hw.len;have hln:(vstep p c w v).length=v.length:=zX (by omega)
 obtain⟨wv,av,rfl⟩:=hvv;obtain⟨ww,aw,rfl⟩:=hvw;refine zC.gh ?_;refine zD mix Try.func95 ?_
 conv=>arg 2;cbv
 refine zG rfl ?_;simp only [pwA,seval,-iQ0];refine Qs rfl (by omega) fun cap hcap=>?_
 simp only [pwA,seval,-iQ0];refine zO (fun m vs h'=>∃i:Nat,i≤v.length∧m=v.length-i∧vs=[.int .i64 p,.int .i64 c,.fz ww aw w.length (pis w),.sl σ.next 0 v.length cap,.int .i64 i]∧h'=σ.new (pis ((vstep p c w v).take i++v.drop i))) v.length ?_ ?_
 ·exact⟨0,by omega,by omega,rfl,by rw [List.take_zero,List.drop_zero,List.nil_append]⟩
 rintro m vs h' ⟨i,hi,rfl,rfl,rfl⟩
 by_cases hlt:i<v.length
 rotate_left
 ·have hie:i=v.length:=by omega
  subst hie;have e0:(vstep p c w v).take v.length++v.drop v.length=vstep p c w v:=by rw [List.drop_length,List.append_nil,List.take_of_length_le (by omega)]
  rw [e0];simp only [pwA,seval,-iQ0,Nat.lt_irrefl];exact Gh.finF (s:=σ.next) (zF σ _) (by simp only [pwA,seval,-iQ0];rfl) (Nat.le_refl _) (qE _ _) hcap.ok fun o=>hk _ ⟨true,.sl o 0 v.length cap,by rw [hln]⟩
 have hlt2:i<w.length:=by omega
 have e1:=zAC hln hlt;have c1:=hw.bd i;have c2:=hv.bd i;rw [at_eq hlt2]at c1
 rw [at_eq hlt]at c2
 have hlen:i+1≤((vstep p c w v).take i++v.drop i).length:=by simp;omega
 have hb:=sm7 (a:=c) (b:=w[i]) hc (by omega)
 have ew1:IntKind.i64.wrap (c*w[i])=c*w[i]:=wrap64 (by omega) (by omega)
 have ew2:IntKind.i64.wrap (v[i] + c*w[i])=v[i] + c*w[i]:=wrap64 (by omega) (by omega)
 simp only [pwA,seval,-iQ0,hlt,hlt2,zo,zU,gi hlt2,e1,hlen,ew1,ew2];refine zCA (by omega) (by omega) ?_
 simp only [pwA,seval,-iQ0,hlt,hlen,zU,wrapS hlt (by omega:v.length≤4611686018427387904)]
 refine⟨_,by omega,i+1,by omega,rfl,rfl,?_⟩
 rw [ZI (by simp;omega)]
 have hiv:i<(vstep p c w v).length:=by omega
 have hget:(vstep p c w v)[i]=(v[i] + c*w[i]) % p:=zAz (by omega) hlt
 rw [←QL hln hiv,hget]
theorem zER {c:Int} {v:List Int}:vstep p c v (List.replicate v.length 0)=scl p c v:=by
 refine zBS (by rw [zX (by simp),qJ];simp) fun j hj=>?_
 rw [zX (by simp),List.length_replicate]at hj
 rw [q8 (by simp) (by simpa using hj),qX,zBa,Int.zero_add,Int.mul_comm]
theorem zD2 {c:Int} (hp:2≤p∧p≤7) (hc:-7≤c∧c≤7) (hv:Ve p n v) (hn:n≤1048576) (hvv:FI vv v) (hk:∀z,FI z (scl p c v)→K z σ):
  zC Try.prog 87 [.int .i64 p,.int .i64 c,vv] σ K:=by
 have hvl:=hv.len;have hvv0:=hvv;obtain⟨wv,av,rfl⟩:=hvv;refine zC.gh ?_;refine zD mix Try.func87 ?_
 conv=>arg 2;cbv
 refine zG rfl ?_;simp only [pwA,seval,-iQ0,List.length_replicate,QM,mk8 (n:=v.length) (by omega),mkL (n:=v.length) (by omega)]
 refine zC.frz (s:=σ.next) (cs:=pis (List.replicate v.length 0)) (by simp only [pwA,seval,-iQ0]) (qE _ _) fun o=>?_
 simp only [sbs,sb,capOK,and_self,if_true,decide_true,Nat.le_refl];refine zHE hp hc (n:=v.length) (v:=List.replicate v.length 0) (w:=v) (zGX (by omega)) (by rw [hvl];exact hv) (by omega) ⟨true,_,by rw [List.length_replicate]⟩ hvv0 fun z hz=>?_
 simp only [pwA,seval,-iQ0];rw [zER]at hz
 refine Gh.fin0 ?_ (hz.bel _) (hk z hz);exact(zF σ _).kill (Nat.le_refl _)
end Go.Proofs
namespace Go.Grp
end Go.Grp
namespace Go.Proofs
open Go.Ab Go.Lie Go.Grp Go.Mx
variable {σ h:PHeap} {K:PV→PHeap→Prop} {p:Int} {n s0:Nat} {A L X u:List (List Int)} {vA vL:PV} {rows:List SR}
theorem qc {h:PHeap} {t i:Nat} {cs:List PV} {v:PV} (ho:h.obj t=some cs) (hi:i<cs.length) (hv:v.one=true):h.wr t i [v]=some (h.set t (cs.set i v)):=by
 rw [ZX ho,if_pos ⟨by simp;omega,by simp [hv]⟩]
 congr 2
 rw [List.append_assoc];exact take_set cs hi v
theorem ZK {α β:Type} (f:α→β) {xs:List α} {i:Nat} {x y:α} (hx:xs[i]? = some x) (e:f y=f x):(xs.set i y).map f=xs.map f:=by
 rw [List.map_set,e];refine List.ext_getElem? fun j=>?_
 rw [List.getElem?_set]
 split
 ·rename_i e2
  subst e2;rw [List.getElem?_map,hx]
  split
  ·rfl
  ·rename_i e3
   have:=(List.getElem?_eq_some_iff.1 hx).1
   simp only [List.length_map]at e3
   omega
 ·rfl
structure RM (σ h:PHeap) (s0:Nat) (rows:List SR):Prop where
 keep:Keep σ h
 obj:h.obj s0=some (rows.map SR.pv)
 lo:σ.next≤s0
 lt:s0<h.next
 ok:∀q∈rows,q.ok h σ.next
 nd:(qO rows).Nodup
 ne:s0∉qO rows
theorem zCb (nd:(qO rows).Nodup) {i j:Nat} (hi:i<rows.length) (hj:j<rows.length) (e:rows[i].s=rows[j].s):i=j:=by
 have:=(List.getElem_inj (xs:=qO rows) (i:=i) (j:=j) (h₀:=by simpa [qO]using hi) (h₁:=by simpa [qO]using hj) nd).1 (by simpa [qO]using e)
 exact this
theorem RM.put (a:RM σ h s0 rows) {i:Nat} (hi:i<rows.length) {x:List Int} (hx:x.length=rows[i].x.length):RM σ (h.set rows[i].s (pis x)) s0 (rows.set i ⟨rows[i].s,rows[i].cap,x⟩):=by
 have hm:=List.getElem_mem hi;obtain⟨g1,g2,g3,g4⟩:=a.ok _ hm;have hne:s0≠rows[i].s:=fun e=>a.ne (List.mem_map.2 ⟨_,hm,e.symm⟩)
 have hsl:qO (rows.set i ⟨rows[i].s,rows[i].cap,x⟩)=qO rows:=ZK SR.s (List.getElem?_eq_getElem hi) rfl;have hpv:(rows.set i ⟨rows[i].s,rows[i].cap,x⟩).map SR.pv=rows.map SR.pv:=ZK SR.pv (List.getElem?_eq_getElem hi) (by show PV.sl _ 0 x.length _=PV.sl _ 0 rows[i].x.length _;rw [hx])
 refine⟨a.keep.set g3 _,by rw [zI,if_neg hne,hpv];exact a.obj,a.lo,a.lt,fun q hq=>?_,by rw [hsl];exact a.nd,by rw [hsl];exact a.ne⟩
 obtain⟨j,hj,rfl⟩:=List.mem_iff_getElem.1 hq;rw [List.length_set]at hj
 rw [List.getElem_set]
 split
 ·exact⟨by show full 1 rows[i].cap x.length;rw [hx];exact g1,by rw [zI,if_pos rfl],g3,g4⟩
 ·rename_i e
  obtain⟨f1,f2,f3,f4⟩:=a.ok _ (List.getElem_mem hj);exact⟨f1,by rw [zI,if_neg fun e2=>e (zCb a.nd hi hj e2.symm)];exact f2,f3,f4⟩
theorem RM.swap (a:RM σ h s0 rows) {i j:Nat} (hi:i<rows.length) (hj:j<rows.length):RM σ (h.set s0 (((rows.set i rows[j]).set j rows[i]).map SR.pv)) s0 ((rows.set i rows[j]).set j rows[i]):=by
 have hp:=List.set_set_perm hi hj;have hne:∀q∈rows,q.s≠s0:=fun q hq e=>a.ne (List.mem_map.2 ⟨q,hq,e⟩)
 refine⟨a.keep.set a.lo _,by rw [zI,if_pos rfl],a.lo,a.lt,fun q hq=>?_,((hp.map SR.s).nodup_iff).2 a.nd,fun hm=>a.ne ((hp.map SR.s).mem_iff.1 hm)⟩
 have hq':=hp.mem_iff.1 hq;obtain⟨f1,f2,f3,f4⟩:=a.ok _ hq';exact⟨f1,by rw [zI,if_neg (hne q hq')];exact f2,f3,f4⟩
def RX (σ h:PHeap) (s0:Nat) (X:List (List Int)):Prop:=∃rows,RM σ h s0 rows∧rows.map SR.x=X
theorem RX.get (a:RX σ h s0 X) {i:Nat} (hi:i<X.length):∃s cap,h.rd1 s0 i=some (.sl s 0 X[i].length cap)∧h.obj s=some (pis X[i])∧full 1 cap X[i].length∧s≠s0∧s<h.next∧∀x:List Int,x.length=X[i].length→RX σ (h.set s (pis x)) s0 (X.set i x):=by
 obtain⟨rows,a,rfl⟩:=a;rw [List.length_map]at hi
 have hm:=List.getElem_mem hi;obtain⟨g1,g2,g3,g4⟩:=a.ok _ hm;rw [List.getElem_map];refine⟨rows[i].s,rows[i].cap,?_,g2,g1,fun e=>a.ne (List.mem_map.2 ⟨_,hm,e⟩),g4,fun x hx=>⟨_,a.put hi hx,?_⟩⟩
 ·rw [zL a.obj,List.getElem?_map,List.getElem?_eq_getElem hi];rfl
 ·rw [List.map_set]
theorem RX.two (a:RX σ h s0 X) {i j:Nat} (hi:i<X.length) (hj:j<X.length) (hne:i≠j):∃s cap t cap',h.rd1 s0 i=some (.sl s 0 X[i].length cap)∧h.obj s=some (pis X[i])∧h.rd1 s0 j=some (.sl t 0 X[j].length cap')∧h.obj t=some (pis X[j])∧s≠t∧s≠s0∧t≠s0∧∀x:List Int,x.length=X[i].length→RX σ (h.set s (pis x)) s0 (X.set i x):=by
 obtain⟨rows,a,rfl⟩:=a;rw [List.length_map]at hi hj
 obtain⟨g1,g2,g3,g4⟩:=a.ok _ (List.getElem_mem hi);obtain⟨f1,f2,f3,f4⟩:=a.ok _ (List.getElem_mem hj);rw [List.getElem_map,List.getElem_map];refine⟨rows[i].s,rows[i].cap,rows[j].s,rows[j].cap,?_,g2,?_,f2,fun e=>hne (zCb a.nd hi hj e),fun e=>a.ne (List.mem_map.2 ⟨_,List.getElem_mem hi,e⟩),fun e=>a.ne (List.mem_map.2 ⟨_,List.getElem_mem hj,e⟩),fun x hx=>⟨_,a.put hi hx,?_⟩⟩
 ·rw [zL a.obj,List.getElem?_map,List.getElem?_eq_getElem hi];rfl
 ·rw [zL a.obj,List.getElem?_map,List.getElem?_eq_getElem hj];rfl
 ·rw [List.map_set]
theorem RX.swap (a:RX σ h s0 X) {i j:Nat} (hi:i<X.length) (hj:j<X.length):∃s cap t cap' h1 h2,h.rd1 s0 i=some (.sl s 0 X[i].length cap)∧h.rd1 s0 j=some (.sl t 0 X[j].length cap')∧h.wr s0 i [.sl t 0 X[j].length cap']=some h1∧h1.wr s0 j [.sl s 0 X[i].length cap]=some h2∧RX σ h2 s0 ((X.set i X[j]).set j X[i]):=by
 obtain⟨rows,a,rfl⟩:=a;rw [List.length_map]at hi hj
 rw [List.getElem_map,List.getElem_map];refine⟨rows[i].s,rows[i].cap,rows[j].s,rows[j].cap,h.set s0 ((rows.map SR.pv).set i rows[j].pv),h.set s0 (((rows.map SR.pv).set i rows[j].pv).set j rows[i].pv),?_,?_,?_,?_,⟨(rows.set i rows[j]).set j rows[i],?_,?_⟩⟩
 ·rw [zL a.obj,List.getElem?_map,List.getElem?_eq_getElem hi];rfl
 ·rw [zL a.obj,List.getElem?_map,List.getElem?_eq_getElem hj];rfl
 ·exact qc a.obj (by simpa using hi) rfl
 ·have:=qc (h:=h.set s0 ((rows.map SR.pv).set i rows[j].pv)) (t:=s0) (i:=j) (v:=rows[i].pv) (by rw [zI,if_pos rfl]) (by simpa using hj) rfl
  rw [zB3]at this
  exact this
 ·have:=a.swap hi hj
  rw [List.map_set,List.map_set]at this
  exact this
 ·rw [List.map_set,List.map_set]
theorem zDH (hL:∀r∈A,r.length≤1048576) (hll:A.length≤1000) (hvA:FII vA A) (hk:∀v h' rows,Keep σ h'→PAcc σ.next 1 h' v A.length rows→All2 FI rows A→K v h'):zC Try.prog 70 [vA] σ K:=by
 obtain⟨wA,aA,rA,rfl,hrA⟩:=hvA;refine zD mix Try.func70 ?_
 conv=>arg 2;cbv
 refine zG rfl ?_;simp only [pwA,seval,-iQ0];refine zO (fun m vs h'=>∃(i:Nat) (v:PV) (rows:List PV),i≤A.length∧m=A.length-i∧vs=[v,.fz wA aA A.length rA,.int .i64 A.length,.int .i64 i]∧Keep σ h'∧PAcc σ.next 1 h' v i rows∧All2 FI rows (A.take i)) A.length ?_ ?_
 ·exact⟨0,_,[],by omega,by omega,rfl,Keep.refl σ,PAcc.nil _ _ _,by rw [List.take_zero];exact All2.nil _⟩
 rintro m vs h' ⟨i,v,rows,hi,rfl,rfl,hkp,ha,hall⟩
 simp only [pwA,seval,-iQ0];refine iteI (fun hlt=>?_) fun hge=>?_
 rotate_left
 ·have hie:i=A.length:=by omega
  subst hie;rw [List.take_length]at hall
  exact hk _ _ _ hkp ha hall
 obtain⟨w4,a4,hr⟩:=hrA.rowI hlt;simp only [pwA,seval,-iQ0,hlt,hr];refine zC.fzI (fun K' k'=>zDR rfl (by have:=hL _ (List.getElem_mem hlt);omega) k') fun a5=>?_
 simp only [pwA,seval,-iQ0];refine PAcc.push (bytes:=24) hkp ha (by omega) (by omega) fun v' h2 k2 a2=>?_
 simp only [pwA,seval,-iQ0,wrapS hlt (by omega:A.length≤4611686018427387904)]
 exact⟨_,by omega,i+1,v',rows++[.fz true a5 A[i].length (pis A[i])],by omega,rfl,rfl,k2,a2.acc,by rw [List.take_succ_eq_append_getElem hlt];exact hall.snoc ⟨true,a5,rfl⟩⟩
theorem zD7 (hL:∀r∈A,r.length=n) (hn:0<n∧n≤1000) (hll:A.length≤1000) (hvA:FII vA A) (hk:∀v h' rows,RowsI σ h' v rows→rows.map SR.x=A→K v h'):zC Try.prog 70 [vA] σ K:=by
 obtain⟨wA,aA,rA,rfl,hrA⟩:=hvA;refine zD mix Try.func70 ?_
 conv=>arg 2;cbv
 refine zG rfl ?_;simp only [pwA,seval,-iQ0];refine zO (fun m vs h'=>∃(i:Nat) (v:PV) (rows:List SR),i≤A.length∧m=A.length-i∧vs=[v,.fz wA aA A.length rA,.int .i64 A.length,.int .i64 i]∧RowsI σ h' v rows∧rows.map SR.x=A.take i) A.length ?_ ?_
 ·exact⟨0,_,[],by omega,by omega,rfl,RowsI.nil σ,by rw [List.take_zero];rfl⟩
 rintro m vs h' ⟨i,v,rows,hi,rfl,rfl,ha,hall⟩
 simp only [pwA,seval,-iQ0];refine iteI (fun hlt=>?_) fun hge=>?_
 rotate_left
 ·have hie:i=A.length:=by omega
  subst hie;rw [List.take_length]at hall
  exact hk _ _ _ ha hall
 obtain⟨w4,a4,hr⟩:=hrA.rowI hlt;have hl:=hL _ (List.getElem_mem hlt);have hrl:rows.length=i:=by have:=congrArg List.length hall;rw [List.length_map,List.length_take]at this;omega
 simp only [pwA,seval,-iQ0,hlt,hr];refine zDR rfl (by omega) ⟨fun h0=>by rw [h0]at hl;simp at hl;omega,fun cap hcap=>?_⟩
 simp only [pwA,seval,-iQ0];refine RowsI.push ha (zF _ _) (t:=h'.next) (cap:=cap) (x:=A[i]) (Nat.le_refl _) (Nat.lt_succ_self _) (by rw [zK,if_pos rfl]) hcap (by omega) fun v' h2 a2 k2 l2=>?_
 simp only [pwA,seval,-iQ0,wrapS hlt (by omega:A.length≤4611686018427387904)]
 exact⟨_,by omega,i+1,v',_,by omega,rfl,rfl,a2,by rw [List.take_succ_eq_append_getElem hlt,List.map_append,hall];rfl⟩
theorem RowsI.rx {v:PV} (a:RowsI σ h v rows) (hpos:0<rows.length):∃s0 cap,v=.sl s0 0 rows.length cap∧full 1 cap rows.length∧RX σ h s0 (rows.map SR.x):=by
 obtain⟨s0,cap,rfl,hf,q2,q3,q4,q5⟩:=a.acc.pos hpos;exact⟨s0,cap,rfl,hf,rows,⟨a.keep,q2,q4,q5,a.ok,a.nd,fun hm=>a.ne s0 hm 0 _ cap rfl⟩,rfl⟩
end Go.Proofs
namespace Go.Grp
end Go.Grp
namespace Go.Proofs
open Go.Ab Go.Lie Go.Grp Go.Mx
variable {σ h:PHeap} {K:PV→PHeap→Prop} {p:Int} {n s0:Nat} {A L X u:List (List Int)} {vA vL:PV} {rows:List SR}
theorem zA0 {P:Program} {c:IC} {Q:Exit→PEnv→PHeap→Prop} {e:PEnv} {h:PHeap} (id:Nat) (J:PEnv→PHeap→Prop) (h1:∀Q':Exit→PEnv→PHeap→Prop,(∀e h,J e h→Q' (.exit id) e h)→vp P c Q' e h) (h2:∀e h,J e h→Q (.exit id) e h):vp P c Q e h:=h1 Q h2
theorem zB5 {m d:Nat} {cap:Cap} (hf:full 1 cap m) (hd:d≤m):qY 1 (.sl s0 0 m cap) none (some (.int .i64 d)) (some (.int .i64 d))=some (.sl s0 0 d (.known d)):=by
 have h1:(0:Int)≤(d:Int)∧(d:Int)≤(m:Int):=by omega
 have h2:(0:Int)≤(d:Int)∧(d:Int)≤(d:Int):=by omega
 rcases hf with rfl|rfl
 ·rw [zFW _ _ _ _ _ _ _ _ rfl]
  simp [zP,qK,h1,h2]
 ·rw [Qm]
  simp [zP,qK,h1,h2]
theorem zCG (hp:isP p) (hL:∀r∈L,El p n r) (hn:0<n∧n≤64) (hll:0<L.length∧L.length≤64) (hvL:FII vL L)
  (hk:∀s0 d X h',RX σ h' s0 X→X.length=L.length→d≤X.length→Canon p n (W0 n) L (X.take d)→K (.sl s0 0 d (.known d)) h'):
  zC Try.prog 101 [.int .i64 p,vL] σ K:=by
 have hpb:=hp.bd;have hq:pr7 p:=hp;have o:=W0_ok hpb n;refine zD mix Try.func101 ?_
 conv=>arg 2;cbv
 refine zG rfl ?_;simp only [pwA,seval,-iQ0];refine zD7 (n:=n) (fun r hr=>(hL r hr).1) ⟨hn.1,by omega⟩ (by omega) hvL fun v h0 rows ha hX=>?_
 have hrl:rows.length=L.length:=by rw [←hX,List.length_map]
 obtain⟨s0,cap,rfl,hf,rx⟩:=RowsI.rx ha (by omega)
 rw [hrl]at hf ⊢
 rw [hX]at rx
 simp only [pwA,seval,-iQ0];refine zO (fun m vs h'=>∃(c d:Nat) (X:List (List Int)),m=n-c∧vs=[.int .i64 p,.sl s0 0 L.length cap,.int .i64 d,.int .i64 c]∧RX σ h' s0 X∧X.length=L.length∧Ech p n L X d c) n ?_ ?_
 ·exact⟨0,0,L,by omega,rfl,rx,rfl,Ech.start hL⟩
 clear rx ha hX hrl
 rintro m vs h' ⟨c,d,X,rfl,rfl,rx,hXl,he⟩
 have hcn:=he.cn;have hdl:=he.dl;have hXn:∀i (hi:i<X.length),X[i].length=n:=fun i hi=>(he.el _ (List.getElem_mem hi)).1
 obtain⟨s1,cap1,q1,q2,q3,q4,q5,q6⟩:=rx.get (i:=0) (by omega)
 rw [hXn]at q1
 have hpos:(0:Int)<(L.length:Int):=by omega
 have fin:c=n∨d=X.length→K (.sl s0 0 d (.known d)) h':=fun hcd=>hk s0 d X h' rx hXl hdl (he.done hcd)
 have hsl:=zB5 (s0:=s0) hf (d:=d) (by omega)
 by_cases hc:c<n
 rotate_left
 ·have hce:c=n:=by omega
  simp only [pwA,seval,-iQ0,hpos,q1,hc,decide_false,hsl];exact fin (.inl hce)
 by_cases hd:d<L.length
 rotate_left
 ·have hde:d=X.length:=by omega
  simp only [pwA,seval,-iQ0,hpos,q1,hc,hd,decide_true,decide_false,hsl];exact fin (.inr hde)
 clear fin;have wc1:IntKind.i64.wrap ((c:Int)+1)=((c+1:Nat):Int):=by rw [wrap64 (by omega) (by omega)];omega
 simp only [pwA,seval,-iQ0,hpos,q1,hc,hd,decide_true];have row0:∀k (hk:k<X.length) j (hj:j<X[k].length),at_ (row X k) j=X[k][j]:=fun k hk j hj=>by rw [zM hk,at_eq hj]
 refine zA0 2 (fun e h=>∃(t:Nat) (b0:PV),e=PEnv.mk [0,1,5,6,7,47] [.int .i64 p,.sl s0 0 L.length cap,.int .i64 d,.int .i64 c,.int .i64 t,b0]∧h=h'∧d≤t∧t≤L.length∧(∀k,d≤k→k<t→at_ (row X k) c=0)∧(t<L.length→at_ (row X t) c≠0)) (fun Q2 hQ2=>?_) ?_
 ·refine zO (fun m us h=>∃t:Nat,m=L.length-t∧us=[.int .i64 p,.sl s0 0 L.length cap,.int .i64 d,.int .i64 c,.int .i64 t]∧h=h'∧d≤t∧t≤L.length∧∀k,d≤k→k<t→at_ (row X k) c=0) (L.length-d) ⟨d,rfl,rfl,rfl,Nat.le_refl _,by omega,fun k h1 h2=>by omega⟩ ?_
  rintro m us h ⟨t,rfl,rfl,rfl,hdt,htl,hz⟩
  by_cases hlt:t<L.length
  rotate_left
  ·simp only [pwA,seval,-iQ0,hlt,decide_false]
   exact hQ2 _ _ ⟨t,_,rfl,rfl,hdt,htl,hz,fun g=>absurd g hlt⟩
  have htX:t<X.length:=by omega
  obtain⟨s2,cap2,r1,r2,r3,r4,r5,r6⟩:=rx.get htX;rw [hXn]at r1
  have hcr:c<X[t].length:=by rw [hXn];exact hc
  have r7:h.rd1 s2 c=some (.int .i64 X[t][c]):=by rw [zL r2,zo,gi hcr];rfl
  have hat:=row0 t htX c hcr
  by_cases h0:X[t][c]=0
  ·simp only [pwA,seval,-iQ0,hlt,decide_true,r1,hc,r7,h0,wrapS hlt (by omega:L.length≤4611686018427387904)]
   refine⟨_,by omega,t+1,rfl,rfl,by omega,by omega,fun k h1 h2=>?_⟩
   by_cases hk:k=t
   ·rw [hk,hat,h0]
   ·exact hz k h1 (by omega)
  ·simp only [pwA,seval,-iQ0,hlt,decide_true,r1,hc,r7,h0,decide_false]
   exact hQ2 _ _ ⟨t,_,rfl,rfl,hdt,htl,hz,fun _=>by rw [hat];exact h0⟩
 rintro e h ⟨t,b0,rfl,rfl,hdt,htl,hz,hnz⟩
 simp only [pwA,seval,-iQ0]
 by_cases hlt:t<L.length
 rotate_left
 ·have hte:(t:Int)=(L.length:Int):=by omega
  simp only [pwA,seval,-iQ0,hte,wc1];exact⟨_,by omega,c+1,d,X,rfl,rfl,rx,hXl,he.skip hc fun k h1 h2=>hz k h1 (by omega)⟩
 have htX:t<X.length:=by omega
 have hdX:d<X.length:=by omega
 have hte:¬(t:Int)=(L.length:Int):=by omega
 have hnz:=hnz hlt;have htel:=he.el _ (List.getElem_mem htX);have htb:=htel.at0 o c;have hcr:c<X[t].length:=by rw [hXn];exact hc
 rw [zM htX]at hnz
 obtain⟨s2,cap2,s3,cap3,h1,h2,r1,r2,r3,r4,rx2⟩:=rx.swap hdX htX;rw [hXn]at r1 r2 r3 r4
 simp only [pwA,seval,-iQ0,hte,hd,hlt,r1,r2,r3,r4];have hBl:((X.set d X[t]).set t X[d]).length=L.length:=by simp [hXl]
 have hBr:∀i,row ((X.set d X[t]).set t X[d]) i=if i=t then row X d else if i=d then row X t else row X i:=fun i=>by
  rw [zAD (by rw [List.length_set];omega),zAD (by omega),zM hdX,zM htX]
 have hBB:(X.set d X[t]).set t X[d]=(X.set d (row X t)).set t (row X d):=by rw [zM hdX,zM htX]
 generalize hB:(X.set d X[t]).set t X[d]=B at *
 have hrX:∀i,i<L.length→El p n (row X i):=fun i hi=>he.el _ (by rw [zM (by omega)];exact List.getElem_mem _)
 have hBE:∀i,i<L.length→El p n (row B i):=fun i hi=>by
  rw [hBr]
  split
  ·exact hrX d hd
  ·split
   ·exact hrX t hlt
   ·exact hrX i hi
 have hdB:d<B.length:=by omega
 have hBd:row B d=X[t]:=by
  rw [hBr,zM htX]
  split
  ·rename_i h;subst h;exact zM hdX
  ·rw [if_pos rfl]
 obtain⟨sd,capd,g1,g2,g3,g4,g5,gp⟩:=rx2.get hdB;have eBd:B[d]=X[t]:=by rw [←hBd,zM hdB]
 rw [eBd,hXn]at g1 gp
 rw [eBd]at g2
 have g6:h2.rd1 sd c=some (.int .i64 X[t][c]):=by rw [zL g2,zo,gi hcr];rfl
 rw [at_eq hcr]at hnz htb
 simp only [pwA,seval,-iQ0,hd,g1,hc,g6];refine zCQ hp ⟨by omega,by omega⟩ fun k b hk0 hk1 hk2=>?_
 have hyl:=hXn t htX;generalize hy:X[t]=y at *
 have hsl2:(scl p k y).length=n:=by rw [qJ];exact hyl
 simp only [pwA,seval,-iQ0,hd,g1];refine zA0 4 (fun e h=>∃b0:PV,e=PEnv.mk [0,1,5,6,8,84,85,86] [.int .i64 p,.sl s0 0 L.length cap,.int .i64 d,.int .i64 c,.int .i64 k,.int .i64 n,.int .i64 n,b0]∧h=h2.set sd (pis (scl p k y))) (fun Q4 hQ4=>?_) ?_
 ·refine zO (fun m us h=>∃i:Nat,i≤n∧m=n-i∧us=[.int .i64 p,.sl s0 0 L.length cap,.int .i64 d,.int .i64 c,.int .i64 k,.int .i64 n,.int .i64 i]∧h=h2.set sd (pis ((scl p k y).take i++y.drop i))) n ⟨0,by omega,by omega,rfl,by rw [List.take_zero,List.drop_zero,List.nil_append,Zn g2]⟩ ?_
  rintro m us h ⟨i,hi,rfl,rfl,rfl⟩
  simp only [pwA,seval,-iQ0];refine iteI (fun hin=>?_) fun hge=>?_
  rotate_left
  ·have hie:i=n:=by omega
   subst hie;rw [List.drop_of_length_le (by omega),List.append_nil,List.take_of_length_le (by omega)]
   exact hQ4 _ _ ⟨_,rfl,rfl⟩
  have hiy:i<y.length:=by omega
  have e1:=zAC (hsl2.trans hyl.symm) hiy;have hyb:=htel.at0 o i;rw [at_eq hiy]at hyb
  have hb:=sm7 (a:=y[i]) (b:=k) (by omega) (by omega)
  have ew1:IntKind.i64.wrap (y[i] * k)=y[i] * k:=wrap64 (by omega) (by omega)
  have hg7:¬s0=sd:=Ne.symm g4;have hp0:p≠0:=by omega
  have hlen:i+1≤((scl p k y).take i++y.drop i).length:=by simp;omega
  have hiv:i<(scl p k y).length:=by omega
  have hge:(scl p k y)[i]=y[i] * k % p:=by simp [scl]
  have etm:(y[i] * k).tmod p=(scl p k y)[i]:=by rw [hge];exact Int.tmod_eq_emod_of_nonneg (Int.mul_nonneg (by omega) (by omega))
  have eset:List.take i (pis ((scl p k y).take i++y.drop i))++[PV.int .i64 ((y[i] * k).tmod p)]++List.drop (i+1) (pis ((scl p k y).take i++y.drop i))=pis ((scl p k y).take (i+1)++y.drop (i+1)):=by
   rw [etm,ZI (by simp;omega),QL (hsl2.trans hyl.symm) hiv]
  simp only [pwA,seval,-iQ0,hd,g1,hg7,hin,e1,ew1,hp0,zo,zU,hlen,eset,wrapS hin (by omega:n≤4611686018427387904)]
  exact⟨_,by omega,i+1,by omega,rfl,rfl,rfl⟩
 rintro e h ⟨b0,rfl,rfl⟩
 have rx3:=gp (scl p k y) hsl2;have hRr:∀i,row (B.set d (scl p k y)) i=if i=d then scl p k y else row B i:=fun i=>zAD hdB i
 have hRl:(B.set d (scl p k y)).length=L.length:=by rw [List.length_set];exact hBl
 have hRE:∀i,i<L.length→El p n (row (B.set d (scl p k y)) i):=fun i hi=>by
  rw [hRr]
  split
  ·exact zA5 (by omega) hyl
  ·exact hBE i hi
 generalize hRR:B.set d (scl p k y)=R at rx3 hRr hRl hRE
 have hCl:∀m,(clrM p c d R m).length=L.length:=fun m=>by rw [ZV];exact hRl
 have hCr:=fun m (hm:m≤L.length) i=>zDI (p:=p) (c:=c) (d:=d) (R:=R) m (by omega) i
 have hech:Ech p n L (clrM p c d R L.length) (d+1) (c+1):=by
  refine he.piv hpb (B:=B) (t:=t) (k:=k) hc hdt htX hBB (by rw [zM htX,hy,at_eq hcr];exact hk2) (by rw [hCl,hXl]) (by rw [hCr _ (Nat.le_refl _),if_neg (by omega),hRr,if_pos rfl,zM htX,hy]) fun i hi hne=>?_
  rw [hCr _ (Nat.le_refl _) i,if_pos ⟨by omega,hne⟩,hCr _ (Nat.le_refl _) d,if_neg (by omega),hRr i,if_neg hne]
 simp only [pwA,seval,-iQ0];generalize hH3:h2.set sd (pis (scl p k y))=H3 at *
 refine zA0 6 (fun e h=>∃b0:PV,e=PEnv.mk [0,1,5,6,107,108,109] [.int .i64 p,.sl s0 0 L.length cap,.int .i64 d,.int .i64 c,.int .i64 L.length,.int .i64 L.length,b0]∧RX σ h s0 (clrM p c d R L.length)) (fun Q6 hQ6=>?_) ?_
 ·refine zO (fun m us h=>∃i:Nat,i≤L.length∧m=L.length-i∧us=[.int .i64 p,.sl s0 0 L.length cap,.int .i64 d,.int .i64 c,.int .i64 L.length,.int .i64 i]∧RX σ h s0 (clrM p c d R i)) L.length ⟨0,by omega,by omega,rfl,rx3⟩ ?_
  rintro m us h ⟨i,hi,rfl,rfl,rx4⟩
  simp only [pwA,seval,-iQ0];refine iteI (fun hin=>?_) fun hge=>?_
  rotate_left
  ·have hie:i=L.length:=by omega
   subst hie;exact hQ6 _ _ ⟨_,rfl,rx4⟩
  have wi1:=wrapS hin (by omega:L.length≤4611686018427387904)
  by_cases hid:i=d
  ·subst hid
   simp only [pwA,seval,-iQ0,wi1];refine⟨_,by omega,i+1,by omega,rfl,rfl,?_⟩
   unfold clrM;rw [if_pos rfl];exact rx4
  have hid':¬(i:Int)=(d:Int):=by omega
  have hiC:i<(clrM p c d R i).length:=by rw [hCl];exact hin
  have hdC:d<(clrM p c d R i).length:=by rw [hCl];exact hd
  obtain⟨si,capi,sj,capj,f1,f2,f3,f4,f5,f6,f7,f8⟩:=rx4.two hiC hdC hid;have ei:(clrM p c d R i)[i]=row R i:=by rw [←zM hiC,hCr i (by omega),if_neg (by omega)]
  have ed:(clrM p c d R i)[d]=row R d:=by rw [←zM hdC,hCr i (by omega),if_neg (by omega)]
  have gi1:=hRE i hin;have gd1:=hRE d hd;rw [ei,gi1.1]at f1 f8
  rw [ei]at f2
  rw [ed,gd1.1]at f3
  rw [ed]at f4
  have hci:c<(row R i).length:=by rw [gi1.1];exact hc
  have f9:h.rd1 si c=some (.int .i64 (row R i)[c]):=by rw [zL f2,zo,gi hci];rfl
  have gib:=gi1.at0 o c;rw [at_eq hci]at gib
  have ewn:IntKind.i64.wrap (0-(row R i)[c])=0-(row R i)[c]:=wrap64 (by omega) (by omega)
  simp only [pwA,seval,-iQ0,hid',hin,hd,f1,f3,hc,f9,ewn];refine zB0 (xs:=row R i) (ys:=row R d) (by omega) f2 f4 (Ne.symm f5) gi1.1.symm gd1.1.symm (by rw [gi1.1,gd1.1]) (by rw [gi1.1];omega) (fun j g1 g2=>?_) ?_
  ·have b1:=gd1.at0 o j
   have b2:=gi1.at0 o j;rw [at_eq g2]at b1
   rw [at_eq g1]at b2
   have:=sm7 (a:=0-(row R i)[c]) (b:=(row R d)[j]) (by omega) (by omega)
   unfold sm9;omega
  simp only [pwA,seval,-iQ0,wi1];refine⟨_,by omega,i+1,by omega,rfl,rfl,?_⟩
  have:=f8 (vstep p (0-(row R i)[c]) (row R d) (row R i)) (by rw [zX (by rw [gi1.1,gd1.1]),gi1.1])
  unfold clrM;rw [if_neg hid,at_eq hci,show -(row R i)[c]=0-(row R i)[c] by omega]
  exact this
 rintro e h ⟨b0,rfl,rx5⟩
 have wd1:IntKind.i64.wrap ((d:Int)+1)=((d+1:Nat):Int):=by rw [wrap64 (by omega) (by omega)];omega
 simp only [pwA,seval,-iQ0,wc1,wd1];exact⟨_,by omega,c+1,d+1,_,rfl,rfl,rx5,hCl _,hech⟩
end Go.Proofs
namespace Go.Grp
end Go.Grp
namespace Go.Proofs
open Go.Ab Go.Lie Go.Grp Go.Mx
variable {σ h:PHeap} {K:PV→PHeap→Prop} {p:Int} {n s0 b:Nat} {A L X u:List (List Int)} {vA vL:PV} {rows:List SR}
theorem zGA:∀xs:List PV,TR.pvs (xs.map TR.leaf)=xs
 | []=>rfl
 | x::xs=>by simp only [List.map_cons,TR.pvs,TR.pv,zGA xs]
theorem zGB:∀{xs:List PV},Bels 0 xs→TR.okFs h b (xs.map TR.leaf)
 | [],_=>trivial
 | x::xs,hb=>⟨hb.1,zGB hb.2⟩
theorem zAq:∀x:List Int,TR.okFs h b (x.map fun n=>.leaf (.int .i64 n))
 | []=>trivial
 | n::x=>⟨trivial,zAq x⟩
theorem SR.ok.trF {q:SR} (a:q.ok h b):q.tr.okF h b:=⟨⟨by rw [List.length_map];exact a.1,by rw [TR.ints_pvs];exact a.2.1,a.2.2.1,a.2.2.2⟩,zAq q.x⟩
theorem zCc:∀{rows:List SR},(∀q∈rows,q.ok h b)→TR.okFs h b (rows.map SR.tr)
 | [],_=>trivial
 | q::rows,a=>⟨SR.ok.trF (a q (List.mem_cons_self ..)),zCc fun q' hq=>a q' (List.mem_cons_of_mem _ hq)⟩
theorem RX.fin {d:Nat} (a:RX σ h s0 X) (hd:d≤X.length) (k:∀z,FII z (X.take d)→K z σ):Gh σ K (.sl s0 0 d (.known d)) h:=by
 obtain⟨rows,r,rfl⟩:=a;rw [List.length_map]at hd
 have et:(TR.cut s0 0 d (.known d) (rows.map SR.tr)).pv=.sl s0 0 d (.known d):=rfl;rw [←et];refine Gh.treeF r.keep ⟨⟨fun c e=>by cases e;exact Nat.le_refl _,by rw [TR.rows_pvs];exact r.obj,r.lo,r.lt,by rw [List.length_map];omega⟩,zCc r.ok⟩ fun aa=>k _ ⟨false,.sl (aa s0) 0 d (.known d),(TR.fzs aa (rows.map SR.tr)).take d,?_,(TR.rows_all2 rows).take d⟩
 have hl:(List.take d (rows.map SR.x)).length=d:=by simp;omega
 rw [hl];rfl
theorem zCH (hp:isP p) (hL:∀r∈L,El p n r) (hn:n≤64) (hll:L.length≤64) (hvL:FII vL L) (hk:∀z u,FII z u→Canon p n (W0 n) L u→K z σ):
  zC Try.prog 101 [.int .i64 p,vL] σ K:=by
 refine zC.gh ?_
 by_cases h0:0<n∧0<L.length
 ·exact zCG hp hL ⟨h0.1,hn⟩ ⟨h0.2,hll⟩ hvL fun s0 d X h' rx hXl hd hc=>rx.fin hd fun z hz=>hk z _ hz hc
 -- nothing to do
 have hcan:Canon p n (W0 n) L []:=by
  have hE:=Ech.start hL
  have:=hE.done (by
   by_cases h1:0<n
   ·exact .inr (by have:¬0<L.length:=fun h=>h0 ⟨h1,h⟩;omega)
   ·exact .inl (by omega))
  rwa [List.take_zero]at this
 refine zD mix Try.func101 ?_
 conv=>arg 2;cbv
 refine zG rfl ?_;simp only [pwA,seval,-iQ0];refine zDH (fun r hr=>by rw [(hL r hr).1];omega) (by omega) hvL fun v h1 rows hk1 ha hall=>?_
 rcases ha with ⟨rfl,e1,e2⟩|⟨s0,cap,rfl,hf,q2,q3,q4,q5⟩
 ·have hsl:qY 1 (.fz true .nils 0 []) none (some (.int .i64 0)) (some (.int .i64 0))=some (.fz true .nils 0 []):=rfl
  simp only [pwA,seval,-iQ0,hsl];refine zO (fun m vs h'=>m=0∧vs=[.int .i64 p,.fz true .nils 0 [],.int .i64 0,.int .i64 0]∧h'=h1) 0 ⟨rfl,rfl,rfl⟩ ?_
  rintro m vs h' ⟨rfl,rfl,rfl⟩
  have hz0:¬(0:Int)<((0:Nat):Int):=by omega
  simp only [pwA,seval,-iQ0,hz0,decide_false,hsl];exact Gh.fin0 hk1 (show Bel _ (PV.fz true .nils 0 []) from trivial) (hk _ _ ⟨true,.nils,[],rfl,All2.nil _⟩ hcan)
 ·have hsl:qY 1 (.sl s0 0 L.length cap) none (some (.int .i64 0)) (some (.int .i64 0))=some (.sl s0 0 0 (.known 0)):=zB5 (s0:=s0) hf (d:=0) (Nat.zero_le _)
  have hfin:Gh σ K (.sl s0 0 0 (.known 0)) h1:=by
   have et:(TR.cut s0 0 0 (.known 0) (rows.map TR.leaf)).pv=.sl s0 0 0 (.known 0):=rfl;rw [←et];exact Gh.treeF hk1 ⟨⟨fun c e=>by cases e;exact Nat.le_refl _,by rw [zGA];exact q2,q4,q5,by simp⟩,zGB (hall.bI 0)⟩ fun aa=>hk _ [] ⟨false,.sl (aa s0) 0 0 (.known 0),[],by simp [TR.fz],All2.nil _⟩ hcan
  simp only [pwA,seval,-iQ0];refine zO (fun m vs h'=>m=0∧vs=[.int .i64 p,.sl s0 0 L.length cap,.int .i64 0,.int .i64 0]∧h'=h1) 0 ⟨rfl,rfl,rfl⟩ ?_
  rintro m vs h' ⟨rfl,rfl,rfl⟩
  by_cases hpos:0<L.length
  ·have hn0:n=0:=by
    rcases Nat.eq_zero_or_pos n with g|g
    ·exact g
    ·exact absurd ⟨g,hpos⟩ h0
   obtain⟨w4,a4,hr⟩:=hall.rowI hpos;have hl0:L[0].length=0:=by rw [(hL _ (List.getElem_mem hpos)).1];exact hn0
   have r1:h'.rd1 s0 0=some (.fz w4 a4 L[0].length (pis L[0])):=by rw [zL q2];exact hr
   rw [hl0]at r1
   have hpos':(0:Int)<(L.length:Int):=by omega
   have hz0:¬(0:Int)<((0:Nat):Int):=by omega
   simp only [pwA,seval,-iQ0,hpos',r1,hz0,decide_false,hsl];exact hfin
  ·have hpos':¬(0:Int)<(L.length:Int):=by omega
   simp only [pwA,seval,-iQ0,hpos',hsl];exact hfin
end Go.Proofs
namespace Go.Grp
end Go.Grp
namespace Go.Proofs
open Go.Ab Go.Lie Go.Grp Go.Mx
variable {σ:PHeap} {K:PV→PHeap→Prop} {p d:Int} {n na:Nat} {v w x y xs ys:List Int} {A B M F vals:List (List Int)} {As:List (List (List Int))} {vA vB vM vv vx vw vV v0:PV} {O:List Int} {P:List (List Int)} {C:List (List (List Int))} {vO vP vC:PV} {s sp:Nat}
open Classical in
theorem zGD {vL:PV} {xs:List (List Int)} (hL:FII vL xs) (sz:SzL xs) (hk:∀v,FII v xs→K v σ):zC Try.prog 89 [vL] σ K:=by
 have hb:=sz.l;obtain⟨wl,al,rl,rfl,hrl⟩:=hL;refine zC.gh ?_;refine zD mix Try.func89 ?_
 conv=>arg 2;cbv
 refine zG rfl ?_;simp only [pwA,seval,-iQ0];refine zO (fun m vs h'=>∃i v rows,i≤xs.length∧m=xs.length-i∧vs=[.fz wl al xs.length rl,v,.int .i64 (i:Nat)]∧Keep σ h'∧PSl σ.next 1 h' v i rows∧All2 FI rows (xs.take i)) xs.length ?_ ?_
 ·exact⟨0,_,[],by omega,by omega,rfl,zF σ _,PSl.new σ.next 1 rfl (Nat.le_refl _),by simpa using All2.nil _⟩
 ·rintro m vs h' ⟨i,v,rows,hi,rfl,rfl,hkp,ha,hall⟩
  simp only [pwA,seval,-iQ0];refine iteI (fun hlt=>?_) fun hge=>?_
  ·obtain⟨w4,a4,hrk⟩:=hrl.rowI hlt
   simp only [pwA,seval,-iQ0,hlt,hrk];refine zC.fz (e:=1) (fun K'=>Qs rfl (by have:=sz.r _ (List.getElem_mem hlt);omega)) (qE _ _) fun o cap=>?_
   simp only [pwA,seval,-iQ0];refine PSl.push (bytes:=24) (σb:=σ) hkp ha (by omega) (by omega) fun v2 h2 k2 a2=>?_
   simp only [pwA,seval,-iQ0,wrapS hlt (by omega:xs.length≤4611686018427387904)]
   refine⟨_,by omega,i+1,v2,_,by omega,rfl,rfl,k2,a2,?_⟩
   rw [List.take_succ_eq_append_getElem hlt];exact hall.snoc ⟨_,_,rfl⟩
  ·have hie:i=xs.length:=by omega
   subst hie;rw [List.take_length]at hall
   exact ha.fin hkp (hall.bI 0) fun o cap=>hk _ ⟨_,_,_,rfl,hall⟩
theorem zE0 (hF:FII vM F) (sz:SzL F) (hk:∀v,FII v F→K (.agg [.int .i64 p,.int .i64 d,v]) σ):zC Try.prog 47 [.int .i64 p,.int .i64 d,vM] σ K:=by
 refine zC.gh ?_;refine zD mix Try.func47 ?_
 conv=>arg 2;cbv
 refine zG rfl ?_;simp only [pwA,seval,-iQ0];refine zGD hF sz fun v hv=>?_
 simp only [pwA,seval,-iQ0,hv.one,hv.cells];exact Gh.fin0 (zF σ _) ⟨trivial,trivial,hv.bel _,trivial⟩ (hk _ hv)
end Go.Proofs
namespace Go.Grp
end Go.Grp
namespace Go.Proofs
open Go.Ab Go.Lie Go.Grp Go.Mx
variable {σ:PHeap} {K:PV→PHeap→Prop} {p p' c c':Int} {n m:Nat} {x y bs:List Int} {A B F F' u xs ys:List (List Int)} {vx vy va vb vA vB vF vF' vC:PV}
theorem zFk {i:Nat} (hi:i<x.length):(pis x)[i]? = some (.int .i64 (at_ x i)):=by rw [zo,gi hi,at_eq hi];rfl
theorem zDz (hx:FI vx x) (hy:FI vy y) (hl:x.length≤1048576) (hk:∀t:Bool,(t=true↔x=y)→K (.bool t) σ):zC Try.prog 35 [vx,vy] σ K:=by
 obtain⟨wx,ax,rfl⟩:=hx;obtain⟨wy,ay,rfl⟩:=hy;refine zD mix Try.func35 ?_
 conv=>arg 2;cbv
 refine zG rfl ?_;simp only [pwA,seval,-iQ0]
 by_cases hxy:x.length=y.length
 rotate_left
 ·have hne:¬(x.length:Int)=(y.length:Int):=by omega
  simp only [pwA,seval,-iQ0,hne];exact hk false ⟨fun h=>(by cases h),fun h=>absurd (by rw [h]) hxy⟩
 have heq:(x.length:Int)=(y.length:Int):=by omega
 simp only [pwA,seval,-iQ0,heq];refine zO (fun m us g=>∃i:Nat,i≤y.length∧m=y.length-i∧us=[.fz wx ax x.length (pis x),.fz wy ay y.length (pis y),.int .i64 i]∧g=σ∧∀j,j<i→x[j]? = y[j]?) y.length ⟨0,by omega,by omega,rfl,rfl,fun j hj=>absurd hj (Nat.not_lt_zero _)⟩ ?_
 rintro m us g ⟨i,hi,rfl,rfl,rfl,he⟩
 simp only [pwA,seval,-iQ0,heq];refine iteI (fun hlt=>?_) fun hge=>?_
 rotate_left
 ·refine hk true ⟨fun _=>List.ext_getElem? fun j=>?_,fun _=>rfl⟩
  rcases Nat.lt_or_ge j i with e|e
  ·exact he j e
  ·rw [List.getElem?_eq_none (by omega),List.getElem?_eq_none (by omega)]
 have hltx:i<x.length:=by omega
 have hlty:i<y.length:=by omega
 have wi1:IntKind.i64.wrap ((i:Int)+1)=((i+1:Nat):Int):=wrapS hlty (by omega)
 simp only [pwA,seval,-iQ0,zFk hltx,zFk hlty,hltx,hlty,wi1];refine iteI (fun hv=>?_) fun hv=>?_
 ·refine⟨_,by omega,i+1,by omega,rfl,rfl,fun j hj=>?_⟩
  rcases Nat.lt_or_ge j i with e|e
  ·exact he j e
  ·obtain rfl:j=i:=by omega
   rw [List.getElem?_eq_getElem hltx,List.getElem?_eq_getElem hlty,←at_eq hltx,←at_eq hlty,hv]
 ·refine hk false ⟨fun h=>(by cases h),fun h=>absurd ?_ hv⟩
  rw [h]
theorem zIh (hb:FB vC bs) (hk:∀t:Bool,(t=true↔4096<bs.length)→K (.bool t) σ):zC Try.prog 8 [vC] σ K:=by
 obtain⟨w,a,rfl⟩:=hb;refine zD mix Try.func8 ?_
 conv=>arg 2;cbv
 refine zG rfl ?_;simp only [pwA,seval,-iQ0];refine hk _ ?_;rw [decide_eq_true_eq];omega
theorem zF9 (ha:FII va xs) (hb:FII vb ys) (sz:SzL xs) (hk:∀t:Bool,(t=true↔xs=ys)→K (.bool t) σ):zC Try.prog 49 [va,vb] σ K:=by
 obtain⟨wx,ax,rx,rfl,hrx⟩:=ha;obtain⟨wy,ay,ry,rfl,hry⟩:=hb;have hl:=sz.l;refine zD mix Try.func49 ?_
 conv=>arg 2;cbv
 refine zG rfl ?_;simp only [pwA,seval,-iQ0]
 by_cases hxy:xs.length=ys.length
 rotate_left
 ·have hne:¬(xs.length:Int)=(ys.length:Int):=by omega
  simp only [pwA,seval,-iQ0,hne];exact hk false ⟨fun h=>(by cases h),fun h=>absurd (by rw [h]) hxy⟩
 have heq:(xs.length:Int)=(ys.length:Int):=by omega
 simp only [pwA,seval,-iQ0,heq];refine zO (fun m us g=>∃i:Nat,i≤ys.length∧m=ys.length-i∧us=[.fz wx ax xs.length rx,.fz wy ay ys.length ry,.int .i64 i]∧g=σ∧∀j,j<i→xs[j]? = ys[j]?) ys.length ⟨0,by omega,by omega,rfl,rfl,fun j hj=>absurd hj (Nat.not_lt_zero _)⟩ ?_
 rintro m us g ⟨i,hi,rfl,rfl,rfl,he⟩
 simp only [pwA,seval,-iQ0,heq];refine iteI (fun hlt=>?_) fun hge=>?_
 rotate_left
 ·refine hk true ⟨fun _=>List.ext_getElem? fun j=>?_,fun _=>rfl⟩
  rcases Nat.lt_or_ge j i with e|e
  ·exact he j e
  ·rw [List.getElem?_eq_none (by omega),List.getElem?_eq_none (by omega)]
 have hltx:i<xs.length:=by omega
 have hlty:i<ys.length:=by omega
 have wi1:IntKind.i64.wrap ((i:Int)+1)=((i+1:Nat):Int):=wrapS hlty (by omega)
 obtain⟨w1,a1,h1⟩:=hrx.rowI hltx;obtain⟨w2,a2,h2⟩:=hry.rowI hlty;have hle:=sz.r _ (List.getElem_mem hltx);simp only [pwA,seval,-iQ0,h1,h2,hltx,hlty];refine zDz ⟨w1,a1,rfl⟩ ⟨w2,a2,rfl⟩ hle fun t ht=>?_
 cases t with
 | false=>
  simp only [pwA,seval,-iQ0];refine hk false ⟨fun h=>(by cases h),fun h=>?_⟩
  have:=ht.2 (by simp only [h])
  cases this
 | true=>
  have hv:=ht.1 rfl;simp only [pwA,seval,-iQ0,wi1];refine⟨_,by omega,i+1,by omega,rfl,rfl,fun j hj=>?_⟩
  rcases Nat.lt_or_ge j i with e|e
  ·exact he j e
  ·obtain rfl:j=i:=by omega
   rw [List.getElem?_eq_getElem hltx,List.getElem?_eq_getElem hlty,hv]
theorem Z6 (hF:FII vF F) (hF':FII vF' F') (sz:SzL F) (hk:∀t:Bool,(t=true↔p=p'∧c=c'∧F=F')→K (.bool t) σ):zC Try.prog 12 [.agg [.int .i64 p,.int .i64 c,vF],.agg [.int .i64 p',.int .i64 c',vF']] σ K:=by
 have h1:=hF.one;have h2:=hF'.one;refine zC.gh ?_;have hkp:Keep σ ((σ.new [.int .i64 p,.int .i64 c,vF]).new [.int .i64 p',.int .i64 c',vF']):=(zF σ _).new _;have fin:∀{t:Bool},(t=true↔p=p'∧c=c'∧F=F')→Gh σ K (.bool t) ((σ.new [.int .i64 p,.int .i64 c,vF]).new [.int .i64 p',.int .i64 c',vF']):=fun h=>Gh.fin0 hkp trivial (hk _ h)
 refine zD mix Try.func12 ?_
 conv=>arg 2;cbv
 refine zG rfl ?_;simp only [pwA,seval,-iQ0,h1,h2]
 by_cases hp:p=p'
 rotate_left
 ·simp only [pwA,seval,-iQ0,hp,decide_false]
  exact fin (t:=false) ⟨fun h=>(by cases h),fun h=>absurd h.1 hp⟩
 subst hp
 by_cases hc:c=c'
 rotate_left
 ·simp only [pwA,seval,-iQ0,hc,decide_true,decide_false]
  exact fin (t:=false) ⟨fun h=>(by cases h),fun h=>absurd h.2.1 hc⟩
 subst hc;simp only [pwA,seval,-iQ0,decide_true];refine zF9 hF hF' sz fun t ht=>?_
 cases t with
 | false=>
  simp only [pwA,seval,-iQ0];exact fin (t:=false) ⟨fun h=>(by cases h),fun h=>by cases ht.2 h.2.2⟩
 | true=>
  simp only [pwA,seval,-iQ0];exact fin (t:=true) ⟨fun _=>⟨rfl,rfl,ht.1 rfl⟩,fun _=>rfl⟩
theorem zCZ {k:Nat} (hk:k<n):(trm n A).take (k+1)=(trm n A).take k++[A.map fun r=>at_ r k]:=by
 rw [List.take_succ_eq_append_getElem (by rw [zN];exact hk)]
 simp [trm]
theorem zCO {α β:Type} {f:α→β} {xs:List α} {i:Nat} (hi:i<xs.length):(xs.take (i+1)).map f=(xs.take i).map f++[f xs[i]]:=by
 rw [List.take_succ_eq_append_getElem hi,List.map_append];rfl
theorem zCF (hA:∀r∈A,r.length=n) (hn:n≤64) (hal:A.length≤64) (hvA:FII vA A) (hk:∀v,FII v (trm n A)→K (.agg [.int .i64 p,.int .i64 A.length,v]) σ):
  zC Try.prog 50 [.agg [.int .i64 p,.int .i64 n,vA]] σ K:=by
 have h1:=hvA.one;obtain⟨wA,aA,rA,rfl,hrA⟩:=hvA;refine zC.pwf fun w0=>zC.gh ?_
 generalize hH:(σ.new [.int .i64 p,.int .i64 n,.fz wA aA A.length rA]).new [.int .i64 0,.int .i64 0,.fz true .nils 0 []]=H;have hHn:H.next=σ.next+2:=by rw [←hH];rfl
 have hHk:Keep σ H:=by rw [←hH];exact(zF σ _).new _
 have wH:PWF H:=by rw [←hH];exact(w0.newB (cs:=[.int .i64 p,.int .i64 n,.fz wA aA A.length rA]) ⟨trivial,trivial,trivial,trivial⟩).newB ⟨trivial,trivial,trivial,trivial⟩
 have ho1:H.obj σ.next=some [.int .i64 p,.int .i64 n,.fz wA aA A.length rA]:=by rw [←hH];simp only [pwA,seval,-iQ0]
 have ho2:H.obj (σ.next+1)=some [.int .i64 0,.int .i64 0,.fz true .nils 0 []]:=by rw [←hH];simp only [pwA,seval,-iQ0]
 have q0:H.rd1 σ.next 0=some (.int .i64 p):=by rw [zL ho1];rfl
 have q2:H.rd1 σ.next 2=some (.fz wA aA A.length rA):=by rw [zL ho1];rfl
 have q1:H.rd1 σ.next 1=some (.int .i64 n):=by rw [zL ho1];rfl
 have hne3:¬σ.next=H.next:=by omega
 refine zD mix Try.func50 ?_
 conv=>arg 2;cbv
 refine zG rfl ?_;simp only [pwA,seval,-iQ0];rw [hH];simp only [pwA,seval,-iQ0,q0,q1,q2,hne3];refine zGV (fun m vs h'=>∃(i:Nat) (vC:PV) (rows:List PV),i≤n∧m=n-i∧vs=[.ptr σ.next 0,.ptr (σ.next+1) 0,.ptr (σ.next+2) 0,.int .i64 n,.int .i64 i]∧Acc3 H h' p A.length vC i rows∧All2 FI rows ((trm n A).take i)) n ?_ ?_
 ·exact .here ⟨0,_,[],by omega,by omega,rfl,⟨zF H _,by rw [zK,if_pos rfl],Nat.lt_succ_self _,PAcc.nil _ _ _⟩,by rw [List.take_zero];exact All2.nil _⟩
 rintro m vs h' ⟨i,vC,rows,hi,rfl,rfl,a,hall⟩
 have hob:=a.obj;have hlt0:=a.lt;rw [hHn]at hob hlt0
 have hor:h'.obj (σ.next+1)=some [.int .i64 0,.int .i64 0,.fz true .nils 0 []]:=by rw [a.keep.obj _ (by omega)];exact ho2
 have hoa:h'.obj σ.next=some [.int .i64 p,.int .i64 n,.fz wA aA A.length rA]:=by rw [a.keep.obj _ (by omega)];exact ho1
 have ra:h'.rd1 σ.next 2=some (.fz wA aA A.length rA):=by rw [zL hoa];rfl
 simp only [pwA,seval,-iQ0];refine iteI (fun hlt=>?_) fun hge=>?_
 rotate_left
 ·have hie:i=n:=by omega
  subst hie;have rd:h'.rd (σ.next+2) 0 3=some [.int .i64 p,.int .i64 A.length,vC]:=by rw [zx hob];rfl
  have hwr:h'.wr (σ.next+1) 0 [.int .i64 p,.int .i64 A.length,vC]=some (h'.set (σ.next+1) [.int .i64 p,.int .i64 A.length,vC]):=by
   rw [ZX hor,if_pos ⟨by simp,by simp only [List.all_cons,List.all_nil,a.acc.one];rfl⟩];rfl
  simp only [pwA,seval,-iQ0,rd,hwr];rw [List.take_of_length_le (by rw [zN];exact Nat.le_refl _)]at hall
  exact a.out hHk (by omega) (by omega) hall hk
 have hlt':i<n:=by omega
 have wi1:=wrapS hlt' (by omega:n≤4611686018427387904)
 simp only [pwA,seval,-iQ0,ra];refine zA0 2 (fun e h=>∃(vR:PV) (b0:PV),e=PEnv.mk [1,2,3,4,5,14,15,20,21,22] [.ptr σ.next 0,.ptr (σ.next+1) 0,.ptr (σ.next+2) 0,.int .i64 i,vR,.int .i64 n,.int .i64 i,.int .i64 A.length,.int .i64 A.length,b0]∧Keep h' h∧PAcc h'.next 1 h vR A.length (pis (A.map fun r=>at_ r i))) (fun Q2 hQ2=>?_) ?_
 ·refine zO (fun m us h=>∃(k:Nat) (vR:PV),k≤A.length∧m=A.length-k∧us=[.ptr σ.next 0,.ptr (σ.next+1) 0,.ptr (σ.next+2) 0,.int .i64 i,vR,.int .i64 n,.int .i64 i,.int .i64 A.length,.int .i64 k]∧Keep h' h∧PAcc h'.next 1 h vR k (pis ((A.take k).map fun r=>at_ r i))) A.length ⟨0,_,by omega,by omega,rfl,Keep.refl _,by rw [List.take_zero];exact PAcc.nil _ _ _⟩ ?_
  rintro m us h ⟨k,vR,hk',rfl,rfl,hkp,ha⟩
  simp only [pwA,seval,-iQ0];refine iteI (fun hlk=>?_) fun hgk=>?_
  rotate_left
  ·have hke:k=A.length:=by omega
   subst hke;rw [List.take_length]at ha
   exact hQ2 _ _ ⟨vR,_,rfl,hkp,ha⟩
  obtain⟨w4,a4,hr⟩:=hrA.rowI hlk;have hrl:i<A[k].length:=by rw [hA _ (List.getElem_mem hlk)];exact hlt'
  have ra2:h.rd1 σ.next 2=some (.fz wA aA A.length rA):=by rw [zL (by rw [hkp.obj _ (by omega)];exact hoa)];rfl
  simp only [pwA,seval,-iQ0,ra2,hlk,hr,hrl,gi hrl,zo];refine PAcc.push (bytes:=8) hkp ha (by omega) (by omega) fun v' h2 k2 a2=>?_
  simp only [pwA,seval,-iQ0,wrapS hlk (by omega:A.length≤4611686018427387904)]
  refine⟨_,by omega,k+1,v',by omega,rfl,rfl,k2,?_⟩
  rw [zCO hlk,at_eq hrl]
  have:=a2.acc
  rwa [show [PV.int .i64 A[k][i]]=pis [A[k][i]] from rfl,zBG]at this
 rintro e h ⟨vR,b0,rfl,hkp,ha⟩
 have hcll:(A.map fun r=>at_ r i).length=A.length:=by simp
 have a':Acc3 H h p A.length vC i rows:=⟨a.keep.trans hkp,by rw [hkp.obj _ a.lt];exact a.obj,Nat.lt_of_lt_of_le a.lt hkp.next,a.acc.keep hkp⟩
 have hob':=a'.obj;have hlt1:=a'.lt;rw [hHn]at hob' hlt1
 have r2:h.rd1 (σ.next+2) 2=some vC:=by rw [zL hob'];rfl
 have hne:¬σ.next+2=h.next:=by omega
 have hkn:=hkp.next;generalize hcl:A.map (fun r=>at_ r i)=cl at *
 have g1:=ha.one;have g2:=ha.cells;simp only [pwA,seval,-iQ0,r2,hne,g1,g2];refine PAcc.pushS (σb:=H) (bytes:=24) a'.keep (a'.acc.low (Nat.le_succ _)) rfl (by omega) (by omega) fun v' h2 k2 a2 o2 n2 l2=>?_
 have hob2:h2.obj (σ.next+2)=some [.int .i64 p,.int .i64 A.length,vC]:=by
  rw [o2 _ hlt1 (a'.acc.ne' (by omega))];exact hob'
 have hwr:h2.wr (σ.next+2) 2 [v']=some (h2.set (σ.next+2) [.int .i64 p,.int .i64 A.length,v']):=by
  rw [ZX hob2,if_pos ⟨by simp,by simp [a2.one]⟩];rfl
 simp only [pwA,seval,-iQ0,hwr,a2.cells,wi1];have hk3:Keep H (h2.set (σ.next+2) [.int .i64 p,.int .i64 A.length,v']):=k2.set (by omega) _
 rcases ha with ⟨rfl,e1,e2⟩|⟨s,cap,rfl,hf,q2',q3',q4',q5'⟩
 ·have hcn:cl=[]:=by
   have:(pis cl).length=0:=by rw [e2];rfl
   rw [zU]at this
   exact List.eq_nil_of_length_eq_zero this
  refine⟨n-(i+1),by omega,.here ⟨i+1,v',_,by omega,rfl,rfl,⟨hk3,by rw [hHn,zI,if_pos rfl],by rw [hHn];show σ.next+2<h2.next;omega,(PSl.setO (a2.high (b':=H.next+1) fun t ht=>n2 t (by omega)) (by omega) _).acc⟩,?_⟩⟩
  rw [zCZ hlt',hcl,hcn];exact hall.snoc ⟨true,.nils,rfl⟩
 have a3:PSl (H.next+1) 1 (h2.set (σ.next+2) [.int .i64 p,.int .i64 A.length,v']) v' (i+1) (rows++[.sl s 0 A.length cap]):=PSl.setO (a2.high fun t ht=>n2 t (by omega)) (by omega) _
 refine⟨n-(i+1),by omega,.fzh s (pis cl) (by rw [zI,if_neg (by omega),o2 _ q5' (a.acc.ne q4')];exact q2') (qE _ _) fun o1=>?_⟩
 obtain⟨f1,f2,f3⟩:=PSl.fzr wH hk3 (a3.acc.low (Nat.le_succ _) |>.pos (by omega)) (s:=s) (cs:=pis cl) (by omega) (n2 _ q5') o1
 refine .here ⟨i+1,v',rows++[.fz true (.sl o1 0 A.length cap) A.length (pis cl)],by omega,rfl,?_,⟨f1,?_,?_,?_⟩,?_⟩
 ·simp only [sbs,sb]
 ·rw [hHn]
  simp only [PHeap.sub,PHeap.kill,PHeap.set,if_neg (by omega:¬σ.next+2=s),if_true,Option.map_some,sbs,sb,f3]
 ·rw [hHn];show σ.next+2<h2.next;omega
 ·rw [zHd (hall.bI 0) hf.ok]at f2
  exact(f2.high fun t ht=>n2 t (by omega)).acc
 ·rw [zCZ hlt',hcl]
  exact hall.snoc ⟨true,_,by rw [hcll]⟩
end Go.Proofs
namespace Go.Grp
end Go.Grp
namespace Go.Proofs
open Go.Ab Go.Lie Go.Grp Go.Mx
variable {σ H:PHeap} {K:PV→PHeap→Prop} {p p' c c' a b:Int} {n m r:Nat} {x y bs:List Int} {A B F F' u xs ys:List (List Int)} {v vx vy va vb vA vB vF vF' vC:PV}
theorem res3 (hor:H.obj r=some [.int .i64 0,.int .i64 0,.fz true .nils 0 []]) (hv:v.one=true):
  H.wr r 0 [.int .i64 a,.int .i64 b,v]=some (H.set r [.int .i64 a,.int .i64 b,v])∧(H.set r [.int .i64 a,.int .i64 b,v]).rd r 0 3=some [.int .i64 a,.int .i64 b,v]:=
 ⟨by rw [ZX hor,if_pos ⟨by simp,by simp only [List.all_cons,List.all_nil,hv];rfl⟩];rfl,by rw [zBo,if_pos rfl];rfl⟩
def RetM (K:PV→PHeap→Prop) (σ:PHeap) (r:(Int×Int×List (List Int))×Int):Prop:=∀v,FII v r.1.2.2→K (.tup [.agg [.int .i64 r.1.1,.int .i64 r.1.2.1,v],.int .i64 r.2]) σ
theorem RetM.fin {R:(Int×Int×List (List Int))×Int} (k:RetM K σ R) {e:Int} {h:PHeap} (hk:Keep σ h) (hv:FII v A) (hR:R=((a,b,A),e)):Gh σ K (.tup [.agg [.int .i64 a,.int .i64 b,v],.int .i64 e]) h:=by
 subst hR;exact Gh.fin0 hk ⟨⟨trivial,trivial,hv.bel _,trivial⟩,trivial,trivial⟩ (k v hv)
theorem nilM:FII (.fz true .nils 0 []) []:=⟨true,.nils,[],rfl,All2.nil _⟩
theorem mx_n (h:isMx p c F):∃n:Nat,c=(n:Int)∧n≤8∧isP p∧F.length≤8∧Ma p n F:=by
 obtain⟨h1,h2,h3,h4⟩:=h;exact⟨c.toNat,by omega,by omega,h1,h3,h4⟩
open Classical in
noncomputable def mpRes (p c:Int) (F:List (List Int)) (p' c':Int) (F':List (List Int)):(Int×Int×List (List Int))×Int:=
 if isMx p c F∧isMx p' c' F' then(if p=p'∧(F'.length:Int)=c then((p,c',mm p c'.toNat F F'),0)else((0,0,[]),2))else((0,0,[]),1)
theorem QC (hF:FII vF F) (sz:SzL F) (hF':FII vF' F') (sz':SzL F') (hk:RetM K σ (mpRes p c F p' c' F')):zC Try.prog 10 [.agg [.int .i64 p,.int .i64 c,vF],.agg [.int .i64 p',.int .i64 c',vF']] σ K:=by
 have h1:=hF.one;have h2:=hF'.one;have hF0:=hF;have hF0':=hF';refine zC.gh ?_;generalize hH:((σ.new [.int .i64 p,.int .i64 c,vF]).new [.int .i64 p',.int .i64 c',vF']).new [.int .i64 0,.int .i64 0,.fz true .nils 0 []]=H;have hkp:Keep σ H:=by rw [←hH];exact((zF σ _).new _).new _
 have g0:H.rd σ.next 0 3=some [.int .i64 p,.int .i64 c,vF]:=by rw [←hH];simp only [pwA,seval,-iQ0]
 have g1:H.rd (σ.next+1) 0 3=some [.int .i64 p',.int .i64 c',vF']:=by rw [←hH];simp only [pwA,seval,-iQ0]
 have m0:H.rd1 σ.next 0=some (.int .i64 p):=by rw [←hH];simp only [pwA,seval,-iQ0]
 have m1:H.rd1 σ.next 1=some (.int .i64 c):=by rw [←hH];simp only [pwA,seval,-iQ0]
 have m2:H.rd1 (σ.next+1) 0=some (.int .i64 p'):=by rw [←hH];simp only [pwA,seval,-iQ0]
 have m3:H.rd1 (σ.next+1) 2=some vF':=by rw [←hH];simp only [pwA,seval,-iQ0]
 have hor:H.obj (σ.next+2)=some [.int .i64 0,.int .i64 0,.fz true .nils 0 []]:=by rw [←hH];simp only [pwA,seval,-iQ0]
 obtain⟨w0,r0⟩:=res3 (a:=0) (b:=0) hor (v:=.fz true .nils 0 []) rfl;have no:∀e,mpRes p c F p' c' F'=((0,0,[]),e)→Gh σ K (.tup [.agg [.int .i64 0,.int .i64 0,.fz true .nils 0 []],.int .i64 e]) (H.set (σ.next+2) [.int .i64 0,.int .i64 0,.fz true .nils 0 []]):=fun e he=>hk.fin (hkp.set (by omega) _) nilM he
 refine zD mix Try.func10 ?_
 conv=>arg 2;cbv
 refine zG rfl ?_;simp only [pwA,seval,-iQ0,h1,h2];rw [hH];simp only [pwA,seval,-iQ0,g0];refine ZQ sz hF fun t ht=>?_
 cases t with
 | false=>
  simp only [pwA,seval,-iQ0,w0,r0];exact no _ (by unfold mpRes;rw [if_neg fun h=>by cases ht.2 h.1])
 | true=>
 simp only [pwA,seval,-iQ0,g1];refine ZQ sz' hF' fun t' ht'=>?_
 cases t' with
 | false=>
  simp only [pwA,seval,-iQ0,w0,r0];exact no _ (by unfold mpRes;rw [if_neg fun h=>by cases ht'.2 h.2])
 | true=>
 have hm:=ht.1 rfl;have hm':=ht'.1 rfl;have hlen:pLen vF'=some (.int .i64 F'.length):=by obtain⟨w,a,r,rfl,_⟩:=hF';rfl
 by_cases hpp:p=p'
 rotate_left
 ·simp only [pwA,seval,-iQ0,m0,m2,hpp,w0,r0]
  exact no _ (by unfold mpRes;rw [if_pos ⟨hm,hm'⟩,if_neg fun h=>hpp h.1])
 subst hpp
 by_cases hc:(F'.length:Int)=c
 rotate_left
 ·simp only [pwA,seval,-iQ0,m0,m1,m2,m3,hlen,hc,w0,r0]
  exact no _ (by unfold mpRes;rw [if_pos ⟨hm,hm'⟩,if_neg fun h=>hc h.2])
 obtain⟨n,rfl,hn,hp,hl,hA⟩:=mx_n hm;obtain⟨n',rfl,hn',_,hl',hB⟩:=mx_n hm';have hnn:n=F'.length:=by omega
 subst hnn;simp only [pwA,seval,-iQ0,m0,m1,m2,m3,hlen,g0,g1];refine zEe hp.bd hA hB hn' hl' hl hF0 hF0' rfl fun v hv=>?_
 obtain⟨w1,r1⟩:=res3 (a:=p) (b:=(n':Int)) hor hv.one;simp only [pwA,seval,-iQ0,w1,r1,hv.one,hv.cells];exact hk.fin (hkp.set (by omega) _) hv (by unfold mpRes;rw [if_pos ⟨hm,hm'⟩,if_pos ⟨rfl,rfl⟩];rfl)
theorem zBd (hF:FII vF F) (sz:SzL F) (hF':FII vF' F') (sz':SzL F') (hk:RetM K σ (mpRes p c F p' c' F')):zC Try.prog 11 [.agg [.int .i64 p,.int .i64 c,vF],.agg [.int .i64 p',.int .i64 c',vF']] σ K:=by
 have h1:=hF.one;have h2:=hF'.one;have hF0:=hF;have hF0':=hF';refine zC.gh ?_;generalize hH:((σ.new [.int .i64 p,.int .i64 c,vF]).new [.int .i64 p',.int .i64 c',vF']).new [.int .i64 0,.int .i64 0,.fz true .nils 0 []]=H;have hkp:Keep σ H:=by rw [←hH];exact((zF σ _).new _).new _
 have g0:H.rd σ.next 0 3=some [.int .i64 p,.int .i64 c,vF]:=by rw [←hH];simp only [pwA,seval,-iQ0]
 have g1:H.rd (σ.next+1) 0 3=some [.int .i64 p',.int .i64 c',vF']:=by rw [←hH];simp only [pwA,seval,-iQ0]
 have m0:H.rd1 σ.next 0=some (.int .i64 p):=by rw [←hH];simp only [pwA,seval,-iQ0]
 have m1:H.rd1 σ.next 1=some (.int .i64 c):=by rw [←hH];simp only [pwA,seval,-iQ0]
 have m9:H.rd1 σ.next 2=some vF:=by rw [←hH];simp only [pwA,seval,-iQ0]
 have m2:H.rd1 (σ.next+1) 0=some (.int .i64 p'):=by rw [←hH];simp only [pwA,seval,-iQ0]
 have m4:H.rd1 (σ.next+1) 1=some (.int .i64 c'):=by rw [←hH];simp only [pwA,seval,-iQ0]
 have m3:H.rd1 (σ.next+1) 2=some vF':=by rw [←hH];simp only [pwA,seval,-iQ0]
 have hor:H.obj (σ.next+2)=some [.int .i64 0,.int .i64 0,.fz true .nils 0 []]:=by rw [←hH];simp only [pwA,seval,-iQ0]
 obtain⟨w0,r0⟩:=res3 (a:=0) (b:=0) hor (v:=.fz true .nils 0 []) rfl;have no:∀e,mpRes p c F p' c' F'=((0,0,[]),e)→Gh σ K (.tup [.agg [.int .i64 0,.int .i64 0,.fz true .nils 0 []],.int .i64 e]) (H.set (σ.next+2) [.int .i64 0,.int .i64 0,.fz true .nils 0 []]):=fun e he=>hk.fin (hkp.set (by omega) _) nilM he
 refine zD mix Try.func11 ?_
 conv=>arg 2;cbv
 refine zG rfl ?_;simp only [pwA,seval,-iQ0,h1,h2];rw [hH];simp only [pwA,seval,-iQ0,g0];refine Qr sz hF fun t ht=>?_
 cases t with
 | false=>
  simp only [pwA,seval,-iQ0,w0,r0];exact no _ (by unfold mpRes;rw [if_neg fun h=>by cases ht.2 h.1])
 | true=>
 simp only [pwA,seval,-iQ0,g1];refine Qr sz' hF' fun t' ht'=>?_
 cases t' with
 | false=>
  simp only [pwA,seval,-iQ0,w0,r0];exact no _ (by unfold mpRes;rw [if_neg fun h=>by cases ht'.2 h.2])
 | true=>
 have hm:=ht.1 rfl;have hm':=ht'.1 rfl;have hlen:pLen vF'=some (.int .i64 F'.length):=by obtain⟨w,a,r,rfl,_⟩:=hF';rfl
 by_cases hpp:p=p'
 rotate_left
 ·simp only [pwA,seval,-iQ0,m0,m2,hpp,w0,r0]
  exact no _ (by unfold mpRes;rw [if_pos ⟨hm,hm'⟩,if_neg fun h=>hpp h.1])
 subst hpp
 by_cases hc:(F'.length:Int)=c
 rotate_left
 ·simp only [pwA,seval,-iQ0,m0,m1,m2,m3,hlen,hc,w0,r0]
  exact no _ (by unfold mpRes;rw [if_pos ⟨hm,hm'⟩,if_neg fun h=>hc h.2])
 obtain⟨n,rfl,hn,hp,hl,hA⟩:=mx_n hm;obtain⟨n',rfl,hn',_,hl',hB⟩:=mx_n hm';have hnn:n=F'.length:=by omega
 subst hnn;have hp0:=hp.bd;simp only [pwA,seval,-iQ0,m0,m1,m2,m3,m4,m9,hlen,g0,g1];refine zCP hp.bd hA hB hn' hl' hl hF0 hF0' fun v hv=>?_
 have hmm:=mm_ma (by omega) hA hB
 simp only [pwA,seval,-iQ0,m0,m1,m2,m3,m4,m9];refine zE0 hv ⟨by rw [qC];omega,fun r hr=>by rw [(hmm r hr).len];omega⟩ fun v hv=>?_
 obtain⟨w1,r1⟩:=res3 (a:=p) (b:=(n':Int)) hor hv.one;simp only [pwA,seval,-iQ0,w1,r1,hv.one,hv.cells];exact hk.fin (hkp.set (by omega) _) hv (by unfold mpRes;rw [if_pos ⟨hm,hm'⟩,if_pos ⟨rfl,rfl⟩];rfl)
theorem qo (hm:isMx p n F) (hF:FII vF F) (hk:∀v,FII v (trm n F)→K (.tup [.agg [.int .i64 p,.int .i64 F.length,v],.int .i64 0]) σ):zC Try.prog 13 [.agg [.int .i64 p,.int .i64 n,vF]] σ K:=by
 have h1:=hF.one;obtain⟨n',e,hn,hp,hl,hA⟩:=mx_n hm
 have:n'=n:=by omega
 subst this;have sz:SzL F:=⟨by omega,fun r hr=>by rw [(hA r hr).len];omega⟩
 refine zC.gh ?_;generalize hH:(σ.new [.int .i64 p,.int .i64 n',vF]).new [.int .i64 0,.int .i64 0,.fz true .nils 0 []]=H;have hkp:Keep σ H:=by rw [←hH];exact(zF σ _).new _
 have g0:H.rd σ.next 0 3=some [.int .i64 p,.int .i64 n',vF]:=by rw [←hH];simp only [pwA,seval,-iQ0]
 have hor:H.obj (σ.next+1)=some [.int .i64 0,.int .i64 0,.fz true .nils 0 []]:=by rw [←hH];simp only [pwA,seval,-iQ0]
 refine zD mix Try.func13 ?_
 conv=>arg 2;cbv
 refine zG rfl ?_;simp only [pwA,seval,-iQ0,h1];rw [hH];simp only [pwA,seval,-iQ0,g0];refine ZQ sz hF fun t ht=>?_
 obtain rfl:t=true:=ht.2 hm;simp only [pwA,seval,-iQ0,g0];refine zCF (fun r hr=>(hA r hr).len) (by omega) (by omega) hF fun v hv=>?_
 obtain⟨w1,r1⟩:=res3 (a:=p) (b:=(F.length:Int)) hor hv.one;simp only [pwA,seval,-iQ0,w1,r1,hv.one,hv.cells];exact Gh.fin0 (hkp.set (by omega) _) ⟨⟨trivial,trivial,hv.bel _,trivial⟩,trivial,trivial⟩ (hk v hv)
theorem zFM (hp:isP p) (hL:∀r∈A,El p n r) (hn:n≤64) (hll:A.length≤64) (hvL:FII vA A) (hk:∀z u,FII z u→Canon p n (W0 n) A u→K (.agg [.int .i64 p,.int .i64 n,z]) σ):zC Try.prog 69 [.int .i64 p,.int .i64 n,vA] σ K:=by
 refine zC.gh ?_;generalize hH:σ.new [.int .i64 0,.int .i64 0,.fz true .nils 0 []]=H;have hkp:Keep σ H:=by rw [←hH];exact zF σ _
 have hor:H.obj σ.next=some [.int .i64 0,.int .i64 0,.fz true .nils 0 []]:=by rw [←hH];simp only [pwA,seval,-iQ0]
 refine zD mix Try.func69 ?_
 conv=>arg 2;cbv
 refine zG rfl ?_;simp only [pwA,seval,-iQ0];rw [hH];simp only [pwA,seval,-iQ0];refine zCH hp hL hn hll hvL fun z u hz hu=>?_
 obtain⟨w1,r1⟩:=res3 (a:=p) (b:=(n:Int)) hor hz.one;simp only [pwA,seval,-iQ0,w1,r1,hz.one,hz.cells];exact Gh.fin0 (hkp.set (by omega) _) ⟨trivial,trivial,hz.bel _,trivial⟩ (hk z u hz hu)
theorem zEX (hp:isP p) (hL:∀r∈A,El p n r) (hn:n≤64) (hll:A.length≤64) (hvL:FII vA A) (hk:∀z u,FII z u→Canon p n (W0 n) A u→K (.agg [.int .i64 p,.int .i64 n,z]) σ):zC Try.prog 51 [.agg [.int .i64 p,.int .i64 n,vA]] σ K:=by
 have h1:=hvL.one;refine zC.gh ?_;generalize hH:(σ.new [.int .i64 p,.int .i64 n,vA]).new [.int .i64 0,.int .i64 0,.fz true .nils 0 []]=H;have hkp:Keep σ H:=by rw [←hH];exact(zF σ _).new _
 have m0:H.rd1 σ.next 0=some (.int .i64 p):=by rw [←hH];simp only [pwA,seval,-iQ0]
 have m1:H.rd1 σ.next 1=some (.int .i64 n):=by rw [←hH];simp only [pwA,seval,-iQ0]
 have m2:H.rd1 σ.next 2=some vA:=by rw [←hH];simp only [pwA,seval,-iQ0]
 have hor:H.obj (σ.next+1)=some [.int .i64 0,.int .i64 0,.fz true .nils 0 []]:=by rw [←hH];simp only [pwA,seval,-iQ0]
 refine zD mix Try.func51 ?_
 conv=>arg 2;cbv
 refine zG rfl ?_;simp only [pwA,seval,-iQ0,h1];rw [hH];simp only [pwA,seval,-iQ0,m0,m1,m2];refine zFM hp hL hn hll hvL fun z u hz hu=>?_
 obtain⟨w1,r1⟩:=res3 (a:=p) (b:=(n:Int)) hor hz.one;simp only [pwA,seval,-iQ0,w1,r1,hz.one,hz.cells];exact Gh.fin0 (hkp.set (by omega) _) ⟨trivial,trivial,hz.bel _,trivial⟩ (hk z u hz hu)
theorem Q8 (hm:isMx p n F) (hF:FII vF F) (hk:∀z u,FII z u→Canon p n (W0 n) F u→K (.tup [.agg [.int .i64 p,.int .i64 n,z],.int .i64 0]) σ):zC Try.prog 14 [.agg [.int .i64 p,.int .i64 n,vF]] σ K:=by
 have h1:=hF.one;obtain⟨n',e,hn,hp,hl,hA⟩:=mx_n hm
 have:n'=n:=by omega
 subst this;have sz:SzL F:=⟨by omega,fun r hr=>by rw [(hA r hr).len];omega⟩
 refine zC.gh ?_;generalize hH:(σ.new [.int .i64 p,.int .i64 n',vF]).new [.int .i64 0,.int .i64 0,.fz true .nils 0 []]=H;have hkp:Keep σ H:=by rw [←hH];exact(zF σ _).new _
 have g0:H.rd σ.next 0 3=some [.int .i64 p,.int .i64 n',vF]:=by rw [←hH];simp only [pwA,seval,-iQ0]
 have hor:H.obj (σ.next+1)=some [.int .i64 0,.int .i64 0,.fz true .nils 0 []]:=by rw [←hH];simp only [pwA,seval,-iQ0]
 refine zD mix Try.func14 ?_
 conv=>arg 2;cbv
 refine zG rfl ?_;simp only [pwA,seval,-iQ0,h1];rw [hH];simp only [pwA,seval,-iQ0,g0];refine ZQ sz hF fun t ht=>?_
 obtain rfl:t=true:=ht.2 hm;simp only [pwA,seval,-iQ0,g0];refine zEX hp (ma_el hA) (by omega) (by omega) hF fun v u hv hu=>?_
 obtain⟨w1,r1⟩:=res3 (a:=p) (b:=(n':Int)) hor hv.one;simp only [pwA,seval,-iQ0,w1,r1,hv.one,hv.cells];exact Gh.fin0 (hkp.set (by omega) _) ⟨⟨trivial,trivial,hv.bel _,trivial⟩,trivial,trivial⟩ (hk v u hv hu)
end Go.Proofs
namespace Go.Grp
end Go.Grp
namespace Go.Proofs
open Go.Ab Go.Lie Go.Grp Go.Mx
variable {σ σ0 h h' h2:PHeap} {K:PV→PHeap→Prop} {p c:Int} {n m s b:Nat} {x y bs:List Int} {A B:List (List Int)} {v v' vC:PV} {kids:List TR}
def RowT (t:TR) (x:List Int):Prop:=(∃s cap,t=TR.row s cap x)∨∃v,t=.leaf v∧FI v x
theorem zw:∀ts:List TR,TR.pvs ts=ts.map TR.pv
 | []=>rfl
 | t::ts=>by simp only [TR.pvs,List.map_cons,zw ts]
theorem zh {s:Nat}:∀{ts:List TR},s∈TR.slotss ts↔∃t∈ts,s∈t.slots
 | []=>by simp [TR.slotss]
 | t::ts=>by simp only [TR.slotss,List.mem_append,zh (ts:=ts),List.mem_cons,exists_eq_or_imp]
theorem z8:∀{ts:List TR},TR.okFs h b ts↔∀t∈ts,TR.okF h b t
 | []=>by simp [TR.okFs]
 | t::ts=>by simp [TR.okFs,z8 (ts:=ts)]
theorem zi {cap:Cap}:(TR.row s cap x).okF h b↔full 1 cap x.length∧h.obj s=some (pis x)∧b≤s∧s<h.next:=by
 simp only [TR.row,TR.okF,List.length_map,TR.ints_pvs];exact⟨fun g=>g.1,fun g=>⟨g,zAq x⟩⟩
theorem RowT.move {t:TR} (r:RowT t x) (a:t.okF h b) (hn:h.next≤h'.next) (ho:∀s∈t.slots,h'.obj s=h.obj s):t.okF h' b:=by
 rcases r with ⟨s,cap,rfl⟩|⟨v,rfl,hv⟩
 ·rw [zi]at a ⊢
  obtain⟨a1,a2,a3,a4⟩:=a;exact⟨a1,by rw [ho s (by rw [TR.row_slots];simp)];exact a2,a3,by omega⟩
 ·exact hv.bel 0
theorem RowT.slot {t:TR} (r:RowT t x) (a:t.okF h b):∀s∈t.slots,b≤s∧s<h.next:=fun s hs=>by
 rcases r with ⟨s',cap,rfl⟩|⟨v,rfl,hv⟩
 ·rw [zi]at a
  rw [TR.row_slots,List.mem_singleton]at hs
  subst hs;exact a.2.2
 ·cases hs
theorem RowT.fz {t:TR} (r:RowT t x) (a:Nat→Nat):FI (t.fz a) x:=by
 rcases r with ⟨s,cap,rfl⟩|⟨v,rfl,hv⟩
 ·exact TR.row_FI
 ·exact hv
theorem RowT.one {t:TR} (r:RowT t x):t.pv.one=true∧t.pv.cells=[t.pv]∧plen t.pv=some x.length:=by
 rcases r with ⟨s,cap,rfl⟩|⟨v,rfl,hv⟩
 ·rw [TR.row_pv];exact⟨rfl,rfl,rfl⟩
 ·exact⟨hv.one,hv.cells,by obtain⟨w,a,rfl⟩:=hv;rfl⟩
theorem zBu {a:Nat→Nat}:∀ts:List TR,TR.fzs a ts=ts.map (TR.fz a)
 | []=>rfl
 | t::ts=>by simp only [TR.fzs,List.map_cons,zBu ts]
structure DR (b:Nat) (h:PHeap) (v:PV) (kids:List TR) (A:List (List Int)):Prop where
 row:All2 RowT kids A
 ok:TR.okFs h b kids
 nd:(TR.slotss kids).Nodup
 out:(kids=[]∧v=.fz true .nils 0 [])∨∃s0 cap,v=.sl s0 0 kids.length cap∧full 1 cap kids.length∧h.obj s0=some (TR.pvs kids)∧b≤s0∧s0<h.next∧s0∉TR.slotss kids
theorem DR.nil (b:Nat) (h:PHeap):DR b h (.fz true .nils 0 []) [] []:=⟨All2.nil _,trivial,List.nodup_nil,.inl ⟨rfl,rfl⟩⟩
theorem DR.len (a:DR b h v kids A):kids.length=A.length:=a.row.1
theorem DR.get (a:DR b h v kids A) {i:Nat} (hi:i<A.length):∃t,kids[i]? = some t∧RowT t A[i]∧t.okF h b:=by
 have hl:=a.len;refine⟨kids[i]'(by omega),List.getElem?_eq_getElem (by omega),a.row.2 i _ _ (List.getElem?_eq_getElem (by omega)) (List.getElem?_eq_getElem hi),z8.1 a.ok _ (List.getElem_mem _)⟩
theorem DR.slot (a:DR b h v kids A):∀s∈TR.slotss kids,b≤s∧s<h.next:=fun s hs=>by
 obtain⟨t,ht,hs⟩:=zh.1 hs;obtain⟨i,hi,rfl⟩:=List.mem_iff_getElem.1 ht;obtain⟨t',h1,h2,h3⟩:=a.get (i:=i) (by rw [←a.len];exact hi)
 rw [List.getElem?_eq_getElem hi]at h1
 cases h1;exact h2.slot h3 s hs
theorem DR.oks (a:DR b h v kids A) (hn:h.next≤h'.next) (ho:∀s∈TR.slotss kids,h'.obj s=h.obj s):TR.okFs h' b kids:=z8.2 fun t ht=>by
 obtain⟨i,hi,rfl⟩:=List.mem_iff_getElem.1 ht;obtain⟨t',h1,h2,h3⟩:=a.get (i:=i) (by rw [←a.len];exact hi)
 rw [List.getElem?_eq_getElem hi]at h1
 cases h1;exact h2.move h3 hn fun s hs=>ho s (zh.2 ⟨_,ht,hs⟩)
theorem DR.move (a:DR b h v kids A) (hn:h.next≤h'.next) (ho:∀s,b≤s→s<h.next→h'.obj s=h.obj s):DR b h' v kids A:=by
 refine⟨a.row,a.oks hn fun s hs=>ho s (a.slot s hs).1 (a.slot s hs).2,a.nd,?_⟩
 rcases a.out with e|⟨s0,cap,h1,h2,h3,h4,h5,h6⟩
 ·exact .inl e
 ·exact .inr ⟨s0,cap,h1,h2,by rw [ho s0 h4 h5];exact h3,h4,by omega,h6⟩
theorem DR.keep (a:DR b h v kids A) (k:Keep h h'):DR b h' v kids A:=a.move k.next fun s _ hs=>k.obj s hs
theorem DR.mv (a:DR b h v kids A) (hs:s<b) (k:Mv h s h'):DR b h' v kids A:=a.move (by rw [k.next];exact Nat.le_refl _) fun t ht _=>k.obj (by omega)
theorem DR.km (a:DR b h v kids A) (hs:s<b) (k:KM h s h'):DR b h' v kids A:=a.move k.next fun t ht h1=>k.obj h1 (by omega)
theorem DR.one (a:DR b h v kids A):v.one=true∧v.cells=[v]∧pLen v=some (.int .i64 A.length):=by
 rw [←a.len];rcases a.out with ⟨rfl,rfl⟩|⟨s0,cap,rfl,_⟩<;>exact⟨rfl,rfl,rfl⟩
theorem DR.acc (a:DR b h v kids A):PAcc b 1 h v kids.length (TR.pvs kids):=by
 rcases a.out with ⟨rfl,rfl⟩|⟨s0,cap,rfl,h2,h3,h4,h5,h6⟩
 ·exact PAcc.nil _ _ _
 ·exact .inr ⟨s0,cap,rfl,h2,h3,by rw [zw];simp,h4,h5⟩
theorem zEd (a b:List TR):TR.pvs (a++b)=TR.pvs a++TR.pvs b:=by rw [zw,zw,zw,List.map_append]
theorem Zd:∀a b:List TR,TR.slotss (a++b)=TR.slotss a++TR.slotss b
 | [],b=>rfl
 | t::a,b=>by simp only [List.cons_append,TR.slotss,Zd a b,List.append_assoc]
theorem DR.fresh (a:DR b h v kids A) {s:Nat} (hs:h.next≤s):s∉TR.slotss kids∧∀off l c,v≠.sl s off l c:=by
 refine⟨fun hm=>by have:=(a.slot s hm).2;omega,fun off l c e=>?_⟩
 rcases a.out with ⟨_,rfl⟩|⟨s0,cap,rfl,h2,h3,h4,h5,h6⟩
 ·cases e
 ·simp only [PV.sl.injEq]at e
  omega
theorem DR.below (a:DR b h v kids A) {s:Nat} (hs:s<b):∀off l c,v≠.sl s off l c:=fun off l c e=>by
 rcases a.out with ⟨_,rfl⟩|⟨s0,cap,rfl,h2,h3,h4,h5,h6⟩
 ·cases e
 ·simp only [PV.sl.injEq]at e
  omega
theorem DR.push {σb:PHeap} {Kp:PV×PHeap→Prop} {t:TR} (a:DR b h v kids A) (hk:Keep σb h) (hb1:σb.next≤b) (hb2:b≤h.next) (r:RowT t x) (ht:t.okF h b) (hf:∀s∈t.slots,s∉TR.slotss kids∧∀off l c,v≠.sl s off l c) (hb:A.length≤1000)
  (k:∀v' h2,DR b h2 v' (kids++[t]) (A++[x])→Keep σb h2→(∀s,s<h.next→(∀off l c,v≠.sl s off l c)→h2.obj s=h.obj s)→(∀s,s<h.next→∀off l c,v'≠.sl s off l c)→h.next<h2.next→Kp (v',h2)):optK (zq 1 24 (h.new [t.pv]) v (.sl h.next 0 1 (.known 1))) Kp:=by
 have hl:=a.len;refine PAcc.pushS (σb:=σb) (bytes:=24) hk (a.acc.low hb1) rfl (by omega) (by omega) fun v' h2 k2 a2 o2 n2 l2=>?_
 have vne:∀s∈TR.slotss kids++t.slots,∀off l c,v≠.sl s off l c:=fun s hs off l c e=>by
  rcases List.mem_append.1 hs with hs|hs
  ·rcases a.out with ⟨_,rfl⟩ | ⟨s0,cap,rfl,h2,h3,h4,h5,h6⟩
   ·cases e
   ·simp only [PV.sl.injEq]at e
    exact h6 (e.1 ▸ hs)
  ·exact(hf s hs).2 off l c e
 have hslt:∀s∈TR.slotss kids++t.slots,s<h.next:=fun s hs=>by
  rcases List.mem_append.1 hs with hs|hs
  ·exact(a.slot s hs).2
  ·exact(r.slot ht s hs).2
 have hsl:TR.slotss (kids++[t])=TR.slotss kids++t.slots:=by rw [Zd];simp [TR.slotss]
 refine k v' h2 ⟨a.row.snoc r,z8.2 fun u hu=>?_,?_,.inr ?_⟩ k2 o2 n2 l2
 ·rcases List.mem_append.1 hu with hu | hu
  ·exact z8.1 (a.oks (h':=h2) (by omega) fun s hs=>o2 s (hslt s (List.mem_append_left _ hs)) (vne s (List.mem_append_left _ hs))) u hu
  ·rw [List.mem_singleton.1 hu]
   exact r.move ht (by omega) fun s hs=>o2 s (hslt s (List.mem_append_right _ hs)) (vne s (List.mem_append_right _ hs))
 ·rw [hsl,List.nodup_append]
  refine⟨a.nd,?_,fun s hs s' hs' e=>(hf s' hs').1 (e ▸ hs)⟩
  rcases r with ⟨s,cap,rfl⟩|⟨v,rfl,hv⟩
  ·rw [TR.row_slots];simp
  ·exact List.nodup_nil
 ·obtain⟨s0,cap,rfl,q1,q2,q3,q4,q5⟩:=a2
  refine⟨s0,cap,by rw [List.length_append];rfl,by rw [List.length_append];exact q1,by rw [q2,zEd];rfl,?_,q5,fun hs=>?_⟩
  ·rcases Nat.lt_or_ge s0 h.next with g | g
   ·exact absurd rfl (n2 s0 g 0 _ cap)
   ·omega
  rw [hsl]at hs
  exact n2 s0 (hslt s0 hs) 0 _ cap rfl
theorem DR.put {t:TR} (a:DR b h v kids A) {i:Nat} (hi:i<A.length) (r:RowT t y) (ht:t.okF h b) (hf:∀s∈t.slots,s∉TR.slotss kids) (hv:∀s∈t.slots,∀off l c,v≠.sl s off l c):
  ∃s0 cap h2,v=.sl s0 0 A.length cap∧h.wr s0 i [t.pv]=some h2∧DR b h2 v (kids.set i t) (A.set i y)∧h2.next=h.next∧∀s,s≠s0→h2.obj s=h.obj s:=by
 have hl:=a.len;have hik:i<kids.length:=by omega
 rcases a.out with ⟨rfl,_⟩|⟨s0,cap,rfl,h2,h3,h4,h5,h6⟩
 ·simp at hik
 have hne:∀s∈TR.slotss (kids.set i t),s∈TR.slotss kids∨s∈t.slots:=fun s hs=>by
  obtain⟨u,hu,hs⟩:=zh.1 hs;rcases List.mem_or_eq_of_mem_set hu with e|e
  ·exact .inl (zh.2 ⟨u,e,hs⟩)
  ·exact .inr (e ▸ hs)
 have hpv:TR.pvs (kids.set i t)=(TR.pvs kids).set i t.pv:=by rw [zw,zw,List.map_set]
 refine⟨s0,cap,h.set s0 ((TR.pvs kids).set i t.pv),by rw [hl],qc h3 (by rw [zw];simpa using hik) r.one.1,⟨?_,z8.2 fun u hu=>?_,?_,.inr ⟨s0,cap,by rw [List.length_set],by rw [List.length_set];exact h2,by rw [zI,if_pos rfl,hpv],h4,h5,fun hs=>?_⟩⟩,rfl,fun s hs=>by rw [zI,if_neg hs]⟩
 ·refine⟨by rw [List.length_set,List.length_set];exact a.row.1,fun j x y' hx hy=>?_⟩
  rw [List.getElem?_set]at hx hy
  by_cases e:i=j
  ·subst e
   rw [if_pos rfl,if_pos hik]at hx
   rw [if_pos rfl,if_pos hi]at hy
   cases hx;cases hy;exact r
  ·rw [if_neg e]at hx hy
   exact a.row.2 j x y' hx hy
 ·rcases List.mem_or_eq_of_mem_set hu with e | e
  ·exact z8.1 (a.oks (h':=h.set s0 ((TR.pvs kids).set i t.pv)) (Nat.le_refl _) fun s hs=>by rw [zI,if_neg fun e:s=s0=>h6 (e ▸ hs)]) u e
  ·rw [e]
   exact r.move ht (Nat.le_refl _) fun s hs=>by rw [zI,if_neg fun e:s=s0=>hv s hs 0 kids.length cap (by rw [e])]
 ·-- the other rows' slots stay apart
  have nd:=a.nd;clear hne hpv hv h6 h3 h2 h5 a
  induction kids generalizing i A with
  | nil=>simp at hik
  | cons u us ih=>
   cases i with
   | zero=>
    simp only [List.set_cons_zero,TR.slotss]at nd ⊢
    rw [List.nodup_append]at nd ⊢
    refine⟨?_,nd.2.1,fun s hs s' hs' e=>hf s hs (by rw [TR.slotss,List.mem_append];exact .inr (e ▸ hs'))⟩
    rcases r with ⟨s,cap,rfl⟩|⟨v,rfl,hv⟩
    ·rw [TR.row_slots];simp
    ·exact List.nodup_nil
   | succ i=>
    simp only [List.set_cons_succ,TR.slotss]at nd ⊢
    rw [List.nodup_append]at nd ⊢
    have hsub:∀s∈t.slots,s∉TR.slotss us:=fun s hs hm=>hf s hs (by rw [TR.slotss,List.mem_append];exact .inr hm)
    refine⟨nd.1,ih (i:=i) (A:=A.tail) (by simp at hi ⊢;omega) hsub (by simp at hl ⊢;omega) (by simp at hik;omega) nd.2.1,fun s hs s' hs' e=>?_⟩
    obtain⟨w,hw,hs'⟩:=zh.1 hs';rcases List.mem_or_eq_of_mem_set hw with e2|e2
    ·exact nd.2.2 s hs s' (zh.2 ⟨w,e2,hs'⟩) e
    ·rw [e2]at hs'
     exact hf s' hs' (by rw [TR.slotss,List.mem_append];exact .inl (e ▸ hs))
 ·rcases hne s0 hs with e | e
  ·exact h6 e
  ·exact hv s0 e 0 kids.length cap rfl
theorem DR.fin (a:DR b h v kids A) (hk:Keep σ h) (hb:σ.next≤b) (k:∀z,FII z A→K (.agg [.int .i64 p,.int .i64 c,z]) σ):Gh σ K (.agg [.int .i64 p,.int .i64 c,v]) h:=by
 have hl:=a.len;have a2:∀aa,All2 FI (TR.fzs aa kids) A:=fun aa=>⟨by rw [TR.fzs_length];exact hl,fun j x y hx hy=>by
  rw [zBu,List.getElem?_map]at hx
  obtain⟨t,ht,rfl⟩:=Option.map_eq_some_iff.1 hx;exact(a.row.2 j t y ht hy).fz aa⟩
 have low:TR.okFs h σ.next kids:=z8.2 fun t ht=>by
  obtain⟨i,hi,rfl⟩:=List.mem_iff_getElem.1 ht;obtain⟨t',h1,h2,h3⟩:=a.get (i:=i) (by rw [←a.len];exact hi)
  rw [List.getElem?_eq_getElem hi]at h1
  cases h1;rcases h2 with ⟨s,cap,e⟩|⟨v,e,hv⟩
  ·rw [e,zi]at h3
   rw [e,zi];exact⟨h3.1,h3.2.1,by omega,h3.2.2.2⟩
  ·rw [e];exact hv.bel 0
 rcases a.out with ⟨rfl,rfl⟩|⟨s0,cap,rfl,h2,h3,h4,h5,h6⟩
 ·have:A=[]:=List.eq_nil_of_length_eq_zero (by rw [←hl];rfl)
  subst this;exact Gh.fin0 hk ⟨trivial,trivial,trivial,trivial⟩ (k _ ⟨true,.nils,[],rfl,All2.nil _⟩)
 ·have et:(TR.agg [.leaf (.int .i64 p),.leaf (.int .i64 c),.lst s0 cap kids]).pv=.agg [.int .i64 p,.int .i64 c,.sl s0 0 kids.length cap]:=rfl
  rw [←et];exact Gh.treeF hk ⟨trivial,trivial,⟨⟨h2,h3,by omega,h5⟩,low⟩,trivial⟩ fun aa=>k _ ⟨true,.sl (aa s0) 0 kids.length cap,TR.fzs aa kids,by rw [←hl];rfl,a2 aa⟩
end Go.Proofs
namespace Go.Grp
end Go.Grp
namespace Go.Proofs
open Go.Ab Go.Lie Go.Grp Go.Mx
variable {σ σ0 h h' h2:PHeap} {K:PV→PHeap→Prop} {p c:Int} {n m s t b:Nat} {x y v w bs xs:List Int} {A B:List (List Int)} {vC:PV} {kids:List TR}
theorem So.back {σ':PHeap} (q:Keep σ' h) (so:So h s vC bs) (hs:s<σ'.next):So σ' s vC bs:=by
 obtain⟨a,sd,S⟩:=so;exact⟨a,sd,by rw [←q.obj s hs];exact S.obj,hs,S.fb,S.byt,S.le,S.sd⟩
theorem KM.so (km:KM σ s h) (so:So h s vC bs) (hs:s<σ.next):∃σ',Mv σ s σ'∧So σ' s vC bs∧Keep σ' h∧σ'.next=σ.next:=by
 obtain⟨σ',m,q⟩:=km;exact⟨σ',m,so.back q (by rw [m.next];exact hs),q,m.next⟩
theorem PSl.mv {e n:Nat} {v:PV} {cs:List PV} (a:PSl b e h v n cs) (hs:s<b) (m:Mv h s h'):PSl b e h' v n cs:=by
 obtain⟨t,cap,rfl,h1,h2,h3,h4,h5⟩:=a;exact⟨t,cap,rfl,h1,by rw [m.obj (by omega)];exact h2,h3,h4,by rw [m.next];exact h5⟩
theorem ZE {cap:Cap} (so:So σ s vC bs) (hst:s≠t) (ho:σ.obj t=some (pis xs)) (hn:0<xs.length∧xs.length≤1000) (hk:∀x h,x∈xs→Mv σ s h→So h s vC bs→K (.int .i64 x) h):zC Try.prog 85 [.ptr s 0,.sl t 0 xs.length cap] σ K:=by
 refine zD mix Try.func85 ?_
 conv=>arg 2;cbv
 refine zG rfl ?_;simp only [pwA,seval,-iQ0];refine zt so (by omega) fun x h hx m so1=>?_
 obtain⟨i,rfl⟩:∃i:Nat,x=(i:Int):=⟨x.toNat,by have:=hx.1;omega⟩
 have hlt:i<xs.length:=by have:=hx.lt (by omega);omega
 have r1:h.rd1 t i=some (.int .i64 xs[i]):=by rw [zL (by rw [m.obj (Ne.symm hst)];exact ho),zo,gi hlt];rfl
 simp only [pwA,seval,-iQ0,hlt,r1];exact hk _ h (List.getElem_mem hlt) m so1
theorem zBs (so:So σ s vC bs) (hk:∀p h,isP p→KM σ s h→So h s vC bs→K (.int .i64 p) h):zC Try.prog 84 [.ptr s 0] σ K:=by
 have hs:=so.lt;refine zD mix Try.func84 ?_
 conv=>arg 2;cbv
 refine zG rfl ?_;simp only [pwA,seval,-iQ0];refine ZE (xs:=[2,2,3,3,5,7]) (so.keep (zF _ _)) (by omega) (by rw [zK,if_pos rfl];rfl) (by decide) fun x h hx m so1=>?_
 simp only [pwA,seval,-iQ0];exact hk x h (by unfold isP;simp at hx;omega) ((so.kmK (zF _ _)).mv hs m) so1
theorem zHb {i:Nat} (hx:Ve p i x) {a:Int} (ha:0≤a∧a<p):Ve p (i+1) (x++[a]):=⟨by rw [List.length_append,hx.len];rfl,fun j=>by
 rw [zIi]
 split
 ·exact hx.bd j
 ·by_cases h:j-x.length=0
  ·rw [h];exact ha
  ·rw [at_ge (by simp;omega)];omega⟩
theorem zBN (so:So σ s vC bs) (hp:1≤p∧p≤1000) (hn:n≤1000) (hk:∀t cap x h,KM σ s h→So h s vC bs→σ.next≤t→t<h.next→h.obj t=some (pis x)→full 1 cap n→Ve p n x→K (.sl t 0 n cap) h):zC Try.prog 75 [.ptr s 0,.int .i64 p,.int .i64 n] σ K:=by
 have hs:=so.lt;refine zD mix Try.func75 ?_
 conv=>arg 2;cbv
 refine zG rfl ?_;simp only [pwA,seval,-iQ0];refine zO (fun k us h=>∃(i:Nat) (vR:PV) (x:List Int),i≤n∧k=n-i∧us=[.ptr s 0,.int .i64 p,.int .i64 n,vR,.int .i64 i]∧KM σ s h∧So h s vC bs∧PSl σ.next 1 h vR i (pis x)∧Ve p i x) n ?_ ?_
 ·exact⟨0,_,[],by omega,by omega,rfl,so.kmK (zF _ _),so.keep (zF _ _),PSl.new _ 1 rfl (Nat.le_refl _),⟨rfl,fun j=>by rw [at_ge (by simp)];omega⟩⟩
 rintro k us h ⟨i,vR,x,hi,rfl,rfl,km,so1,ps,hx⟩
 simp only [pwA,seval,-iQ0];refine iteI (fun hlt=>?_) fun hge=>?_
 rotate_left
 ·have hie:i=n:=by omega
  subst hie;obtain⟨t,cap,rfl,h1,h2,h3,h4,h5⟩:=ps;exact hk t cap x h km so1 h4 h5 h2 h1 hx
 refine zt so1 (by omega) fun a h1 ha m1 so2=>?_
 obtain⟨σ',m,so3,q,hn'⟩:=(km.mv hs m1).so so2 hs;simp only [pwA,seval,-iQ0];refine PSl.push (σb:=σ') (bytes:=8) q (by rw [hn'];exact PSl.mv ps hs m1) (by omega) (by omega) fun v' h3 k3 a3=>?_
 simp only [pwA,seval,-iQ0,wrapS hlt (by omega:n≤4611686018427387904)]
 refine⟨_,by omega,i+1,v',x++[a],by omega,rfl,rfl,⟨σ',m,k3⟩,so3.keep k3,?_,zHb hx ⟨ha.1,ha.lt hp.1⟩⟩
 rw [hn',show [PV.int .i64 a]=pis [a] from rfl,zBG]at a3
 exact a3
theorem zB9 {cap:Cap} (ho:σ.obj s=some (pis xs)) (hs:s<σ.next) (hb:xs.length≤1048576) (hk:∀cap,full 1 cap xs.length→K (.sl σ.next 0 xs.length cap) (σ.new (pis xs))):zC Try.prog 86 [.sl s 0 xs.length cap] σ K:=by
 refine zC.gh ?_;have hne:¬s=σ.next:=Nat.ne_of_lt hs;refine zD mix Try.func86 ?_
 conv=>arg 2;cbv
 refine zG rfl ?_;simp only [pwA,seval,-iQ0];refine PSl.app (b:=0) (news:=pis xs) (m:=xs.length) (zF σ _) (Nat.zero_le _) (PSl.new _ 1 rfl (Nat.le_refl _)) rfl (fun h0=>?_) (by rw [zU,Nat.mul_one]) (by omega) (by omega) fun v' h' k1 k2=>?_
 ·rw [Z4]
  simp only [h0,if_false,Nat.le_refl,if_true,Nat.mul_one,zAF,hne];rw [zx ho,if_pos (by rw [zU];omega),List.drop_zero,List.take_of_length_le (by rw [zU];exact Nat.le_refl _)]
 ·simp only [pwA,seval,-iQ0]at k2 ⊢
  exact k2.out k1 (qE _ _) hk
theorem zD1 {cap:Cap} (hp:2≤p∧p≤7) (hc:-7≤c∧c≤7) (hx:Ve p n x) (hn:n≤1000) (ho:σ.obj s=some (pis x)) (hs:s<σ.next) (hk:∀cap,full 1 cap n→K (.sl σ.next 0 n cap) (σ.new (pis (scl p c x)))):zC Try.prog 87 [.int .i64 p,.int .i64 c,.sl s 0 n cap] σ K:=by
 have hxl:=hx.len;have hsl:(scl p c x).length=n:=by rw [qJ];exact hxl
 refine zC.gh ?_;refine zD mix Try.func87 ?_
 conv=>arg 2;cbv
 refine zG rfl ?_;simp only [pwA,seval,-iQ0,List.length_replicate,QM,mk8 (n:=n) (by omega),mkL (n:=n) (by omega)]
 -- the sum with zeros
 refine zD mix Try.func95 ?_
 conv=>arg 2;cbv
 refine zG rfl ?_;simp only [pwA,seval,-iQ0];have hz:(σ.new (pis (List.replicate n 0))).obj σ.next=some (pis (List.replicate n 0)):=by rw [zK,if_pos rfl]
 have e0:(List.replicate n (0:Int)).length=n:=by simp
 have own:=fun(K':PV→PHeap→Prop) (k':∀cap,full 1 cap n→K' (.sl (σ.next+1) 0 n cap) ((σ.new (pis (List.replicate n 0))).new (pis (List.replicate n 0))))=>by
  have:=zB9 (K:=K') (cap:=.known n) hz (by show σ.next<σ.next+1;omega) (by rw [e0];omega) (by rw [e0];exact k')
  rwa [e0]at this
 refine own _ fun cap2 hcap2=>?_
 have ho2:((σ.new (pis (List.replicate n 0))).new (pis (List.replicate n 0))).obj s=some (pis x):=by rw [zK,if_neg (by show ¬s=σ.next+1;omega),zK,if_neg (by omega)];exact ho
 generalize hH:σ.new (pis (List.replicate n 0))=H at *
 have hHn:H.next=σ.next+1:=by rw [←hH];rfl
 have hHk:Keep σ H:=by rw [←hH];exact zF σ _
 have hvs:(List.replicate n (0:Int)).length=(scl p c x).length:=by rw [hsl,e0]
 simp only [pwA,seval,-iQ0];refine zO (fun k us h'=>∃i:Nat,i≤n∧k=n-i∧us=[.int .i64 p,.int .i64 c,.sl s 0 n cap,.sl (σ.next+1) 0 n cap2,.int .i64 i]∧h'=H.new (pis ((scl p c x).take i++(List.replicate n 0).drop i))) n ?_ ?_
 ·exact⟨0,by omega,by omega,rfl,by rw [List.take_zero,List.drop_zero,List.nil_append]⟩
 rintro k us h' ⟨i,hi,rfl,rfl,rfl⟩
 by_cases hlt:i<n
 rotate_left
 ·have hie:i=n:=by omega
  subst hie;simp only [pwA,seval,-iQ0,Nat.lt_irrefl];rw [List.drop_of_length_le (by rw [e0];exact Nat.le_refl _),List.append_nil,List.take_of_length_le (by omega)]
  rw [←hHn];exact(PSl.own (b:=σ.next) (e:=1) hcap2 (by rw [zK,if_pos rfl]) (by rw [zU,hsl];omega) (by omega) (Nat.lt_succ_self _)).out (hHk.new _) (qE _ _) hk
 have hlx:i<x.length:=by omega
 have hl0:i<(List.replicate n (0:Int)).length:=by rw [e0];exact hlt
 have hlen:i+1≤((scl p c x).take i++(List.replicate n 0).drop i).length:=by simp;omega
 have e1:=zAC hvs.symm hl0;rw [List.getElem_replicate]at e1
 have hxb:=hx.bd i;rw [at_eq hlx]at hxb
 have hb:=sm7 (a:=c) (b:=x[i]) hc (by omega)
 have ew1:IntKind.i64.wrap (c*x[i])=c*x[i]:=wrap64 (by omega) (by omega)
 have ew2:IntKind.i64.wrap (0+c*x[i])=c*x[i]:=by rw [Int.zero_add];exact ew1
 have r1:(H.new (pis ((scl p c x).take i++(List.replicate n 0).drop i))).rd1 s i=some (.int .i64 x[i]):=by
  rw [zL (cs:=pis x) (by rw [zK,if_neg (by omega)];rw [zK,if_neg (by omega)]at ho2;exact ho2),zo,gi hlx];rfl
 have r2:(H.new (pis ((scl p c x).take i++(List.replicate n 0).drop i))).rd1 (σ.next+1) i=some (.int .i64 0):=by
  rw [zL (cs:=pis ((scl p c x).take i++(List.replicate n 0).drop i)) (by rw [zK,if_pos hHn.symm]),zo,e1];rfl
 have hw:(H.new (pis ((scl p c x).take i++(List.replicate n 0).drop i))).wr (σ.next+1) i [.int .i64 (c*x[i] % p)]=some (H.new (pis ((scl p c x).take (i+1)++(List.replicate n 0).drop (i+1)))):=by
  have hiv:i<(scl p c x).length:=by omega
  rw [qc (cs:=pis ((scl p c x).take i++(List.replicate n 0).drop i)) (by rw [zK,if_pos hHn.symm]) (by rw [zU];omega) rfl,zBp,←hHn,zFN]
  congr 2
  rw [←QL hvs.symm hiv]
  congr 1
  simp [scl,Int.mul_comm]
 generalize H.new (pis ((scl p c x).take i++(List.replicate n 0).drop i))=H1 at *
 simp only [pwA,seval,-iQ0,hlt,r1,r2,ew1,ew2];refine zCA (by omega) (by omega) ?_
 simp only [pwA,seval,-iQ0,hlt,hw,wrapS hlt (by omega:n≤4611686018427387904)]
 exact⟨_,by omega,i+1,by omega,rfl,rfl,rfl⟩
end Go.Proofs
namespace Go.Grp
end Go.Grp
namespace Go.Proofs
open Go.Ab Go.Lie Go.Grp Go.Mx
variable {σ σ0 h h' h2:PHeap} {K:PV→PHeap→Prop} {p c:Int} {n m s t b:Nat} {x y w bs xs:List Int} {A B:List (List Int)} {v vC:PV} {kids:List TR}
theorem Qq {α:Type} {o:Option α} {K K':α→Prop} (h:optK o K) (f:∀x,K x→K' x):optK o K':=by
 obtain⟨v,hv,k⟩:=h;exact⟨v,hv,f v k⟩
theorem KM.set' (k:KM σ s h) (so:So h s vC bs) {t:Nat} (ht:σ.next≤t) (hs:s<σ.next) (cs:List PV):KM σ s (h.set t cs)∧So (h.set t cs) s vC bs:=⟨k.set ht cs,so.set (by omega) cs⟩
theorem qz (so:So σ s vC bs) (hp:isP p) (hm:m≤8) (hn:n≤8) (hk:∀v kids A h,KM σ s h→So h s vC bs→DR σ.next h v kids A→A.length=m→Ma p n A→(∀t x,kids[0]? = some t→A[0]? = some x→∃s cap,t=TR.row s cap x)→K (.agg [.int .i64 p,.int .i64 n,v]) h):
  zC Try.prog 45 [.ptr s 0,.int .i64 p,.int .i64 m,.int .i64 n] σ K:=by
 have hs:=so.lt;have hpb:=hp.bd;generalize hT:(σ.new [.int .i64 0,.int .i64 0,.fz true .nils 0 []]).new [.int .i64 p,.int .i64 n,.fz true .nils 0 []]=T;have hTn:T.next=σ.next+2:=by rw [←hT];rfl
 have hkT:Keep σ T:=by rw [←hT];exact(zF σ _).new _
 have obT:T.obj (σ.next+1)=some [.int .i64 p,.int .i64 n,.fz true .nils 0 []]:=by rw [←hT];simp only [pwA,seval,-iQ0]
 have obR:T.obj σ.next=some [.int .i64 0,.int .i64 0,.fz true .nils 0 []]:=by rw [←hT];simp only [pwA,seval,-iQ0]
 refine zD mix Try.func45 ?_
 conv=>arg 2;cbv
 refine zG rfl ?_;simp only [pwA,seval,-iQ0];rw [hT];refine zO (fun k us h=>∃(i:Nat) (v:PV) (kids:List TR) (A:List (List Int)),i≤m∧k=m-i∧us=[.ptr s 0,.int .i64 p,.int .i64 m,.int .i64 n,.ptr σ.next 0,.ptr (σ.next+1) 0,.int .i64 i]∧(KM σ s h∧So h s vC bs∧h.obj (σ.next+1)=some [.int .i64 p,.int .i64 n,v]∧h.obj σ.next=some [.int .i64 0,.int .i64 0,.fz true .nils 0 []]∧T.next≤h.next)∧DR T.next h v kids A∧A.length=i∧Ma p n A∧(∀t x,kids[0]? = some t→A[0]? = some x→∃s cap,t=TR.row s cap x)) m ?_ ?_
 ·exact⟨0,_,[],[],by omega,by omega,rfl,⟨so.kmK hkT,so.keep hkT,obT,obR,Nat.le_refl _⟩,DR.nil _ _,rfl,fun r hr=>(by cases hr),fun t x h=>(by cases h)⟩
 rintro k us h ⟨i,v,kids,A,hi,rfl,rfl,⟨km,so1,ob1,ob0,hTh⟩,dr,hAl,hA,h00⟩
 have hkl:=dr.len;simp only [pwA,seval,-iQ0];refine iteI (fun hlt=>?_) fun hge=>?_
 rotate_left
 ·have hie:i=m:=by omega
  subst hie;have r3:h.rd (σ.next+1) 0 3=some [.int .i64 p,.int .i64 n,v]:=by rw [zx ob1];rfl
  obtain⟨w1,r1⟩:=res3 (a:=p) (b:=(n:Int)) ob0 dr.one.1;simp only [pwA,seval,-iQ0,r3,w1,r1]
  have:=KM.set' km so1 (t:=σ.next) (Nat.le_refl _) hs [.int .i64 p,.int .i64 n,v]
  have dr2:DR T.next (h.set σ.next [.int .i64 p,.int .i64 n,v]) v kids A:=dr.move (Nat.le_refl _) fun t ht _=>by rw [zI,if_neg (by omega)]
  refine hk v kids A _ this.1 this.2 ⟨dr2.row,z8.2 fun t ht=>?_,dr2.nd,?_⟩ hAl hA h00
  ·obtain⟨j,hj,rfl⟩:=List.mem_iff_getElem.1 ht
   obtain⟨t',g1,g2,g3⟩:=dr2.get (i:=j) (by rw [←dr2.len];exact hj)
   rw [List.getElem?_eq_getElem hj]at g1
   cases g1;rcases g2 with ⟨s',cap',e⟩|⟨v',e,hv⟩
   ·rw [e,zi]at g3
    rw [e,zi];exact⟨g3.1,g3.2.1,by have:=g3.2.2.1;omega,g3.2.2.2⟩
   ·rw [e];exact hv.bel 0
  ·rcases dr2.out with e | ⟨s0,cap,q1,q2,q3,q4,q5,q6⟩
   ·exact .inl e
   ·exact .inr ⟨s0,cap,q1,q2,q3,by omega,q5,q6⟩
 have wi1:=wrapS hlt (by omega:m≤4611686018427387904)
 -- what follows once the row stands
 have rest:∀{h1:PHeap} {u:TR} {x:List Int} {vX:PV},u.pv=vX→KM σ s h1→So h1 s vC bs→h1.obj (σ.next+1)=some [.int .i64 p,.int .i64 n,v]→h1.obj σ.next=some [.int .i64 0,.int .i64 0,.fz true .nils 0 []]→T.next≤h1.next→DR T.next h1 v kids A→RowT u x→u.okF h1 T.next→(∀s∈u.slots,s∉TR.slotss kids∧∀off l c,v≠.sl s off l c)→Ve p n x→(i=0→∃s cap,u=TR.row s cap x)→
   optK (zq 1 24 (h1.new [vX]) v (.sl h1.next 0 1 (.known 1))) fun pr=>∃(h3:PHeap) (kids:List TR) (A:List (List Int)),pr.2.wr (σ.next+1) 2 [pr.1]=some h3∧pr.1.cells=[pr.1]∧(KM σ s h3∧So h3 s vC bs∧h3.obj (σ.next+1)=some [.int .i64 p,.int .i64 n,pr.1]∧h3.obj σ.next=some [.int .i64 0,.int .i64 0,.fz true .nils 0 []]∧T.next≤h3.next)∧DR T.next h3 pr.1 kids A∧A.length=i+1∧Ma p n A∧(∀t x,kids[0]? = some t→A[0]? = some x→∃s cap,t=TR.row s cap x):=by
  intro h1 u x vX e km1 so1 ob1 ob0 hTh dr ru hu hf hx h0;subst e;obtain⟨σ',m',so',q,hn'⟩:=km1.so so1 hs;refine DR.push (σb:=σ') dr q (by omega) hTh ru hu hf (by omega) fun v' h2 d2 k2 o2 n2 l2=>?_
  have hv1:∀off l c,v≠.sl (σ.next+1) off l c:=dr.below (by omega)
  have hv0:∀off l c,v≠.sl σ.next off l c:=dr.below (by omega)
  have ob2:h2.obj (σ.next+1)=some [.int .i64 p,.int .i64 n,v]:=by rw [o2 _ (by omega) hv1];exact ob1
  have ob3:h2.obj σ.next=some [.int .i64 0,.int .i64 0,.fz true .nils 0 []]:=by rw [o2 _ (by omega) hv0];exact ob0
  have hw:h2.wr (σ.next+1) 2 [v']=some (h2.set (σ.next+1) [.int .i64 p,.int .i64 n,v']):=by
   have:=qc (i:=2) (v:=v') ob2 (by simp) d2.one.1
   simpa using this
  have k3:=KM.set' ⟨σ',m',k2⟩ (so'.keep k2) (t:=σ.next+1) (by omega) hs [.int .i64 p,.int .i64 n,v']
  refine⟨_,kids++[u],A++[x],hw,d2.one.2.1,⟨k3.1,k3.2,by rw [zI,if_pos rfl],by rw [zI,if_neg (by omega)];exact ob3,by show T.next≤h2.next;omega⟩,d2.move (Nat.le_refl _) fun t ht _=>by rw [zI,if_neg (by omega)],by rw [List.length_append,hAl];rfl,fun r hr=>?_,fun t y ht hy=>?_⟩
  ·rcases List.mem_append.1 hr with hr | hr
   ·exact hA r hr
   ·rw [List.mem_singleton.1 hr];exact hx
  ·by_cases hi0:i=0
   ·have hA0:A=[]:=List.eq_nil_of_length_eq_zero (by omega)
    have hk0:kids=[]:=List.eq_nil_of_length_eq_zero (by omega)
    subst hA0 hk0;simp at ht hy
    rw [←ht,←hy];exact h0 hi0
   ·rw [List.getElem?_append_left (by omega)]at ht hy
    exact h00 t y ht hy
 refine zBN so1 (by omega) (by omega) fun t cap x h1 km1 so2 ht1 ht2 ho hf hx=>?_
 have hxl:=hx.len;have km2:=km.trans hs km1;have keep1:∀u,T.next≤u∨u=σ.next∨u=σ.next+1→u<h.next→h1.obj u=h.obj u:=fun u hu hl=>km1.obj hl (by omega)
 have ob1':h1.obj (σ.next+1)=some [.int .i64 p,.int .i64 n,v]:=by rw [keep1 _ (by omega) (by omega)];exact ob1
 have ob0':h1.obj σ.next=some [.int .i64 0,.int .i64 0,.fz true .nils 0 []]:=by rw [keep1 _ (by omega) (by omega)];exact ob0
 have hn1:=km1.next;have dr1:DR T.next h1 v kids A:=dr.km (by omega) km1
 have fr:=dr.fresh ht1;simp only [pwA,seval,-iQ0]
 by_cases hi0:i=0
 ·have hi0':¬(0:Int)<(i:Int):=by omega
  have r2:h1.rd1 (σ.next+1) 2=some v:=by rw [zL ob1'];rfl
  have hne:¬σ.next+1=h1.next:=by omega
  simp only [pwA,seval,-iQ0,hi0',r2,hne];refine Qq (rest (u:=TR.row t cap x) (x:=x) (by rw [TR.row_pv,hxl]) km2 so2 ob1' ob0' (by omega) dr1 (.inl ⟨t,cap,rfl⟩) (zi.2 ⟨by rw [hxl];exact hf,ho,by omega,ht2⟩) (fun s' hs'=>by rw [TR.row_slots,List.mem_singleton]at hs';subst hs';exact fr) hx fun _=>⟨t,cap,rfl⟩) ?_
  rintro ⟨v',hq⟩ ⟨h3,kids',A',hw,hc,g1,g2,g3,g4,g5⟩
  dsimp only at hw hc g1 g2
  simp only [pwA,seval,-iQ0,hw,hc,wi1];exact⟨m-(i+1),by omega,i+1,v',kids',A',by omega,rfl,rfl,g1,g2,g3,g4,g5⟩
 have hi0':(0:Int)<(i:Int):=by omega
 simp only [pwA,seval,-iQ0,hi0'];refine zt so2 (by omega) fun x4 h2 hx4 m4 so4=>?_
 have km4:=km2.mv hs m4;have dr4:DR T.next h2 v kids A:=dr1.mv (by omega) m4
 have ob14:h2.obj (σ.next+1)=some [.int .i64 p,.int .i64 n,v]:=by rw [m4.obj (by omega)];exact ob1'
 have ob04:h2.obj σ.next=some [.int .i64 0,.int .i64 0,.fz true .nils 0 []]:=by rw [m4.obj (by omega)];exact ob0'
 have ho4:h2.obj t=some (pis x):=by rw [m4.obj (by omega)];exact ho
 have hn4:=m4.next
 by_cases hx0:x4=0
 rotate_left
 ·have r2:h2.rd1 (σ.next+1) 2=some v:=by rw [zL ob14];rfl
  have hne:¬σ.next+1=h2.next:=by omega
  simp only [pwA,seval,-iQ0,hx0,r2,hne];refine Qq (rest (u:=TR.row t cap x) (x:=x) (by rw [TR.row_pv,hxl]) km4 so4 ob14 ob04 (by omega) dr4 (.inl ⟨t,cap,rfl⟩) (zi.2 ⟨by rw [hxl];exact hf,ho4,by omega,by omega⟩) (fun s' hs'=>by rw [TR.row_slots,List.mem_singleton]at hs';subst hs';exact fr) hx fun _=>⟨t,cap,rfl⟩) ?_
  rintro ⟨v',hq⟩ ⟨h3,kids',A',hw,hc,g1,g2,g3,g4,g5⟩
  dsimp only at hw hc g1 g2
  simp only [pwA,seval,-iQ0,hw,hc,wi1];exact⟨m-(i+1),by omega,i+1,v',kids',A',by omega,rfl,rfl,g1,g2,g3,g4,g5⟩
 subst hx0;have r2:h2.rd1 (σ.next+1) 2=some v:=by rw [zL ob14];rfl
 simp only [pwA,seval,-iQ0,r2];refine zt so4 (by omega) fun c h5 hc m5 so5=>?_
 have r5:h5.rd1 (σ.next+1) 2=some v:=by rw [zL (by rw [m5.obj (by omega)];exact ob14)];rfl
 simp only [pwA,seval,-iQ0,r5];refine zt so5 (by omega) fun j h6 hj m6 so6=>?_
 have ob16:h6.obj (σ.next+1)=some [.int .i64 p,.int .i64 n,v]:=by rw [m6.obj (by omega),m5.obj (by omega)];exact ob14
 have ob06:h6.obj σ.next=some [.int .i64 0,.int .i64 0,.fz true .nils 0 []]:=by rw [m6.obj (by omega),m5.obj (by omega)];exact ob04
 have r6:h6.rd1 (σ.next+1) 2=some v:=by rw [zL ob16];rfl
 have km6:=(km4.mv hs m5).mv hs m6;have dr6:DR T.next h6 v kids A:=(dr4.mv (by omega) m5).mv (by omega) m6
 have hn5:=m5.next;have hn6:=m6.next;have hc2:=hc.lt (by omega)
 have hc3:=hc.1;obtain⟨j,rfl⟩:∃j':Nat,j=(j':Int):=⟨j.toNat,by have:=hj.1;omega⟩
 have hji:j<i:=by have:=hj.lt (by omega);omega
 have hjA:j<A.length:=by omega
 obtain⟨u,hu,hru,huk⟩:=dr6.get hjA;have hxj:=hA _ (List.getElem_mem hjA);rcases dr6.out with ⟨e,_⟩|⟨s0,cap0,e0,f1,f2,f3,f4,f5⟩
 ·rw [e]at hu;simp at hu
 have r0:h6.rd1 s0 j=some u.pv:=by rw [zL f2,zw,List.getElem?_map,hu];rfl
 have hjk:j<kids.length:=by omega
 have sc:zC Try.prog 87 [.int .i64 p,.int .i64 c,u.pv] h6 fun v h=>FI v (scl p c A[j])∧h=h6:=by
  rcases hru with ⟨s',cap',rfl⟩|⟨v',rfl,hv'⟩
  ·rw [zi]at huk
   have hxjl:=hxj.len;refine zC.fz (e:=1) (l:=n) (cs:=pis (scl p c A[j])) (fun K' k'=>?_) (qE _ _) fun o cap=>⟨⟨true,.sl o 0 n cap,by rw [qJ,hxjl]⟩,rfl⟩
   rw [TR.row_pv,hxjl];exact zD1 hpb (by omega) hxj (by omega) huk.2.1 huk.2.2.2 k'
  ·exact zD2 hpb (by omega) hxj (by omega) hv' fun z hz=>⟨hz,rfl⟩
 subst e0;simp only [pwA,seval,-iQ0,r6,hjk,r0];refine sc.mono ?_
 rintro z h9 ⟨hz,e9⟩
 obtain rfl:h6=h9:=e9.symm;have hne:¬σ.next+1=h6.next:=by omega
 have g1:=hz.one;have g2:=hz.cells;simp only [pwA,seval,-iQ0,r6,hne,g1,g2];refine Qq (rest (u:=.leaf z) (x:=scl p c A[j]) rfl km6 so6 ob16 ob06 (by omega) dr6 (.inr ⟨z,rfl,hz⟩) (hz.bel 0) (fun s' hs'=>by cases hs') (zIL (by omega) hxj) fun h=>absurd h hi0) ?_
 rintro ⟨v',hq⟩ ⟨h3,kids',A',hw,hc,g1,g2,g3,g4,g5⟩
 dsimp only at hw hc g1 g2
 simp only [pwA,seval,-iQ0,hw,hc,wi1];exact⟨m-(i+1),by omega,i+1,v',kids',A',by omega,rfl,rfl,g1,g2,g3,g4,g5⟩
end Go.Proofs
namespace Go.Grp
end Go.Grp
namespace Go.Proofs
open Go.Ab Go.Lie Go.Grp Go.Mx
variable {σ σ0 h h' h2:PHeap} {K:PV→PHeap→Prop} {p c:Int} {n m s t b tb:Nat} {x y w bs xs:List Int} {A B:List (List Int)} {v vC:PV} {kids:List TR}
structure DM (p c:Int) (A:List (List Int)):Prop where
 p:-10≤p∧p≤11
 c:-10≤c∧c≤20
 l:A.length≤20
 r:∀x∈A,x.length≤20
theorem DM.sz (a:DM p c A):SzL A:=⟨by have:=a.l;omega,fun r hr=>by have:=a.r r hr;omega⟩
structure BX (σ0 h:PHeap) (s tb:Nat) (vC:PV) (bs:List Int) (p c:Int) (v:PV) (kids:List TR) (A:List (List Int)):Prop where
 km:KM σ0 s h
 so:So h s vC bs
 ob:h.obj tb=some [.int .i64 p,.int .i64 c,v]
 or:h.obj (tb+1)=some [.int .i64 0,.int .i64 0,.fz true .nils 0 []]
 lt:tb+2≤h.next
 ge:σ0.next≤tb
 dr:DR σ0.next h v kids A
 nt:tb∉TR.slotss kids∧∀off l c,v≠.sl tb off l c
 nr:tb+1∉TR.slotss kids∧∀off l c,v≠.sl (tb+1) off l c
theorem DR.set (a:DR b h v kids A) {t:Nat} (ht:t∉TR.slotss kids∧∀off l c,v≠.sl t off l c) (cs:List PV):DR b (h.set t cs) v kids A:=by
 refine⟨a.row,a.oks (h':=h.set t cs) (Nat.le_refl _) fun s hs=>by rw [zI,if_neg fun e:s=t=>ht.1 (e ▸ hs)],a.nd,?_⟩
 rcases a.out with e|⟨s0,cap,h1,h2,h3,h4,h5,h6⟩
 ·exact .inl e
 ·exact .inr ⟨s0,cap,h1,h2,by rw [zI,if_neg fun e:s0=t=>ht.2 0 _ cap (by rw [h1,e])];exact h3,h4,h5,h6⟩
theorem BX.mv (a:BX σ0 h s tb vC bs p c v kids A) (hs:s<σ0.next) (m:Mv h s h') (so:So h' s vC bs):BX σ0 h' s tb vC bs p c v kids A:=by
 have hge:=a.ge;exact⟨a.km.mv hs m,so,by rw [m.obj (by omega)];exact a.ob,by rw [m.obj (by omega)];exact a.or,by rw [m.next];exact a.lt,a.ge,a.dr.mv hs m,a.nt,a.nr⟩
theorem BX.keep (a:BX σ0 h s tb vC bs p c v kids A) (k:Keep h h'):BX σ0 h' s tb vC bs p c v kids A:=by
 have hlt:=a.lt;have hn:=k.next;exact⟨a.km.keep k,a.so.keep k,by rw [k.obj _ (by omega)];exact a.ob,by rw [k.obj _ (by omega)];exact a.or,by omega,a.ge,a.dr.keep k,a.nt,a.nr⟩
theorem BX.set (a:BX σ0 h s tb vC bs p c v kids A) (hs:s<σ0.next) (p' c':Int):BX σ0 (h.set tb [.int .i64 p',.int .i64 c',v]) s tb vC bs p' c' v kids A:=by
 have hge:=a.ge;exact⟨a.km.set hge _,a.so.set (by omega) _,by rw [zI,if_pos rfl],by rw [zI,if_neg (by omega)];exact a.or,a.lt,a.ge,a.dr.set a.nt _,a.nt,a.nr⟩
theorem BX.w0 (a:BX σ0 h s tb vC bs p c v kids A) (p':Int):h.wr tb 0 [.int .i64 p']=some (h.set tb [.int .i64 p',.int .i64 c,v]):=by
 have:=qc (i:=0) (v:=.int .i64 p') a.ob (by simp) rfl
 simpa using this
theorem BX.w1 (a:BX σ0 h s tb vC bs p c v kids A) (c':Int):h.wr tb 1 [.int .i64 c']=some (h.set tb [.int .i64 p,.int .i64 c',v]):=by
 have:=qc (i:=1) (v:=.int .i64 c') a.ob (by simp) rfl
 simpa using this
theorem BX.r0 (a:BX σ0 h s tb vC bs p c v kids A):h.rd1 tb 0=some (.int .i64 p):=by rw [zL a.ob];rfl
theorem BX.r1 (a:BX σ0 h s tb vC bs p c v kids A):h.rd1 tb 1=some (.int .i64 c):=by rw [zL a.ob];rfl
theorem BX.r2 (a:BX σ0 h s tb vC bs p c v kids A):h.rd1 tb 2=some v:=by rw [zL a.ob];rfl
theorem BX.fin (a:BX σ0 h s tb vC bs p c v kids A) (hs:s<σ0.next):∃h2,h.rd tb 0 3=some [.int .i64 p,.int .i64 c,v]∧h.wr (tb+1) 0 [.int .i64 p,.int .i64 c,v]=some h2∧h2.rd (tb+1) 0 3=some [.int .i64 p,.int .i64 c,v]∧KM σ0 s h2∧So h2 s vC bs∧DR σ0.next h2 v kids A:=by
 have hge:=a.ge;obtain⟨w1,r1⟩:=res3 (a:=p) (b:=c) a.or a.dr.one.1;exact⟨_,by rw [zx a.ob];rfl,w1,r1,a.km.set (by omega) _,a.so.set (by omega) _,a.dr.set a.nr _⟩
theorem BX.push {Kp:PV×PHeap→Prop} {u:TR} (a:BX σ0 h s tb vC bs p c v kids A) (hs:s<σ0.next) (ru:RowT u x) (hu:u.okF h σ0.next) (hf:∀s∈u.slots,(s∉TR.slotss kids∧∀off l c,v≠.sl s off l c)∧s≠tb∧s≠tb+1) (hb:A.length≤1000)
  (k:∀v' h2 h3,h2.wr tb 2 [v']=some h3→v'.cells=[v']→BX σ0 h3 s tb vC bs p c v' (kids++[u]) (A++[x])→Kp (v',h2)):optK (zq 1 24 (h.new [u.pv]) v (.sl h.next 0 1 (.known 1))) Kp:=by
 obtain⟨σ',m',so',q,hn'⟩:=a.km.so a.so hs;have hge:=a.ge;have hlt:=a.lt;refine DR.push (σb:=σ') a.dr q (by omega) (by omega) ru hu (fun s hs=>(hf s hs).1) hb fun v' h2 d2 k2 o2 n2 l2=>?_
 have ob2:h2.obj tb=some [.int .i64 p,.int .i64 c,v]:=by rw [o2 _ (by omega) a.nt.2];exact a.ob
 have ob3:h2.obj (tb+1)=some [.int .i64 0,.int .i64 0,.fz true .nils 0 []]:=by rw [o2 _ (by omega) a.nr.2];exact a.or
 have hsl:TR.slotss (kids++[u])=TR.slotss kids++u.slots:=by rw [Zd];simp [TR.slotss]
 have nn:∀t,t∉TR.slotss kids→t∉u.slots→t∉TR.slotss (kids++[u]):=fun t h1 h2 hm=>by
  rw [hsl,List.mem_append]at hm
  exact hm.elim h1 h2
 have nt':tb∉TR.slotss (kids++[u])∧∀off l c,v'≠.sl tb off l c:=⟨nn _ a.nt.1 fun hm=>(hf _ hm).2.1 rfl,n2 _ (by omega)⟩
 have nr':tb+1∉TR.slotss (kids++[u])∧∀off l c,v'≠.sl (tb+1) off l c:=⟨nn _ a.nr.1 fun hm=>(hf _ hm).2.2 rfl,n2 _ (by omega)⟩
 have hw:h2.wr tb 2 [v']=some (h2.set tb [.int .i64 p,.int .i64 c,v']):=by
  have:=qc (i:=2) (v:=v') ob2 (by simp) d2.one.1
  simpa using this
 exact k v' h2 _ hw d2.one.2.1 ⟨KM.set ⟨σ',m',k2⟩ hge _,(so'.keep k2).set (by omega) _,by rw [zI,if_pos rfl],by rw [zI,if_neg (by omega)];exact ob3,by show tb+2≤h2.next;omega,hge,d2.set nt' _,nt',nr'⟩
theorem BX.put {u:TR} (a:BX σ0 h s tb vC bs p c v kids A) (hs:s<σ0.next) {i:Nat} (hi:i<A.length) (ru:RowT u y) (hu:u.okF h σ0.next) (hf:∀s∈u.slots,(s∉TR.slotss kids∧∀off l c,v≠.sl s off l c)∧s≠tb∧s≠tb+1):
  ∃s0 cap h2,v=.sl s0 0 A.length cap∧h.wr s0 i [u.pv]=some h2∧BX σ0 h2 s tb vC bs p c v (kids.set i u) (A.set i y):=by
 obtain⟨s0,cap,h2,e,hw,d2,hn,ho⟩:=a.dr.put hi ru hu (fun s hs=>(hf s hs).1.1) (fun s hs=>(hf s hs).1.2)
 have hge:=a.ge;have ht:tb≠s0:=fun e2=>a.nt.2 0 _ cap (by rw [e,e2])
 have hr:tb+1≠s0:=fun e2=>a.nr.2 0 _ cap (by rw [e,e2])
 have hsb:σ0.next≤s0:=by
  rcases a.dr.out with ⟨e1,_⟩|⟨s1,cap1,e1,_,_,q,_,_⟩
  ·have:=a.dr.len;rw [e1]at this;simp at this;omega
  ·rw [e]at e1;simp only [PV.sl.injEq]at e1;omega
 have nn:∀t,t∉TR.slotss kids→t∉u.slots→t∉TR.slotss (kids.set i u):=fun t h1 h2 hm=>by
  obtain⟨w,hw,hs⟩:=zh.1 hm;rcases List.mem_or_eq_of_mem_set hw with e|e
  ·exact h1 (zh.2 ⟨w,e,hs⟩)
  ·exact h2 (e ▸ hs)
 -- only slot s0 has changed
 have e2:h2=h.set s0 ((TR.pvs kids).set i u.pv):=by
  rcases a.dr.out with ⟨e1,_⟩|⟨s1,cap1,e1,_,q3,_,_,_⟩
  ·have:=a.dr.len;rw [e1]at this;simp at this;omega
  ·rw [e]at e1
   simp only [PV.sl.injEq]at e1
   obtain⟨rfl,_⟩:=e1
   have:=qc (i:=i) (v:=u.pv) q3 (by rw [zw,List.length_map,a.dr.len];exact hi) ru.one.1
   rw [this]at hw
   cases hw;rfl
 refine⟨s0,cap,h2,e,hw,by rw [e2];exact a.km.set hsb _,by rw [e2];exact a.so.set (by omega) _,by rw [ho _ ht];exact a.ob,by rw [ho _ hr];exact a.or,by rw [hn];exact a.lt,hge,d2,⟨nn _ a.nt.1 fun hm=>(hf _ hm).2.1 rfl,a.nt.2⟩,nn _ a.nr.1 fun hm=>(hf _ hm).2.2 rfl,a.nr.2⟩
theorem BX.cell {s1:Nat} {cap1:Cap} (a:BX σ0 h s tb vC bs p c v kids A) (hs:s<σ0.next) {i:Nat} (hk:kids[i]? = some (TR.row s1 cap1 x)) (hx:A[i]? = some x) (hy:y.length=x.length):BX σ0 (h.set s1 (pis y)) s tb vC bs p c v (kids.set i (TR.row s1 cap1 y)) (A.set i y):=by
 have hge:=a.ge;have hik:=(List.getElem?_eq_some_iff.1 hk).1;have hm:=List.mem_of_getElem? hk;have hin:s1∈TR.slotss kids:=zh.2 ⟨_,hm,by rw [TR.row_slots];simp⟩
 have hsl:=a.dr.slot s1 hin;have hok:=zi.1 (z8.1 a.dr.ok _ hm);have epv:(TR.row s1 cap1 y).pv=(TR.row s1 cap1 x).pv:=by rw [TR.row_pv,TR.row_pv,hy]
 have esl:(TR.row s1 cap1 y).slots=(TR.row s1 cap1 x).slots:=by rw [TR.row_slots,TR.row_slots]
 have hpv:TR.pvs (kids.set i (TR.row s1 cap1 y))=TR.pvs kids:=by rw [zw,zw];exact ZK TR.pv hk epv
 have hss:TR.slotss (kids.set i (TR.row s1 cap1 y))=TR.slotss kids:=by
  have fm:∀ts:List TR,TR.slotss ts=(ts.map TR.slots).flatten:=fun ts=>by
   induction ts with
   | nil=>rfl
   | cons t ts ih=>simp only [TR.slotss,List.map_cons,List.flatten_cons,ih]
  rw [fm,fm,ZK TR.slots hk esl]
 have nd1:∀j u,j≠i→kids[j]? = some u→s1∉u.slots:=fun j u hj hu hm1=>by
  have fm:∀(ts:List TR) (i j:Nat) (a b:TR),i≠j→ts[i]? = some a→ts[j]? = some b→(TR.slotss ts).Nodup→s1∈a.slots→s1∉b.slots:=by
   intro ts
   induction ts with
   | nil=>intro i j a b _ h;simp at h
   | cons t ts ih=>
    intro i j a b hij ha hb nd h1 h2;simp only [TR.slotss,List.nodup_append]at nd
    cases i with
    | zero=>
     cases j with
     | zero=>exact hij rfl
     | succ j=>
      simp only [List.getElem?_cons_zero,Option.some.injEq]at ha
      simp only [List.getElem?_cons_succ]at hb
      exact nd.2.2 s1 (ha ▸ h1) s1 (zh.2 ⟨b,List.mem_of_getElem? hb,h2⟩) rfl
    | succ i=>
     cases j with
     | zero=>
      simp only [List.getElem?_cons_zero,Option.some.injEq]at hb
      simp only [List.getElem?_cons_succ]at ha
      exact nd.2.2 s1 (hb ▸ h2) s1 (zh.2 ⟨a,List.mem_of_getElem? ha,h1⟩) rfl
     | succ j=>
      simp only [List.getElem?_cons_succ]at ha hb
      exact ih i j a b (fun e=>hij (by rw [e])) ha hb nd.2.1 h1 h2
  exact fm kids i j _ u (Ne.symm hj) hk hu a.dr.nd (by rw [TR.row_slots];simp) hm1
 refine⟨a.km.set (by omega) _,a.so.set (by omega) _,by rw [zI,if_neg fun e:tb=s1=>a.nt.1 (e ▸ hin)];exact a.ob,by rw [zI,if_neg fun e:tb+1=s1=>a.nr.1 (e ▸ hin)];exact a.or,a.lt,hge,⟨?_,z8.2 fun u hu=>?_,by rw [hss];exact a.dr.nd,?_⟩,⟨by rw [hss];exact a.nt.1,a.nt.2⟩,by rw [hss];exact a.nr.1,a.nr.2⟩
 ·refine⟨by rw [List.length_set,List.length_set];exact a.dr.row.1,fun j u z hu hz=>?_⟩
  rw [List.getElem?_set]at hu hz
  by_cases e:i=j
  ·subst e
   rw [if_pos rfl,if_pos hik]at hu
   rw [if_pos rfl,if_pos (by rw [←a.dr.len];exact hik)]at hz
   cases hu;cases hz;exact .inl ⟨s1,cap1,rfl⟩
  ·rw [if_neg e]at hu hz
   exact a.dr.row.2 j u z hu hz
 ·obtain⟨j,hj⟩:=List.getElem?_of_mem hu
  rw [List.getElem?_set]at hj
  by_cases e:i=j
  ·subst e
   rw [if_pos rfl,if_pos hik]at hj
   cases hj;exact zi.2 ⟨by rw [hy];exact hok.1,by rw [zI,if_pos rfl],hok.2.2⟩
  ·rw [if_neg e]at hj
   have hjl:=(List.getElem?_eq_some_iff.1 hj).1;obtain⟨u',h1,h2,h3⟩:=a.dr.get (i:=j) (by rw [←a.dr.len];exact hjl)
   rw [hj]at h1
   cases h1;exact h2.move h3 (Nat.le_refl _) fun s' hs'=>by rw [zI,if_neg fun e2:s'=s1=>nd1 j u (Ne.symm e) hj (e2 ▸ hs')]
 ·rcases a.dr.out with ⟨e,_⟩ | ⟨s0,cap,q1,q2,q3,q4,q5,q6⟩
  ·rw [e]at hik;simp at hik
  ·exact .inr ⟨s0,cap,by rw [List.length_set];exact q1,by rw [List.length_set];exact q2,by rw [zI,if_neg fun e:s0=s1=>q6 (e ▸ hin),hpv];exact q3,q4,q5,by rw [hss];exact q6⟩
end Go.Proofs
namespace Go.Grp
end Go.Grp
namespace Go.Proofs
open Go.Ab Go.Lie Go.Grp Go.Mx
variable {σ σ0 h h' h2:PHeap} {K:PV→PHeap→Prop} {p c:Int} {n m s t b tb:Nat} {x y w bs xs:List Int} {A B:List (List Int)} {v vC:PV} {kids:List TR}
set_option maxHeartbeats 1600000 in
theorem Z7 (km:KM σ0 s σ) (so:So σ s vC bs) (hs:s<σ0.next) (hp:isP p) (hn:n≤8) (dr:DR σ0.next σ v kids A) (hAl:A.length≤8) (hA:Ma p n A) (h00:∀t x,kids[0]? = some t→A[0]? = some x→∃s cap,t=TR.row s cap x)
  (hk:∀p' c' v' kids' A' h,KM σ0 s h→So h s vC bs→DR σ0.next h v' kids' A'→DM p' c' A'→K (.agg [.int .i64 p',.int .i64 c',v']) h):
  zC Try.prog 44 [.ptr s 0,.agg [.int .i64 p,.int .i64 n,v]] σ K:=by
 have hpb:=hp.bd;have h1:=dr.one.1;have hσ:=km.next;generalize hT:(σ.new [.int .i64 p,.int .i64 n,v]).new [.int .i64 0,.int .i64 0,.fz true .nils 0 []]=T;have hkT:Keep σ T:=by rw [←hT];exact(zF σ _).new _
 have B:BX σ0 T s σ.next vC bs p n v kids A:=⟨km.keep hkT,so.keep hkT,by rw [←hT];simp only [pwA,seval,-iQ0],by rw [←hT];simp only [pwA,seval,-iQ0],by rw [←hT];exact Nat.le_refl _,hσ,dr.keep hkT,dr.fresh (Nat.le_refl _),dr.fresh (by omega)⟩
 have dm0:DM p n A:=⟨by omega,by omega,by omega,fun x hx=>by rw [(hA x hx).len];omega⟩
 refine Zq mix Try.func44 cf44 rfl ?_;dsimp only [if44,eI,qD,eD,mI0,kI0,lI0,LI0,fI0,bI0,cI0,sI0,C2,mD0,lD0,fD0,xD0,I0,G0,aI0,vI0,wD0,R0,S0];simp only [pwA,seval,-iQ0,h1];rw [hT];refine zt B.so (by omega) fun a H ha m1 so1=>?_
 have B:=B.mv hs m1 so1;have ha2:=ha.lt (by omega)
 clear so1 m1 hkT hT;have fin:∀{h:PHeap} {p' c':Int} {v':PV} {kids':List TR} {A':List (List Int)},BX σ0 h s σ.next vC bs p' c' v' kids' A'→DM p' c' A'→∃h2,h.rd σ.next 0 3=some [.int .i64 p',.int .i64 c',v']∧h.wr (σ.next+1) 0 [.int .i64 p',.int .i64 c',v']=some h2∧h2.rd (σ.next+1) 0 3=some [.int .i64 p',.int .i64 c',v']∧K (.agg [.int .i64 p',.int .i64 c',v']) h2:=fun b dm=>by
  obtain⟨h9,f1,f2,f3,f4,f5,f6⟩:=b.fin hs;exact⟨h9,f1,f2,f3,hk _ _ _ _ _ _ f4 f5 f6 dm⟩
 have hnt:s≠σ.next:=by have:=B.ge;omega
 have hlt:=B.lt
 by_cases a0:a=0
 ·subst a0
  simp only [pwA,seval,-iQ0];refine ZE (xs:=[1,4,11,0,-3]) (B.so.keep (zF _ _)) (by omega) (by rw [zK,if_pos rfl];rfl) (by decide) fun x h2 hx m2 so2=>?_
  have B2:=(B.keep (zF _ _)).mv hs m2 so2;obtain⟨h9,f1,f2,f3,f4⟩:=fin (B2.set hs x n) ⟨by simp at hx;omega,dm0.c,dm0.l,dm0.r⟩
  simp only [pwA,seval,-iQ0,B2.w0,f1,f2,f3];exact f4
 by_cases a1:a=1
 ·subst a1
  have ew:IntKind.i64.wrap ((n:Int)+1)=(n:Int)+1:=wrap64 (by omega) (by omega)
  have r1:=B.r1;simp only [pwA,seval,-iQ0,r1,ew];refine ZE (xs:=[-1,(n:Int)+1,9]) (B.so.keep (zF _ _)) (by omega) (by rw [zK,if_pos rfl];rfl) (by simp) fun x h2 hx m2 so2=>?_
  have B2:=(B.keep (zF _ _)).mv hs m2 so2;obtain⟨h9,f1,f2,f3,f4⟩:=fin (B2.set hs p x) ⟨dm0.p,by simp at hx;omega,dm0.l,dm0.r⟩
  simp only [pwA,seval,-iQ0,B2.w1,f1,f2,f3];exact f4
 by_cases a4:a=4
 ·subst a4
  have r2:=B.r2;have hlen:=B.dr.one.2.2
  by_cases hA0:A.length=0
  ·have hA0':¬(0:Int)<(A.length:Int):=by omega
   obtain⟨h9,f1,f2,f3,f4⟩:=fin B dm0;simp only [pwA,seval,-iQ0,r2,hlen,hA0',decide_false,f1,f2,f3];exact f4
  have hA0':(0:Int)<(A.length:Int):=by omega
  obtain⟨u,hu,hru,huk⟩:=B.dr.get (i:=0) (by omega)
  obtain⟨s1,cap1,rfl⟩:=h00 u A[0] hu (List.getElem?_eq_getElem (by omega))
  have hx0:=(hA _ (List.getElem_mem (show 0<A.length by omega))).len
  rcases B.dr.out with ⟨e,_⟩|⟨s0,cap0,e0,q2,q3,q4,q5,q6⟩
  ·rw [e]at hu;simp at hu
  have hkl:=B.dr.len;have r0:H.rd1 s0 0=some (.sl s1 0 n cap1):=by rw [zL q3,zw,List.getElem?_map,hu,←hx0,←TR.row_pv];rfl
  have hk0:0<A.length:=by omega
  rw [hkl]at e0
  by_cases hn0:n=0
  ·have hn0':¬(0:Int)<(n:Int):=by omega
   obtain⟨h9,f1,f2,f3,f4⟩:=fin B dm0;subst e0;simp only [pwA,seval,-iQ0,r2,hA0',hk0,r0,hn0',decide_true,decide_false,f1,f2,f3];exact f4
  have hn0':(0:Int)<(n:Int):=by omega
  have hn0n:0<n:=by omega
  have r00:=B.r0;subst e0;simp only [pwA,seval,-iQ0,r2,hA0',hk0,r0,r00,hn0',decide_true];have ne1:¬s0=H.next:=by omega
  have ne2:¬σ.next=H.next:=by omega
  simp only [pwA,seval,-iQ0,ne1,ne2,decide_true,and_self,true_and];refine ZE (xs:=[p,-1]) (B.so.keep (zF _ _)) (by omega) (by rw [zK,if_pos rfl];rfl) (by simp) fun x h2 hx m2 so2=>?_
  have B2:=(B.keep (zF H [.int .i64 p,.int .i64 (-1)])).mv hs m2 so2;have e2:h2.obj s0=some (TR.pvs kids):=by rw [m2.obj (by omega),zK,if_neg ne1];exact q3
  have r0':h2.rd1 s0 0=some (.sl s1 0 n cap1):=by rw [zL e2,zw,List.getElem?_map,hu,←hx0,←TR.row_pv];rfl
  have r2':=B2.r2;rw [zi]at huk
  have e3:h2.obj s1=some (pis A[0]):=by rw [m2.obj (by omega),zK,if_neg (by omega)];exact huk.2.1
  have hw:h2.wr s1 0 [.int .i64 x]=some (h2.set s1 (pis (A[0].set 0 x))):=by
   rw [qc e3 (by rw [zU];omega) rfl,zBp]
  have B3:=B2.cell hs hu (List.getElem?_eq_getElem (by omega)) (y:=A[0].set 0 x) (by simp)
  obtain⟨h9,f1,f2,f3,f4⟩:=fin B3 ⟨dm0.p,dm0.c,by simp;exact dm0.l,fun y hy=>by
   rcases List.mem_or_eq_of_mem_set hy with e|e
   ·exact dm0.r y e
   ·rw [e];simp;omega⟩
  simp only [pwA,seval,-iQ0,r0',r2',hn0',hn0n,hw,f1,f2,f3];exact f4
 by_cases a2:a=2
 ·subst a2
  have hkl:=B.dr.len;rcases B.dr.out with ⟨e,e1⟩|⟨s0,cap0,e0,q2,q3,q4,q5,q6⟩
  ·have hA0:A.length=0:=by rw [←hkl,e];rfl
   have hA0':¬(0:Int)<(A.length:Int):=by omega
   have hlen:=B.dr.one.2.2;obtain⟨h9,f1,f2,f3,f4⟩:=fin B dm0;have r2:=B.r2;simp only [pwA,seval,-iQ0];refine zO (fun k us h=>k=0∧us=[.ptr σ.next 0,.ptr (σ.next+1) 0,.int .i64 0]∧h=H) 0 ⟨rfl,rfl,rfl⟩ ?_
   rintro k us h ⟨rfl,rfl,rfl⟩
   simp only [pwA,seval,-iQ0,r2,hlen,hA0',decide_false,f1,f2,f3];exact f4
  rw [hkl]at e0
  subst e0;simp only [pwA,seval,-iQ0];refine zO (fun k us h=>∃(i:Nat) (kids':List TR),i≤A.length∧k=A.length-i∧us=[.ptr σ.next 0,.ptr (σ.next+1) 0,.int .i64 i]∧BX σ0 h s σ.next vC bs p n (.sl s0 0 A.length cap0) kids' ((A.take i).map (·++[0])++A.drop i)) A.length ⟨0,kids,by omega,by omega,rfl,by rw [List.take_zero,List.map_nil,List.nil_append,List.drop_zero];exact B⟩ ?_
  rintro k us h ⟨i,kids',hi,rfl,rfl,B1⟩
  have r2:=B1.r2;have hl1:((A.take i).map (·++[0])++A.drop i).length=A.length:=by simp;omega
  by_cases hlt':i<A.length
  rotate_left
  ·have hie:i=A.length:=by omega
   subst hie;rw [List.take_length,List.drop_length,List.append_nil]at B1
   obtain⟨h9,f1,f2,f3,f4⟩:=fin B1 ⟨dm0.p,dm0.c,by simp;exact dm0.l,fun y hy=>by
    obtain⟨z,hz,rfl⟩:=List.mem_map.1 hy;rw [List.length_append,(hA z hz).len];simp;omega⟩
   simp only [pwA,seval,-iQ0,r2,Nat.lt_irrefl,decide_false,f1,f2,f3];exact f4
  obtain⟨u,hu,hru,huk⟩:=B1.dr.get (i:=i) (by rw [hl1];exact hlt')
  have hAi:((A.take i).map (·++[0])++A.drop i)[i]'(by rw [hl1];exact hlt')=A[i]:=by
   rw [List.getElem_append_right (by simp;omega)]
   simp [Nat.min_eq_left hi]
  rw [hAi]at hru
  have hxl:=(hA _ (List.getElem_mem hlt')).len;rcases B1.dr.out with ⟨e,_⟩|⟨s1,cap1,e1,p2,p3,p4,p5,p6⟩
  ·rw [e]at hu;simp at hu
  have e1':=e1;simp only [PV.sl.injEq]at e1'
  obtain⟨rfl,_,hkl',rfl⟩:=e1';have r0:h.rd1 s0 i=some u.pv:=by rw [zL p3,zw,List.getElem?_map,hu];rfl
  have own:∀{hX:PHeap},Keep h hX→zC Try.prog 86 [u.pv] hX fun v h'=>∃cap,full 1 cap A[i].length∧v=.sl hX.next 0 A[i].length cap∧h'=hX.new (pis A[i]):=fun {hX} kX=>by
   rcases hru with ⟨s',cap',rfl⟩|⟨v',rfl,w,av,rfl⟩
   ·rw [zi]at huk
    rw [TR.row_pv];exact zB9 (by rw [kX.obj _ huk.2.2.2];exact huk.2.1) (by have:=kX.next;omega) (by omega) fun cap hc=>⟨cap,hc,rfl,rfl⟩
   ·exact Qs rfl (by omega) fun cap hc=>⟨cap,hc,rfl,rfl⟩
  have wi1:=wrapS hlt' (by omega:A.length≤4611686018427387904)
  have ne1:¬s0=h.next:=by omega
  have hge:=B1.ge;have hlt1:=B1.lt;have ne2:¬σ.next=h.next:=by omega
  simp only [pwA,seval,-iQ0,r2,hlt',decide_true,r0,ne1,ne2,zAU,List.nil_append,and_self,true_and];refine(own (zF _ _)).mono ?_
  rintro z h9 ⟨cap2,hc2,rfl,rfl⟩
  have hY:∀t,((h.new [.int .i64 0]).new (pis A[i])).obj t=if t=h.next+1 then some (pis A[i])else if t=h.next then some [.int .i64 0]else h.obj t:=fun t=>by
   rw [zK,zK];rfl
  have kY:Keep h ((h.new [.int .i64 0]).new (pis A[i])):=(zF _ _).new _;have nY:((h.new [.int .i64 0]).new (pis A[i])).next=h.next+2:=rfl;have nX:(h.new [.int .i64 0]).next=h.next+1:=rfl;rw [nX];have r2':((h.new [.int .i64 0]).new (pis A[i])).rd1 σ.next 2=some (.sl s0 0 A.length cap0):=(B1.keep kY).r2;generalize (h.new [.int .i64 0]).new (pis A[i])=Y at *
  simp only [pwA,seval,-iQ0,r2'];refine PAcc.appS (σb:=h) (m:=1) (news:=[.int .i64 0]) (rows:=pis A[i]) kY (.inr (PSl.own hc2 (by rw [hY,if_pos rfl]) (by rw [zU,Nat.mul_one]) (by omega) (by omega))) rfl (by omega) ?_ rfl (by omega) (by omega) fun v' h3 k3 a3 o3 n3 l3=>?_
  ·rw [Z4,if_neg (by omega),if_pos (Nat.le_refl _),zx (by rw [hY,if_neg (by omega),if_pos rfl]),if_pos (by simp)]
   rfl
  obtain⟨t,cap3,rfl,c1,c2,c3,c4,c5⟩:=a3;rw [show pis A[i]++[PV.int .i64 0]=pis (A[i]++[0]) by simp [pis]]at c2
  have r2'':=(B1.keep k3).r2;have hl2:A[i].length+1=(A[i]++[0]).length:=by simp
  obtain⟨s9,cap9,h4,e9,w9,B4⟩:=(B1.keep k3).put hs (i:=i) (u:=TR.row t cap3 (A[i]++[0])) (y:=A[i]++[0]) (by rw [hl1];exact hlt') (.inl ⟨t,cap3,rfl⟩) (zi.2 ⟨by rw [←hl2];exact c1,c2,by omega,c5⟩) (fun s' hs'=>by
   rw [TR.row_slots,List.mem_singleton]at hs'
   subst hs';exact⟨B1.dr.fresh c4,by omega,by omega⟩)
  rw [TR.row_pv,←hl2]at w9
  simp only [PV.sl.injEq]at e9
  obtain⟨rfl,_,_,_⟩:=e9;have hset:((A.take i).map (·++[0])++A.drop i).set i (A[i]++[0])=(A.take (i+1)).map (·++[0])++A.drop (i+1):=by
   have:=QL (a:=A.map (·++[0])) (b:=A) (i:=i) (by simp) (by simpa using hlt')
   rw [List.getElem_map,←List.map_take,←List.map_take]at this
   exact this
  rw [hset]at B4
  simp only [pwA,seval,-iQ0,hlt',r2'',w9,wi1];exact⟨A.length-(i+1),by omega,i+1,_,by omega,rfl,rfl,B4⟩
 by_cases a3:a=3
 ·subst a3
  simp only [pwA,seval,-iQ0];refine zO (fun k us h=>∃(i:Nat) (v':PV) (kids':List TR),i≤9∧k=9-i∧us=[.ptr σ.next 0,.ptr (σ.next+1) 0,.int .i64 i]∧BX σ0 h s σ.next vC bs p n v' kids' (A++List.replicate i (List.replicate n 0))) 9 ⟨0,v,kids,by omega,by omega,rfl,by rw [List.replicate_zero,List.append_nil];exact B⟩ ?_
  rintro k us h ⟨i,v',kids',hi,rfl,rfl,B1⟩
  have r2:=B1.r2;have r1:=B1.r1
  by_cases hlt':i<9
  rotate_left
  ·have hie:i=9:=by omega
   subst hie;obtain⟨h9,f1,f2,f3,f4⟩:=fin B1 ⟨dm0.p,dm0.c,by simp;omega,fun y hy=>by
    rcases List.mem_append.1 hy with e|e
    ·exact dm0.r y e
    ·rw [(List.mem_replicate.1 e).2];simp;omega⟩
   simp only [pwA,seval,-iQ0,f1,f2,f3];exact f4
  have hle:(i:Int)≤8:=by omega
  have wi1:IntKind.i64.wrap ((i:Int)+1)=((i+1:Nat):Int):=by rw [wrap64 (by omega) (by omega)];omega
  have hge:=B1.ge;have hlt1:=B1.lt;have ne2:¬σ.next=h.next:=by omega
  have ne3:¬σ.next=h.next+1:=by omega
  have hmx:max (0:Int) (n:Int)=(n:Int):=by omega
  simp only [pwA,seval,-iQ0,hle,r1,r2,ne2,ne3,hmx,QM,mk8 (n:=n) (by omega),mkL (n:=n) (by omega),decide_true]
  have ez:PV.sl h.next 0 n (.known n)=(TR.row h.next (.known n) (List.replicate n 0)).pv:=by rw [TR.row_pv];simp
  rw [ez];refine BX.push (B1.keep (zF h (pis (List.replicate n 0)))) hs (x:=List.replicate n 0) (.inl ⟨_,_,rfl⟩) (zi.2 ⟨by rw [List.length_replicate];exact .inr rfl,by rw [zK,if_pos rfl],by omega,Nat.lt_succ_self _⟩) (fun s' hs'=>by
   rw [TR.row_slots,List.mem_singleton]at hs'
   subst hs';exact⟨B1.dr.fresh (Nat.le_refl _),by omega,by omega⟩) (by simp;omega) fun v2 h3 h4 w9 hc B4=>?_
  rw [List.append_assoc,←List.replicate_succ']at B4
  simp only [pwA,seval,-iQ0,w9,hc,wi1];exact⟨9-(i+1),by omega,i+1,v2,_,by omega,rfl,rfl,B4⟩
 obtain⟨h9,f1,f2,f3,f4⟩:=fin B dm0;simp only [pwA,seval,-iQ0,a0,a1,a2,a3,a4,f1,f2,f3];exact f4
end Go.Proofs
namespace Go.Grp
end Go.Grp
namespace Go.Proofs
open Go.Ab Go.Lie Go.Grp Go.Mx
variable {σ σ0 h h' h2:PHeap} {K:PV→PHeap→Prop} {p c:Int} {n m s t b tb:Nat} {x y w bs xs:List Int} {A B:List (List Int)} {v vC:PV} {kids:List TR}
theorem Zt {a:Int} (h:0≤a):∃k:Nat,a=(k:Int):=⟨a.toNat,by omega⟩
theorem zB8 (so:So σ s vC bs) (hk:∀p c z A h,FII z A→DM p c A→Mv σ s h→So h s vC bs→K (.agg [.int .i64 p,.int .i64 c,z]) h):zC Try.prog 41 [.ptr s 0] σ K:=by
 have hs:=so.lt;refine zC.gh ?_;generalize hT:σ.new [.int .i64 0,.int .i64 0,.fz true .nils 0 []]=T;have hTn:T.next=σ.next+1:=by rw [←hT];rfl
 have hkT:Keep σ T:=by rw [←hT];exact zF σ _
 have obT:T.obj σ.next=some [.int .i64 0,.int .i64 0,.fz true .nils 0 []]:=by rw [←hT];simp only [pwA,seval,-iQ0]
 refine zD mix Try.func41 ?_
 conv=>arg 2;cbv
 refine zG rfl ?_;simp only [pwA,seval,-iQ0];rw [hT];refine zBs (so.keep hkT) fun p h1 hp km1 so1=>?_
 have hpb:=hp.bd;have hsT:s<T.next:=by omega
 simp only [pwA,seval,-iQ0];refine zt so1 (by omega) fun m h2 hm m2 so2=>?_
 simp only [pwA,seval,-iQ0];refine zt so2 (by omega) fun n h3 hn m3 so3=>?_
 simp only [pwA,seval,-iQ0];refine zt so3 (by omega) fun a h4 ha m4 so4=>?_
 have km4:=((km1.mv hsT m2).mv hsT m3).mv hsT m4;have hm2:=hm.lt (by omega)
 have hn2:=hn.lt (by omega)
 obtain⟨m,rfl⟩:=Zt hm.1;obtain⟨n,rfl⟩:=Zt hn.1
 -- the end
 have rest:∀{h5 h7:PHeap} {p' c':Int} {v':PV} {kids':List TR} {A':List (List Int)},KM T s h5→So h5 s vC bs→KM h5 s h7→So h7 s vC bs→DR h5.next h7 v' kids' A'→DM p' c' A'→∃h8,v'.one=true∧v'.cells=[v']∧h7.wr σ.next 0 [.int .i64 p',.int .i64 c',v']=some h8∧h8.rd σ.next 0 3=some [.int .i64 p',.int .i64 c',v']∧Gh σ K (.agg [.int .i64 p',.int .i64 c',v']) h8:=fun {h5 h7 p' c' v' kids' A'} km5 so5 km57 so7 dr7 dm=>by
  have hn5:=km5.next;have km7:=km5.trans hsT km57;have ob7:h7.obj σ.next=some [.int .i64 0,.int .i64 0,.fz true .nils 0 []]:=by rw [km7.obj (by omega) (by omega)];exact obT
  obtain⟨w1,r1⟩:=res3 (a:=p') (b:=c') ob7 dr7.one.1;refine⟨_,dr7.one.1,dr7.one.2.1,w1,r1,?_⟩;have kmS:KM σ s h7:=(so.kmK hkT).trans hs km7;refine Gh.km (kmS.set (Nat.le_refl _) _) (so7.set (by omega) _) hs fun σ' m' so' kp=>?_
  exact DR.fin (b:=h5.next) (dr7.move (Nat.le_refl _) fun t ht _=>by rw [zI,if_neg (by omega)]) kp (by rw [m'.next];omega) fun z hz=>hk p' c' z A' σ' hz dm m' so'
 by_cases a0:a=0
 ·subst a0
  simp only [pwA,seval,-iQ0];refine ZE (xs:=[8,7,6]) (so4.keep (zF _ _)) (by have:=km4.next;omega) (by rw [zK,if_pos rfl];rfl) (by decide) fun m' h5 hm' m5 so5=>?_
  have km5:=(km4.new [.int .i64 8,.int .i64 7,.int .i64 6]).mv hsT m5;simp only [pwA,seval,-iQ0];refine ZE (xs:=[8,7,6]) (so5.keep (zF _ _)) (by have:=km5.next;omega) (by rw [zK,if_pos rfl];rfl) (by decide) fun n' h6 hn' m6 so6=>?_
  have km6:=(km5.new [.int .i64 8,.int .i64 7,.int .i64 6]).mv hsT m6;have hm8:0≤m'∧m'≤8:=by simp at hm';omega
  have hn8:0≤n'∧n'≤8:=by simp at hn';omega
  obtain⟨m',rfl⟩:=Zt hm8.1;obtain⟨n',rfl⟩:=Zt hn8.1;simp only [pwA,seval,-iQ0];refine qz so6 hp (by omega) (by omega) fun v kids A h7 km7 so7 dr hAl hA h00=>?_
  have o1:=dr.one.1;have o2:=dr.one.2.1;simp only [pwA,seval,-iQ0,o1,o2];refine Z7 km7 so7 so6.lt hp (by omega) dr (by omega) hA h00 fun p' c' v' kids' A' h9 km9 so9 dr9 dm=>?_
  obtain⟨h8,g1,g2,w1,r1,gg⟩:=rest km6 so6 km9 so9 dr9 dm;simp only [pwA,seval,-iQ0,g1,g2,w1,r1];exact gg
 ·simp only [pwA,seval,-iQ0,a0]
  refine qz so4 hp (by omega) (by omega) fun v kids A h7 km7 so7 dr hAl hA h00=>?_
  have o1:=dr.one.1;have o2:=dr.one.2.1;simp only [pwA,seval,-iQ0,o1,o2];refine Z7 km7 so7 so4.lt hp (by omega) dr (by omega) hA h00 fun p' c' v' kids' A' h9 km9 so9 dr9 dm=>?_
  obtain⟨h8,g1,g2,w1,r1,gg⟩:=rest km4 so4 km9 so9 dr9 dm;simp only [pwA,seval,-iQ0,g1,g2,w1,r1];exact gg
end Go.Proofs
namespace Go.Grp
end Go.Grp
namespace Go.Proofs
open Go.Ab Go.Lie Go.Grp Go.Mx
variable {σ σ0 h h' h2 T:PHeap} {K:PV→PHeap→Prop} {p c p0 c0:Int} {n m s t b tb:Nat} {x y w bs xs:List Int} {A A0 B:List (List Int)} {v v0 z0 vC:PV} {kids:List TR}
theorem KM.keepN (km:KM T s h) (kT:Keep σ T) (hs:σ.next≤s):Keep σ h:=by
 obtain⟨T',m,q⟩:=km;refine⟨Nat.le_trans kT.next (by rw [←m.next];exact q.next),Nat.le_trans kT.top (by rw [←m.top];exact q.top),fun t ht=>?_⟩
 have:=kT.next
 rw [q.obj t (by rw [m.next];omega),m.obj (by omega),kT.obj t ht]
theorem DR.fin2 (a:DR b h v kids A) (hk:Keep σ h) (hb:σ.next≤b) (hz0:FII z0 A0) (k:∀z,FII z A→K (.tup [.agg [.int .i64 p0,.int .i64 c0,z0],.agg [.int .i64 p,.int .i64 c,z]]) σ):Gh σ K (.tup [.agg [.int .i64 p0,.int .i64 c0,z0],.agg [.int .i64 p,.int .i64 c,v]]) h:=by
 have hl:=a.len;have a2:∀aa,All2 FI (TR.fzs aa kids) A:=fun aa=>⟨by rw [TR.fzs_length];exact hl,fun j x y hx hy=>by
  rw [zBu,List.getElem?_map]at hx
  obtain⟨t,ht,rfl⟩:=Option.map_eq_some_iff.1 hx;exact(a.row.2 j t y ht hy).fz aa⟩
 have low:TR.okFs h σ.next kids:=z8.2 fun t ht=>by
  obtain⟨i,hi,rfl⟩:=List.mem_iff_getElem.1 ht;obtain⟨t',h1,h2,h3⟩:=a.get (i:=i) (by rw [←a.len];exact hi)
  rw [List.getElem?_eq_getElem hi]at h1
  cases h1;rcases h2 with ⟨s,cap,e⟩|⟨v,e,hv⟩
  ·rw [e,zi]at h3
   rw [e,zi];exact⟨h3.1,h3.2.1,by omega,h3.2.2.2⟩
  ·rw [e];exact hv.bel 0
 rcases a.out with ⟨rfl,rfl⟩|⟨s0,cap,rfl,h2,h3,h4,h5,h6⟩
 ·have:A=[]:=List.eq_nil_of_length_eq_zero (by rw [←hl];rfl)
  subst this;exact Gh.fin0 hk ⟨⟨trivial,trivial,hz0.bel _,trivial⟩,⟨trivial,trivial,trivial,trivial⟩,trivial⟩ (k _ ⟨true,.nils,[],rfl,All2.nil _⟩)
 ·have et:(TR.tup [.agg [.leaf (.int .i64 p0),.leaf (.int .i64 c0),.leaf z0],.agg [.leaf (.int .i64 p),.leaf (.int .i64 c),.lst s0 cap kids]]).pv=.tup [.agg [.int .i64 p0,.int .i64 c0,z0],.agg [.int .i64 p,.int .i64 c,.sl s0 0 kids.length cap]]:=rfl
  rw [←et];exact Gh.treeF hk ⟨⟨trivial,trivial,hz0.bel 0,trivial⟩,⟨trivial,trivial,⟨⟨h2,h3,by omega,h5⟩,low⟩,trivial⟩,trivial⟩ fun aa=>k _ ⟨true,.sl (aa s0) 0 kids.length cap,TR.fzs aa kids,by rw [←hl];rfl,a2 aa⟩
theorem res33 {r:Nat} {a b a' b':Int} {v v':PV} (o1:h.obj r=some [.int .i64 0,.int .i64 0,.fz true .nils 0 []]) (o2:h.obj (r+1)=some [.int .i64 0,.int .i64 0,.fz true .nils 0 []]) (hv:v.one=true) (hv':v'.one=true):
  ∃h1 h2,h.wr r 0 [.int .i64 a,.int .i64 b,v]=some h1∧h1.wr (r+1) 0 [.int .i64 a',.int .i64 b',v']=some h2∧h2.rd r 0 3=some [.int .i64 a,.int .i64 b,v]∧h2.rd (r+1) 0 3=some [.int .i64 a',.int .i64 b',v']∧h2=(h.set r [.int .i64 a,.int .i64 b,v]).set (r+1) [.int .i64 a',.int .i64 b',v']:=by
 obtain⟨w1,r1⟩:=res3 (a:=a) (b:=b) o1 hv;obtain⟨w2,r2⟩:=res3 (H:=h.set r [.int .i64 a,.int .i64 b,v]) (r:=r+1) (a:=a') (b:=b') (by rw [zI,if_neg (by omega)];exact o2) hv'
 exact⟨_,_,w1,w2,by rw [zBo,if_neg (by omega)];exact r1,r2,rfl⟩
theorem Qc (hb:FB vC bs) (hB:Byt bs) (hk:∀p c z A p' c' z' A',FII z A→DM p c A→FII z' A'→DM p' c' A'→K (.tup [.agg [.int .i64 p,.int .i64 c,z],.agg [.int .i64 p',.int .i64 c',z']]) σ):
  zC Try.prog 9 [vC] σ K:=by
 have hb1:=hb.one;refine zC.gh ?_;generalize hS:(σ.new [.int .i64 0,.int .i64 0,.fz true .nils 0 []]).new [.int .i64 0,.int .i64 0,.fz true .nils 0 []]=S;have hSn:S.next=σ.next+2:=by rw [←hS];rfl
 have hkS:Keep σ S:=by rw [←hS];exact(zF σ _).new _
 have obS:S.obj σ.next=some [.int .i64 0,.int .i64 0,.fz true .nils 0 []]:=by rw [←hS];simp only [pwA,seval,-iQ0]
 have obS':S.obj (σ.next+1)=some [.int .i64 0,.int .i64 0,.fz true .nils 0 []]:=by rw [←hS];simp only [pwA,seval,-iQ0]
 refine zD mix Try.func9 ?_
 conv=>arg 2;cbv
 refine zG rfl ?_;simp only [pwA,seval,-iQ0];rw [hS];refine zE2 hb hB fun sd hsd=>?_
 have so:So (S.new (srcC vC 0 sd)) S.next vC bs:=⟨0,sd,by rw [zK,if_pos rfl],Nat.lt_succ_self _,hb,hB,Nat.zero_le _,hsd⟩
 have hkT:Keep σ (S.new (srcC vC 0 sd)):=hkS.new _;have obT:(S.new (srcC vC 0 sd)).obj σ.next=some [.int .i64 0,.int .i64 0,.fz true .nils 0 []]:=by rw [zK,if_neg (by omega)];exact obS
 have obT':(S.new (srcC vC 0 sd)).obj (σ.next+1)=some [.int .i64 0,.int .i64 0,.fz true .nils 0 []]:=by rw [zK,if_neg (by omega)];exact obS'
 have hTn:(S.new (srcC vC 0 sd)).next=S.next+1:=rfl;generalize S.new (srcC vC 0 sd)=T at *
 simp only [pwA,seval,-iQ0];refine zB8 so fun p c z A h1 hz dm m1 so1=>?_
 have km1:=so.km.mv so.lt m1;have z1:=hz.one;have z2:=hz.cells;simp only [pwA,seval,-iQ0,z1,z2];have km2:=km1.new [.int .i64 p,.int .i64 c,z];have so2:So (h1.new [.int .i64 p,.int .i64 c,z]) S.next vC bs:=so1.keep (zF _ _);have hn1:=m1.next;have obA:(h1.new [.int .i64 p,.int .i64 c,z]).obj h1.next=some [.int .i64 p,.int .i64 c,z]:=by rw [zK,if_pos rfl]
 have hn2:(h1.new [.int .i64 p,.int .i64 c,z]).next=h1.next+1:=rfl;generalize h1.new [.int .i64 p,.int .i64 c,z]=H2 at *
 have hsH:S.next<H2.next:=by omega
 -- what stays
 have st:∀{h:PHeap},KM H2 S.next h→h.obj σ.next=some [.int .i64 0,.int .i64 0,.fz true .nils 0 []]∧h.obj (σ.next+1)=some [.int .i64 0,.int .i64 0,.fz true .nils 0 []]∧h.obj h1.next=some [.int .i64 p,.int .i64 c,z]∧KM T S.next h:=fun {h} k=>by
  have kT:=km2.trans so.lt k;exact⟨by rw [kT.obj (by omega) (by omega)];exact obT,by rw [kT.obj (by omega) (by omega)];exact obT',by rw [k.obj (by omega) (by omega)];exact obA,kT⟩
 refine zt so2 (by omega) fun a h3 ha m3 so3=>?_
 have km3:KM H2 S.next h3:=so2.km.mv hsH m3;obtain⟨o1,o2,o3,k3⟩:=st km3;have l3:h3.rd h1.next 0 3=some [.int .i64 p,.int .i64 c,z]:=by rw [zx o3];rfl
 by_cases a0:a=0
 ·subst a0
  simp only [pwA,seval,-iQ0,l3];refine zB8 so3 fun p' c' z' A' h4 hz' dm' m4 so4=>?_
  obtain⟨o1,o2,o3,k4⟩:=st (km3.mv hsH m4);have l4:h4.rd h1.next 0 3=some [.int .i64 p,.int .i64 c,z]:=by rw [zx o3];rfl
  obtain⟨h8,h9,w1,w2,r1,r2,e9⟩:=res33 (a:=p) (b:=c) (a':=p') (b':=c') o1 o2 hz.one hz'.one;simp only [pwA,seval,-iQ0,l4,w1,w2,r1,r2];subst e9;exact Gh.fin0 (((k4.keepN hkT (by omega)).set (Nat.le_refl _) _).set (by omega) _) ⟨⟨trivial,trivial,hz.bel _,trivial⟩,⟨trivial,trivial,hz'.bel _,trivial⟩,trivial⟩ (hk p c z A p' c' z' A' hz dm hz' dm')
 have l0:h3.rd1 h1.next 0=some (.int .i64 p):=by rw [zL o3];rfl
 have l1:h3.rd1 h1.next 1=some (.int .i64 c):=by rw [zL o3];rfl
 obtain⟨m,hm⟩:=Zt (a:=max (0:Int) (min c 8)) (by omega)
 have hm8:m≤8:=by omega
 -- the second one
 have rest:∀{h4 h6:PHeap} {p' c':Int} {v':PV} {kids':List TR} {A':List (List Int)},KM H2 S.next h4→So h4 S.next vC bs→KM h4 S.next h6→DR h4.next h6 v' kids' A'→DM p' c' A'→∃h8 h9,v'.one=true∧v'.cells=[v']∧h6.wr σ.next 0 [.int .i64 p,.int .i64 c,z]=some h8∧h8.wr (σ.next+1) 0 [.int .i64 p',.int .i64 c',v']=some h9∧h9.rd σ.next 0 3=some [.int .i64 p,.int .i64 c,z]∧h9.rd (σ.next+1) 0 3=some [.int .i64 p',.int .i64 c',v']∧Gh σ K (.tup [.agg [.int .i64 p,.int .i64 c,z],.agg [.int .i64 p',.int .i64 c',v']]) h9:=fun {h4 h6 p' c' v' kids' A'} km4 so4 km46 dr6 dm'=>by
  have hn4:=km4.next;obtain⟨o1,o2,o3,k6⟩:=st (km4.trans hsH km46);obtain⟨h8,h9,w1,w2,r1,r2,e9⟩:=res33 (a:=p) (b:=c) (a':=p') (b':=c') o1 o2 hz.one dr6.one.1;refine⟨h8,h9,dr6.one.1,dr6.one.2.1,w1,w2,r1,r2,?_⟩;subst e9;refine DR.fin2 (b:=h4.next) (dr6.move (Nat.le_refl _) fun t ht _=>by rw [zI,if_neg (by omega),zI,if_neg (by omega)]) (((k6.keepN hkT (by omega)).set (Nat.le_refl _) _).set (by omega) _) (by omega) hz fun z' hz'=>hk p c z A p' c' z' A' hz dm hz' dm'
 simp only [pwA,seval,-iQ0,a0,l0];refine zAa ?_
 by_cases hp:isP p
 ·simp only [pwA,seval,-iQ0,hp,l3,l1,hm]
  refine zt so3 (by omega) fun n h4 hn m4 so4=>?_
  have hn5:=hn.lt (by omega)
  obtain⟨n,rfl⟩:=Zt hn.1;have km4:=km3.mv hsH m4;obtain⟨o1,o2,o3,k4⟩:=st km4;have l4:h4.rd h1.next 0 3=some [.int .i64 p,.int .i64 c,z]:=by rw [zx o3];rfl
  have l5:h4.rd1 h1.next 1=some (.int .i64 c):=by rw [zL o3];rfl
  simp only [pwA,seval,-iQ0,l4,l5,hm];refine qz so4 hp hm8 (by omega) fun v kids A' h5 km5 so5 dr hAl hA h00=>?_
  obtain⟨o1,o2,o3,k5⟩:=st (km4.trans hsH km5);have l6:h5.rd h1.next 0 3=some [.int .i64 p,.int .i64 c,z]:=by rw [zx o3];rfl
  have y1:=dr.one.1;have y2:=dr.one.2.1;simp only [pwA,seval,-iQ0,l6,y1,y2];refine Z7 km5 so5 so4.lt hp (by omega) dr (by omega) hA h00 fun p' c' v' kids' A' h6 km6 so6 dr6 dm'=>?_
  obtain⟨o1,o2,o3,k6⟩:=st (km4.trans hsH km6);have l7:h6.rd h1.next 0 3=some [.int .i64 p,.int .i64 c,z]:=by rw [zx o3];rfl
  obtain⟨h8,h9,x1,x2,w1,w2,r1,r2,gg⟩:=rest km4 so4 km6 dr6 dm';simp only [pwA,seval,-iQ0,l7,x1,x2,w1,w2,r1,r2];exact gg
 ·have hp2:isP 2:=.inl rfl
  simp only [pwA,seval,-iQ0,hp,l3,l1,hm];refine zt so3 (by omega) fun n h4 hn m4 so4=>?_
  have hn5:=hn.lt (by omega)
  obtain⟨n,rfl⟩:=Zt hn.1;have km4:=km3.mv hsH m4;obtain⟨o1,o2,o3,k4⟩:=st km4;have l4:h4.rd h1.next 0 3=some [.int .i64 p,.int .i64 c,z]:=by rw [zx o3];rfl
  have l5:h4.rd1 h1.next 1=some (.int .i64 c):=by rw [zL o3];rfl
  simp only [pwA,seval,-iQ0,l4,l5,hm];refine qz so4 hp2 hm8 (by omega) fun v kids A' h5 km5 so5 dr hAl hA h00=>?_
  obtain⟨o1,o2,o3,k5⟩:=st (km4.trans hsH km5);have l6:h5.rd h1.next 0 3=some [.int .i64 p,.int .i64 c,z]:=by rw [zx o3];rfl
  have y1:=dr.one.1;have y2:=dr.one.2.1;simp only [pwA,seval,-iQ0,l6,y1,y2];refine Z7 km5 so5 so4.lt hp2 (by omega) dr (by omega) hA h00 fun p' c' v' kids' A' h6 km6 so6 dr6 dm'=>?_
  obtain⟨o1,o2,o3,k6⟩:=st (km4.trans hsH km6);have l7:h6.rd h1.next 0 3=some [.int .i64 p,.int .i64 c,z]:=by rw [zx o3];rfl
  obtain⟨h8,h9,x1,x2,w1,w2,r1,r2,gg⟩:=rest km4 so4 km6 dr6 dm';simp only [pwA,seval,-iQ0,l7,x1,x2,w1,w2,r1,r2];exact gg
end Go.Proofs
