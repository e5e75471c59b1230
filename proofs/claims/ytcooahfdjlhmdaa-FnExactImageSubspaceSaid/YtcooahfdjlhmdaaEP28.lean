/- Plain law: one vector more in a reduced list; elimination in place. -/
import Derived.Test.YtcooahfdjlhmdaaEP26
import Derived.Test.YtcooahfdjlhmdaaEAbPz
open Int renaming reduceNatCast'→iQ0
set_option maxRecDepth 100000
namespace Go.Grp
end Go.Grp
set_option linter.unusedSimpArgs false
set_option linter.unusedVariables false
namespace Go.Proofs
open Go.Ab Go.Lie Go.Grp Go.Mx
variable {σ:PHeap} {K:PV→PHeap→Prop} {p:Int} {n:Nat} {v w xs ys:List Int} {A M:List (List Int)} {vA vM vv v0:PV}
theorem zHZ {α:Type} {a b:List α} {i:Nat} (hl:a.length=b.length) (hi:i<a.length):(a.take i++b.drop i).set i a[i]=a.take (i+1)++b.drop (i+1):=by
 have h1:(a.take i).length=i:=by rw [List.length_take];omega
 rw [List.set_append_right _ _ (by omega),h1,Nat.sub_self,List.drop_eq_getElem_cons (by omega:i<b.length),List.set_cons_zero,List.take_succ_eq_append_getElem hi,List.append_assoc]
 rfl
theorem zHa {α:Type} {a b:List α} {i:Nat} (hl:a.length=b.length) (hi:i<b.length):(a.take i++b.drop i)[i]? = some b[i]:=by
 have h1:(a.take i).length=i:=by rw [List.length_take];omega
 rw [List.getElem?_append_right (by omega),h1,List.getElem?_drop,Nat.sub_self,Nat.add_zero,List.getElem?_eq_getElem hi]
theorem zDB {x:Int} {r out:List Int} (h:r.length=out.length) {j:Nat} (hj:j<out.length):(vstep p x r out)[j]'(by rw [qB h];exact hj)=(out[j] + x*r[j]) % p:=by
 simp [vstep]
def sm2 (x:Int):Prop:=-1000000000≤x∧x≤1000000000
theorem zC7 {s l l':Nat} {cap:Cap} {w:Bool} {a:AV} {k:Int} (hp:0<p∧p≤1000) (hs:σ.obj s=some (pis xs)) (hl:l=xs.length) (hl':l'=ys.length) (hle:ys.length=xs.length) (hb:xs.length≤1048576)
  (hsm:∀i (h1:i<xs.length) (h2:i<ys.length),sm2 (k*ys[i])∧sm2 (xs[i])) (hk:K (.tup []) (σ.set s (pis (vstep p k ys xs)))):
  zA Try.prog 106 [.sl s 0 l cap,.fz w a l' (pis ys),.int .i64 k,.int .i64 p] σ K:=by
 subst hl;subst hl';have hvl:=qB (p:=p) (x:=k) hle;refine zB mix Try.func106 ?_
 conv=>arg 2;cbv
 refine zC rfl ?_;simp only [pwA,seval,-iQ0];refine zM (fun m vs h'=>∃i:Nat,i≤xs.length∧m=xs.length-i∧vs=[.sl s 0 xs.length cap,.fz w a ys.length (pis ys),.int .i64 k,.int .i64 p,.int .i64 xs.length,.int .i64 i]∧h'=σ.set s (pis ((vstep p k ys xs).take i++xs.drop i))) xs.length ?_ ?_
 ·exact⟨0,by omega,by omega,rfl,by rw [List.take_zero,List.drop_zero,List.nil_append,zBw hs]⟩
 rintro m vs h' ⟨i,hi,rfl,rfl,rfl⟩
 simp only [pwA,seval,-iQ0];refine iteI (fun hlt=>?_) fun hge=>?_
 rotate_left
 ·have:i=xs.length:=by omega
  subst this;rw [List.drop_length,List.append_nil,List.take_of_length_le (by omega)]
  exact hk
 have hlt2:i<ys.length:=by omega
 have e1:=zHa hvl hlt;obtain⟨b1,b2⟩:=hsm i hlt hlt2;unfold sm2 at b1 b2
 have hlen:i+1≤((vstep p k ys xs).take i++xs.drop i).length:=by simp;omega
 have ew1:IntKind.i64.wrap (k*ys[i])=k*ys[i]:=wrap64 (by omega) (by omega)
 have ew2:IntKind.i64.wrap (xs[i] + k*ys[i])=xs[i] + k*ys[i]:=wrap64 (by omega) (by omega)
 simp only [pwA,seval,-iQ0,hlt,hlt2,qO,qY,gi hlt2,e1,hlen,ew1,ew2];refine zAS hp.1 (by omega) ?_
 simp only [pwA,seval,-iQ0,hlt,hlen,qY,wrapS hlt (by omega:xs.length≤4611686018427387904)]
 refine⟨_,by omega,i+1,by omega,rfl,rfl,?_⟩
 rw [Zm (by simp;omega)]
 have hiv:i<(vstep p k ys xs).length:=by omega
 rw [←zHZ hvl hiv,zDB hle hlt]
theorem sm6 {a b:Int} (ha:0≤a∧a≤6) (hb:0≤b∧b≤6):0≤a*b∧a*b≤36:=by
 have h1:=Int.mul_nonneg ha.1 hb.1;have h2:=Int.mul_le_mul ha.2 hb.2 hb.1 (by decide)
 omega
theorem zCq (hp:2≤p∧p≤7) (hA:Ma p n A) (hv:Ve p A.length v) (hn:n≤8) (hal:A.length≤8) (hvA:FII vA A) (hvv:FI vv v) (hk:∀cap,full 1 cap n→K (.sl σ.next 0 n cap) (σ.new (pis (vt p n v A)))):
  zA Try.prog 88 [vv,.agg [.int .i64 p,.int .i64 n,vA]] σ K:=by
 have h1:=hvA.one;have hvl:=hv.len;obtain⟨wv,av,rfl⟩:=hvv;obtain⟨wA,aA,rA,rfl,hrA⟩:=hvA;refine zA.gh ?_;refine zB mix Try.func88 ?_
 conv=>arg 2;cbv
 refine zC rfl ?_;simp only [pwA,seval,-iQ0,h1,List.length_replicate,zBQ,mk8 (n:=n) (by omega),mkL (n:=n) (by omega)]
 refine zM (fun m vs h'=>∃i:Nat,i≤v.length∧m=v.length-i∧vs=[.ptr σ.next 0,.sl (σ.next+1) 0 n (.known n),.fz wv av v.length (pis v),.int .i64 v.length,.int .i64 i]∧h'=(σ.new [.int .i64 p,.int .i64 n,.fz wA aA A.length rA]).new (pis (vmul p n v A i))) v.length ?_ ?_
 ·exact⟨0,by omega,by omega,rfl,rfl⟩
 rintro m vs h' ⟨i,hi,rfl,rfl,rfl⟩
 simp only [pwA,seval,-iQ0];refine iteI (fun hlt=>?_) fun hge=>?_
 rotate_left
 ·have hie:i=v.length:=by omega
  subst hie;exact Gh.finS (s:=σ.next+1) ((zG σ _).new _) (by simp only [pwA,seval,-iQ0]) (by omega) (ZI _ _) (hk _ (.inr rfl))
 have hiA:i<A.length:=by omega
 obtain⟨w4,a4,hr⟩:=hrA.rowI hiA;have hrow:=hA.row hiA;rw [qC hiA]at hrow
 have hml:=ZP (v:=v) hA (i:=i) (by omega)
 have hve:=zCp (v:=v) (by omega:0<p) hA (i:=i) (by omega)
 have bx:=hv.bd i;rw [at_eq hlt]at bx
 simp only [pwA,seval,-iQ0,hlt,hiA,hr,gi hlt,qO];refine zC7 (xs:=vmul p n v A i) (by omega) (by simp only [pwA,seval,-iQ0]) hml.symm rfl (by rw [hml];exact hrow.len) (by omega) (fun t g1 g2=>?_) ?_
 ·have c1:=hrow.bd t
  have c2:=hve.bd t;rw [at_eq g2]at c1
  rw [at_eq g1]at c2
  have:=sm6 (a:=v[i]) (b:=A[i][t]) (by omega) (by omega)
  unfold sm2;omega
 ·simp only [pwA,seval,-iQ0,wrapS hlt (by omega:v.length≤4611686018427387904)]
  refine⟨_,by omega,i+1,by omega,rfl,rfl,?_⟩
  rw [vmul,at_eq hlt,qC hiA]
theorem zCr (hp:2≤p∧p≤7) (hA:Ma p n A) (hv:Ve p A.length v) (hn:n≤8) (hal:A.length≤8) (hvA:FII vA A) (hvv:FI vv v) (hk:∀z,FI z (vt p n v A)→K z σ):
  zA Try.prog 88 [vv,.agg [.int .i64 p,.int .i64 n,vA]] σ K:=by
 have hl:=(vt_ve (by omega:0<p) hA hv.len).len
 refine zA.fz (l:=n) (e:=1) (cs:=pis (vt p n v A)) (fun K' k'=>zCq hp hA hv hn hal hvA hvv k') (ZI _ _) fun o cap=>hk _ ?_
 exact⟨true,.sl o 0 n cap,by rw [hl]⟩
structure Acc3 (H h:PHeap) (p:Int) (n:Nat) (v:PV) (i:Nat) (rows:List PV):Prop where
 keep:Keep H h
 obj:h.obj H.next=some [.int .i64 p,.int .i64 n,v]
 lt:H.next<h.next
 acc:PAcc (H.next+1) 1 h v i rows
theorem Acc3.out {H h:PHeap} {i:Nat} {rows:List PV} (a:Acc3 H h p n v0 i rows) (hk0:Keep σ H) {t:Nat} (ht:σ.next≤t) (htH:t<H.next) (hall:All2 FI rows M) (hk:∀v,FII v M→K (.agg [.int .i64 p,.int .i64 n,v]) σ):
  Gh σ K (.agg [.int .i64 p,.int .i64 n,v0]) (h.set t [.int .i64 p,.int .i64 n,v0]):=by
 have hkσ:Keep σ (h.set t [.int .i64 p,.int .i64 n,v0]):=(hk0.trans a.keep).set ht _;have hlen:=hall.1;rcases a.acc with ⟨rfl,h0,h1⟩|⟨s,cap,rfl,hc,q2,q3,q4,q5⟩
 ·refine Gh.fin0 hkσ ⟨trivial,trivial,trivial,trivial⟩ (hk _ ⟨true,.nils,rows,?_,hall⟩)
  rw [←hlen,h1];rfl
 ·have hk1:=hk0.next
  refine Gh.freeze (s:=s) (cs:=rows) (by rw [ZR,if_neg (by omega)];exact q2) (by omega) (hall.bI 0) fun o g1 g2 g3=>?_
  simp only [sb,sbs,hc.ok,and_self,if_true];refine Gh.fin0 ((hkσ.kill (by omega)).up (by simp only [PHeap.kill];omega)) ⟨trivial,trivial,trivial,trivial⟩ (hk _ ⟨true,.sl o 0 i cap,rows,?_,hall⟩)
  rw [←hlen,q3,Nat.mul_one]
end Go.Proofs
namespace Go.Grp
end Go.Grp
namespace Go.Proofs
open Go.Ab Go.Lie Go.Grp Go.Mx
variable {σ:PHeap} {K:PV→PHeap→Prop} {p:Int} {n na:Nat} {v w xs ys:List Int} {A B M:List (List Int)} {vA vB vM vv v0:PV}
theorem zGI {i:Nat} (hi:i<A.length):(mm p n A B).take (i+1)=(mm p n A B).take i++[vt p n A[i] B]:=by
 rw [List.take_succ_eq_append_getElem (by rw [Zh];exact hi)]
 simp [mm]
theorem zGg (hp:2≤p∧p≤7) (hA:Ma p B.length A) (hB:Ma p n B) (hn:n≤8) (hbl:B.length≤8) (hal:A.length≤8) (hvA:FII vA A) (hvB:FII vB B) {ca:PV} (hca:ca.one=true) (hk:∀v,FII v (mm p n A B)→K (.agg [.int .i64 p,.int .i64 n,v]) σ):
  zA Try.prog 46 [.agg [.int .i64 p,ca,vA],.agg [.int .i64 p,.int .i64 n,vB]] σ K:=by
 have h1:=hvA.one;have h2:=hvB.one;have hvBB:=hvB;obtain⟨wA,aA,rA,rfl,hrA⟩:=hvA;refine zA.gh ?_;generalize hH:((σ.new [.int .i64 p,ca,.fz wA aA A.length rA]).new [.int .i64 p,.int .i64 n,vB]).new [.int .i64 0,.int .i64 0,.fz true .nils 0 []]=H;have hHn:H.next=σ.next+3:=by rw [←hH];rfl
 have hHk:Keep σ H:=by rw [←hH];exact((zG σ _).new _).new _
 have ho1:H.obj (σ.next+1)=some [.int .i64 p,.int .i64 n,vB]:=by rw [←hH];simp only [pwA,seval,-iQ0]
 refine zB mix Try.func46 ?_
 conv=>arg 2;cbv
 refine zC rfl ?_;simp only [pwA,seval,-iQ0,h1,h2,hca];rw [hH];refine zM (fun m vs h'=>∃(i:Nat) (vC:PV) (rows:List PV),i≤A.length∧m=A.length-i∧vs=[.ptr (σ.next+1) 0,.ptr (σ.next+2) 0,.ptr (σ.next+3) 0,.fz wA aA A.length rA,.int .i64 A.length,.int .i64 i]∧Acc3 H h' p n vC i rows∧All2 FI rows ((mm p n A B).take i)) A.length ?_ ?_
 ·exact⟨0,_,[],by omega,by omega,rfl,⟨zG H _,by rw [Zw,if_pos rfl],Nat.lt_succ_self _,PAcc.nil _ _ _⟩,by rw [List.take_zero];exact All2.nil _⟩
 rintro m vs h' ⟨i,vC,rows,hi,rfl,rfl,a,hall⟩
 have hob:=a.obj;have hlt0:=a.lt;rw [hHn]at hob hlt0
 have r2:h'.rd1 (σ.next+3) 2=some vC:=by rw [qw hob];rfl
 have hor:h'.obj (σ.next+2)=some [.int .i64 0,.int .i64 0,.fz true .nils 0 []]:=by rw [a.keep.obj _ (by omega),←hH];simp only [pwA,seval,-iQ0]
 have ho1':h'.obj (σ.next+1)=some [.int .i64 p,.int .i64 n,vB]:=by rw [a.keep.obj _ (by omega)];exact ho1
 have rb:h'.rd (σ.next+1) 0 3=some [.int .i64 p,.int .i64 n,vB]:=by rw [zAD ho1'];rfl
 simp only [pwA,seval,-iQ0];refine iteI (fun hlt=>?_) fun hge=>?_
 rotate_left
 ·have hie:i=A.length:=by omega
  subst hie;have rd:h'.rd (σ.next+3) 0 3=some [.int .i64 p,.int .i64 n,vC]:=by rw [zAD hob];rfl
  have hwr:h'.wr (σ.next+2) 0 [.int .i64 p,.int .i64 n,vC]=some (h'.set (σ.next+2) [.int .i64 p,.int .i64 n,vC]):=by
   rw [zCS hor,if_pos ⟨by simp,by simp only [List.all_cons,List.all_nil,a.acc.one];rfl⟩];rfl
  simp only [pwA,seval,-iQ0,rd,hwr];rw [List.take_of_length_le (by rw [Zh];exact Nat.le_refl _)]at hall
  exact a.out hHk (by omega) (by omega) hall hk
 obtain⟨w4,a4,hr⟩:=hrA.rowI hlt;have hrow:=hA _ (List.getElem_mem hlt);have hvl:=(vt_ve (by omega:0<p) hB hrow.len).len
 simp only [pwA,seval,-iQ0,hlt,hr,r2,rb];refine zCr hp hB hrow hn hbl hvBB ⟨w4,a4,rfl⟩ fun z hz=>?_
 have hzz:=hz;obtain⟨wz,az,rfl⟩:=hz;have hne:¬σ.next+3=h'.next:=by omega
 simp only [pwA,seval,-iQ0,r2,hne];refine PAcc.pushS (σb:=H) (bytes:=24) a.keep (a.acc.low (Nat.le_succ _)) rfl (by omega) (by omega) fun v' h2 k2 a2 o2 n2 l2=>?_
 have hob2:h2.obj (σ.next+3)=some [.int .i64 p,.int .i64 n,vC]:=by rw [o2 _ hlt0 (a.acc.ne' (by omega))];exact hob
 have hwr:h2.wr (σ.next+3) 2 [v']=some (h2.set (σ.next+3) [.int .i64 p,.int .i64 n,v']):=by
  rw [zCS hob2,if_pos ⟨by simp,by simp [a2.one]⟩];rfl
 simp only [pwA,seval,-iQ0,hwr,a2.cells,wrapS hlt (by omega:A.length≤4611686018427387904)]
 refine⟨_,by omega,i+1,v',rows++[.fz wz az (vt p n A[i] B).length (pis (vt p n A[i] B))],by omega,rfl,rfl,⟨k2.set (by omega) _,by rw [hHn,ZR,if_pos rfl],by rw [hHn];show σ.next+3<h2.next;omega,?_⟩,?_⟩
 ·exact(PSl.setO (a2.high (b':=H.next+1) fun t ht=>n2 t (by omega)) (by omega) _).acc
 ·rw [zGI hlt]
  exact hall.snoc hzz
end Go.Proofs
namespace Go.Grp
end Go.Grp
namespace Go.Proofs
open Go.Ab Go.Lie Go.Grp Go.Mx
variable {σ:PHeap} {K:PV→PHeap→Prop} {p:Int} {n na:Nat} {v w xs ys:List Int} {A B M:List (List Int)} {vA vB vM vv v0:PV}
theorem zFk (hp:2≤p∧p≤7) (hA:Ma p n A) (hv:Ve p A.length v) (hn:n≤8) (hal:A.length≤8) (hvA:FII vA A) (hvv:FI vv v) (hk:∀z,FI z (vt p n v A)→K z σ):
  zA Try.prog 76 [.int .i64 p,vv,vA,.int .i64 n] σ K:=by
 have h1:=hvA.one;have hvl:=hv.len;obtain⟨wv,av,rfl⟩:=hvv;obtain⟨wA,aA,rA,rfl,hrA⟩:=hvA;have hl:=(vt_ve (by omega:0<p) hA hv.len).len
 refine zA.gh ?_;refine zB mix Try.func76 ?_
 conv=>arg 2;cbv
 refine zC rfl ?_;simp only [pwA,seval,-iQ0,List.length_replicate,zBQ,mk8 (n:=n) (by omega),mkL (n:=n) (by omega)]
 refine zM (fun m vs h'=>∃i:Nat,i≤v.length∧m=v.length-i∧vs=[.int .i64 p,.fz wv av v.length (pis v),.fz wA aA A.length rA,.sl σ.next 0 n (.known n),.int .i64 i]∧h'=σ.new (pis (vmul p n v A i))) v.length ?_ ?_
 ·exact⟨0,by omega,by omega,rfl,rfl⟩
 rintro m vs h' ⟨i,hi,rfl,rfl,rfl⟩
 by_cases hlt:i<v.length
 rotate_left
 ·have hie:i=v.length:=by omega
  subst hie;simp only [pwA,seval,-iQ0,Nat.lt_irrefl];exact Gh.finF (s:=σ.next) (zG σ _) (by simp only [pwA,seval,-iQ0];rfl) (Nat.le_refl _) (ZI _ _) (show capOK (.known n) n=true by simp [capOK]) fun o=>hk _ ⟨true,.sl o 0 n (.known n),by rw [hl]⟩
 have hiA:i<A.length:=by omega
 obtain⟨w4,a4,hr⟩:=hrA.rowI hiA;have hrow:=hA.row hiA;rw [qC hiA]at hrow
 have hrl:=hrow.len;have hml:=ZP (v:=v) hA (i:=i) (by omega)
 have hve:=zCp (v:=v) (by omega:0<p) hA (i:=i) (by omega)
 have bx:=hv.bd i;rw [at_eq hlt]at bx
 have hvs:vmul p n v A (i+1)=vstep p v[i] A[i] (vmul p n v A i):=by rw [vmul,at_eq hlt,qC hiA]
 generalize hacc:vmul p n v A i=acc at *
 have hvsl:(vstep p v[i] A[i] acc).length=acc.length:=qB (by omega)
 simp only [pwA,seval,-iQ0,hlt,hiA];refine zM (fun m vs h'=>∃j:Nat,j≤n∧m=n-j∧vs=[.int .i64 p,.fz wv av v.length (pis v),.fz wA aA A.length rA,.sl σ.next 0 n (.known n),.int .i64 i,.int .i64 j]∧h'=σ.new (pis ((vstep p v[i] A[i] acc).take j++acc.drop j))) n ?_ ?_
 ·exact⟨0,by omega,by omega,rfl,by rw [List.take_zero,List.drop_zero,List.nil_append]⟩
 rintro m vs h' ⟨j,hj,rfl,rfl,rfl⟩
 by_cases hjn:j<n
 rotate_left
 ·have hje:j=n:=by omega
  subst hje;simp only [pwA,seval,-iQ0,Nat.lt_irrefl,wrapS hlt (by omega:v.length≤4611686018427387904)]
  refine⟨_,by omega,i+1,by omega,rfl,rfl,?_⟩
  rw [List.drop_of_length_le (by omega),List.append_nil,List.take_of_length_le (by omega),hvs]
 have hjr:j<A[i].length:=by omega
 have hja:j<acc.length:=by omega
 have c1:=hrow.bd j;have c2:=hve.bd j;rw [at_eq hjr]at c1
 rw [at_eq hja]at c2
 have c3:=sm6 (a:=v[i]) (b:=A[i][j]) (by omega) (by omega)
 have e1:=zHa hvsl hja;have hlen:j+1≤((vstep p v[i] A[i] acc).take j++acc.drop j).length:=by simp;omega
 have ew1:IntKind.i64.wrap (v[i] * A[i][j])=v[i] * A[i][j]:=wrap64 (by omega) (by omega)
 have ew2:IntKind.i64.wrap (acc[j] + v[i] * A[i][j])=acc[j] + v[i] * A[i][j]:=wrap64 (by omega) (by omega)
 have hp0:¬p=0:=by omega
 have et:(acc[j] + v[i] * A[i][j]).tmod p=(acc[j] + v[i] * A[i][j]) % p:=Int.tmod_eq_emod_of_nonneg (by omega)
 have hem:=Int.emod_nonneg (acc[j] + v[i] * A[i][j]) hp0;have hem2:=Int.emod_lt_of_pos (acc[j] + v[i] * A[i][j]) (by omega:0<p)
 have ew3:IntKind.i64.wrap ((acc[j] + v[i] * A[i][j]) % p)=(acc[j] + v[i] * A[i][j]) % p:=wrap64 (by omega) (by omega)
 simp only [pwA,seval,-iQ0,hjn,hiA,hr,hjr,hlt,qO,qY,gi hlt,gi hjr,e1,hlen,ew1,ew2,hp0,et,ew3,wrapS hjn (by omega:n≤4611686018427387904)]
 refine⟨_,by omega,j+1,by omega,rfl,rfl,?_⟩
 rw [Zm (by simp;omega)]
 have hjv:j<(vstep p v[i] A[i] acc).length:=by omega
 rw [←zHZ hvsl hjv,zDB (by omega) hja]
theorem zDc (hp:2≤p∧p≤7) (hA:Ma p B.length A) (hB:Ma p n B) (hn:n≤8) (hbl:B.length≤8) (hal:A.length≤8) (hvA:FII vA A) (hvB:FII vB B) (hk:∀v,FII v (mm p n A B)→K v σ):
  zA Try.prog 48 [.int .i64 p,vA,vB,.int .i64 n] σ K:=by
 have h1:=hvA.one;have h2:=hvB.one;have hvBB:=hvB;obtain⟨wA,aA,rA,rfl,hrA⟩:=hvA;refine zA.gh ?_;refine zB mix Try.func48 ?_
 conv=>arg 2;cbv
 refine zC rfl ?_;simp only [pwA,seval,-iQ0];refine zM (fun m vs h'=>∃(i:Nat) (vC:PV) (rows:List PV),i≤A.length∧m=A.length-i∧vs=[.int .i64 p,.fz wA aA A.length rA,vB,.int .i64 n,vC,.int .i64 i]∧Keep σ h'∧PSl σ.next 1 h' vC i rows∧All2 FI rows ((mm p n A B).take i)) A.length ?_ ?_
 ·exact⟨0,_,[],by omega,by omega,rfl,zG σ _,PSl.new _ 1 rfl (Nat.le_refl _),by rw [List.take_zero];exact All2.nil _⟩
 rintro m vs h' ⟨i,vC,rows,hi,rfl,rfl,hkp,ha,hall⟩
 simp only [pwA,seval,-iQ0];refine iteI (fun hlt=>?_) fun hge=>?_
 rotate_left
 ·have hie:i=A.length:=by omega
  subst hie;rw [List.take_of_length_le (by rw [Zh];exact Nat.le_refl _)]at hall
  exact ha.fin hkp (hall.bI 0) fun o cap=>hk _ ⟨true,_,rows,by rw [Zh],hall⟩
 obtain⟨w4,a4,hr⟩:=hrA.rowI hlt;have hrow:=hA _ (List.getElem_mem hlt);simp only [pwA,seval,-iQ0,hlt,hr];refine zFk hp hB hrow hn hbl hvBB ⟨w4,a4,rfl⟩ fun z hz=>?_
 have hzz:=hz;obtain⟨wz,az,rfl⟩:=hz;simp only [pwA,seval,-iQ0];refine PSl.push (bytes:=24) hkp ha (by omega) (by omega) fun v' h2 k2 a2=>?_
 simp only [pwA,seval,-iQ0,wrapS hlt (by omega:A.length≤4611686018427387904)]
 refine⟨_,by omega,i+1,v',_,by omega,rfl,rfl,k2,a2,?_⟩
 rw [zGI hlt];exact hall.snoc hzz
theorem zFn {xs ys:List (List Int)} (hU:FII vA xs) (hV:FII vB ys) (hx:xs.length≤1048576) (hxl:∀x∈xs,x.length≤1048576) (hk:∀t:Bool,(t=true↔xs=ys)→K (.bool t) σ):zA Try.prog 91 [vA,vB] σ K:=by
 have fl:∀{A:Prop},¬A→((false=true)↔A):=fun h=>⟨fun x=>(by cases x),fun x=>absurd x h⟩
 obtain⟨wA,aA,rA,rfl,hrA⟩:=hU;obtain⟨wB,aB,rB,rfl,hrB⟩:=hV;refine zB mix Try.func91 ?_
 conv=>arg 2;cbv
 refine zC rfl ?_
 by_cases hl:xs.length=ys.length
 rotate_left
 ·have hl':¬(xs.length:Int)=(ys.length:Int):=by omega
  simp only [pwA,seval,-iQ0,hl'];exact hk _ (fl fun h=>hl (by rw [h]))
 have hl':(xs.length:Int)=(ys.length:Int):=by omega
 simp only [pwA,seval,-iQ0,eq_true hl'];refine zM (fun m vs h'=>∃i:Nat,i≤xs.length∧m=xs.length-i∧vs=[.fz wA aA xs.length rA,.fz wB aB ys.length rB,.int .i64 i]∧σ=h'∧xs.take i=ys.take i) xs.length ?_ ?_
 ·exact⟨0,by omega,by omega,rfl,rfl,rfl⟩
 rintro m vs h' ⟨i,hi,rfl,rfl,rfl,heq⟩
 simp only [pwA,seval,-iQ0];refine iteI (fun hlt=>?_) fun hge=>?_
 rotate_left
 ·have hie:i=xs.length:=by omega
  subst hie;rw [List.take_length,hl,List.take_length]at heq
  exact hk _ ⟨fun _=>heq,fun _=>rfl⟩
 have hlt2:i<ys.length:=by omega
 obtain⟨w4,a4,hr⟩:=hrA.rowI hlt;obtain⟨w5,a5,hr2⟩:=hrB.rowI hlt2;have hb:=hxl _ (List.getElem_mem hlt);simp only [pwA,seval,-iQ0,hlt,hlt2,hr,hr2];refine zG5 rfl rfl (by omega) ?_
 by_cases he:xs[i]=ys[i]
 ·simp only [pwA,seval,-iQ0,he,wrapS hlt (by omega:xs.length≤4611686018427387904)]
  refine⟨_,by omega,i+1,by omega,rfl,rfl,?_⟩
  rw [List.take_succ_eq_append_getElem hlt,List.take_succ_eq_append_getElem hlt2,heq,he]
 ·simp only [pwA,seval,-iQ0,he]
  refine hk _ (fl fun h=>he ?_)
  subst h;rfl
end Go.Proofs
namespace Go.Grp
end Go.Grp
namespace Go.Proofs
open Go.Ab Go.Lie Go.Grp Go.Mx
variable {σ:PHeap} {K:PV→PHeap→Prop} {p:Int} {n na:Nat} {v w x xs ys:List Int} {A B M:List (List Int)} {vA vB vM vv vx v0:PV} {O:List Int} {P:List (List Int)} {C:List (List (List Int))} {vO vP vC:PV} {s:Nat}
def rl (l:Int) (c k:Nat):List Int:=List.replicate k l++List.replicate (c-k) 0
end Go.Proofs
namespace Go.Grp
end Go.Grp
namespace Go.Proofs
open Go.Ab Go.Lie Go.Grp Go.Mx
variable {σ:PHeap} {K:PV→PHeap→Prop} {p d:Int} {n na:Nat} {v w x xs ys:List Int} {A B M:List (List Int)} {As:List (List (List Int))} {vA vB vM vv vx v0:PV} {O:List Int} {P:List (List Int)} {C:List (List (List Int))} {vO vP vC:PV} {s:Nat}
theorem zCF (hp:0<p):isVec xs p (n:Int)↔Ve p n xs:=by
 constructor
 ·rintro ⟨h1,h2⟩
  refine⟨by omega,fun j=>?_⟩
  rcases Nat.lt_or_ge j xs.length with g|g
  ·rw [at_eq g]
   have:=h2 _ (List.getElem_mem g)
   omega
  ·rw [at_ge g];omega
 ·intro h
  refine⟨by rw [h.len],fun y hy=>?_⟩
  obtain⟨j,hj,rfl⟩:=List.mem_iff_getElem.1 hy
  have:=h.bd j
  rw [at_eq hj]at this
  omega
theorem zEY {w:Bool} {a:AV} {xs:List Int} {p:Int} {n:Nat} {l:Nat} (hl:l=xs.length) (hb:xs.length≤4611686018427387904) (hp:0<p) (hp2:p<4611686018427387904) (hk:K (.bool (decide (isVec xs p n))) σ):
  zA Try.prog 79 [.int .i64 p,.int .i64 n,.fz w a l (pis xs)] σ K:=by
 subst hl;refine zB mix Try.func79 ?_
 conv=>arg 2;cbv
 refine zC rfl ?_;simp only [pwA,seval,-iQ0]
 split
 ·rename_i hl
  refine zM (fun m vs h'=>∃i:Nat,i≤xs.length∧m=xs.length-i∧vs=[.int .i64 p,.fz w a xs.length (pis xs),.int .i64 i]∧h'=σ∧∀x∈xs.take i,0≤x∧x≤p-1) xs.length ?_ ?_
  ·exact⟨0,by omega,by omega,rfl,rfl,by simp⟩
  ·rintro m vs h' ⟨i,hi,rfl,rfl,rfl,hall⟩
   simp only [pwA,seval,-iQ0]
   split
   ·rename_i hlt
    have hw1:IntKind.i64.wrap (p-1)=p-1:=wrap64 (by omega) (by omega)
    simp only [pwA,seval,-iQ0,hlt,qO,gi hlt,wrapS hlt hb,hw1];refine zEZ ?_;simp only [pwA,seval,-iQ0,wrapS hlt hb]
    split
    ·exact⟨_,by omega,i+1,by omega,rfl,rfl,zBq hlt hall (by assumption)⟩
    ·rename_i hn
     exact pkf hk fun hv=>hn (hv.2 _ (List.getElem_mem hlt))
   ·refine pkt hk ⟨hl,zAb (by omega) hall⟩
 ·rename_i hne
  exact pkf hk fun hv=>hne hv.1
theorem zF8 (hp:isP p) (hn:n≤8) (hal:A.length≤8) (sz:∀r∈A,r.length≤1048576) (hvA:FII vA A) (hk:∀t:Bool,(t=true↔Ma p n A)→K (.bool t) σ):zA Try.prog 37 [.agg [.int .i64 p,.int .i64 n,vA]] σ K:=by
 have fl:∀{A:Prop},¬A→((false=true)↔A):=fun h=>⟨fun x=>(by cases x),fun x=>absurd x h⟩
 have h1:=hvA.one;have hpb:=hp.bd;obtain⟨wA,aA,rA,rfl,hrA⟩:=hvA;refine zA.gh ?_;have hkp:=zG σ [.int .i64 p,.int .i64 n,.fz wA aA A.length rA];refine zB mix Try.func37 ?_
 conv=>arg 2;cbv
 refine zC rfl ?_;simp only [pwA,seval,-iQ0,h1];refine Qy ?_;simp only [pwA,seval,-iQ0,hp];refine zA6 ?_;have hn0:(0:Int)≤(n:Int)∧(n:Int)≤8:=by omega
 have ha0:¬(8:Int)<(A.length:Int):=by omega
 simp only [pwA,seval,-iQ0,hn0,ha0];refine zM (fun m vs h'=>∃i:Nat,i≤A.length∧m=A.length-i∧vs=[.ptr σ.next 0,.fz wA aA A.length rA,.int .i64 A.length,.int .i64 i]∧σ.new [.int .i64 p,.int .i64 n,.fz wA aA A.length rA]=h'∧∀r∈A.take i,Ve p n r) A.length ?_ ?_
 ·exact⟨0,by omega,by omega,rfl,rfl,by simp⟩
 rintro m vs h' ⟨i,hi,rfl,rfl,rfl,hall⟩
 simp only [pwA,seval,-iQ0];refine iteI (fun hlt=>?_) fun hge=>?_
 rotate_left
 ·exact Gh.fin0 hkp trivial (hk _ ⟨fun _ r hr=>hall r (by rwa [List.take_of_length_le (by omega)]),fun _=>rfl⟩)
 obtain⟨w4,a4,hr⟩:=hrA.rowI hlt;have hb:=sz _ (List.getElem_mem hlt);simp only [pwA,seval,-iQ0,hlt,hr];refine zFp rfl (by omega) (by omega) (by omega) ?_
 by_cases hv:isVec A[i] p (n:Int)
 ·simp only [pwA,seval,-iQ0,hv,wrapS hlt (by omega:A.length≤4611686018427387904)]
  refine⟨_,by omega,i+1,by omega,rfl,rfl,fun r hr=>?_⟩
  rw [List.take_succ_eq_append_getElem hlt,List.mem_append,List.mem_singleton]at hr
  rcases hr with hr|rfl
  ·exact hall r hr
  ·exact(zCF (by omega)).1 hv
 ·simp only [pwA,seval,-iQ0,hv]
  exact Gh.fin0 hkp trivial (hk _ (fl fun h=>hv ((zCF (by omega)).2 (h _ (List.getElem_mem hlt)))))
end Go.Proofs
namespace Go.Grp
end Go.Grp
namespace Go.Proofs
open Go.Ab Go.Lie Go.Grp Go.Mx
variable {σ:PHeap} {K:PV→PHeap→Prop} {p d:Int} {n na:Nat} {v w x xs ys:List Int} {A B M vals:List (List Int)} {As:List (List (List Int))} {vA vB vM vv vx vw vV v0:PV} {O:List Int} {P:List (List Int)} {C:List (List (List Int))} {vO vP vC:PV} {s sp:Nat}
theorem zI9 (hp:0<p):Ve p n (List.replicate n 0):=by
 refine⟨by simp,fun j=>?_⟩
 rcases Nat.lt_or_ge j n with g|g
 ·rw [at_eq (by simpa using g),List.getElem_replicate];omega
 ·rw [at_ge (by simpa using g)];omega
end Go.Proofs
namespace Go.Lie
open Go.Ab
variable {p:Int} {n:Nat} {W:List (List Int)}
theorem Canon.len {L u:List (List Int)} (c:Canon p n W L u):u.length≤n:=zHM (fun v hv=>(c.base.led v hv).2.1) c.base.asc
end Go.Lie
namespace Go.Lie
open Go.Ab Go.Mx
variable {p:Int} {n:Nat}
def W0 (n:Nat):List (List Int):=List.replicate n (List.replicate n 0)
theorem w0_at (i j:Nat):w_ (W0 n) i j=0:=by
 unfold w_ W0;rcases Nat.lt_or_ge i n with h|h
 ·rw [List.getD_eq_getElem?_getD,List.getElem?_replicate,if_pos h];exact zCi _ _
 ·rw [List.getD_eq_getElem?_getD,List.getElem?_replicate,if_neg (by omega)];rfl
theorem W0_ok (hp:okp p) (n:Nat):OkW p n (W0 n):=by
 refine⟨hp,by simp [W0],fun i h=>?_⟩
 have e:(W0 n)[i]=List.replicate n 0:=by simp [W0]
 rw [e];refine⟨by simp,fun x hx=>?_,fun j _=>zCi _ _⟩
 rw [(List.mem_replicate.1 hx).2]
 have:=hp.1
 omega
theorem eqv0 {f g:Vec} (h:∀j,j<n→∃k:Int,f j=g j+k*p) (h':∀j,n≤j→f j=g j):Eqv p n (W0 n) f g:=by
 have hc:∀j,∃k:Int,j<n→f j=g j+k*p:=fun j=>by
  by_cases hj:j<n
  ·obtain⟨k,hk⟩:=h j hj;exact⟨k,fun _=>hk⟩
  ·exact⟨0,fun h=>absurd h hj⟩
 refine⟨fun j=>-(Classical.choose (hc j)),fun j=>?_⟩
 by_cases hj:j<n
 ·rw [Qi (k:=j) hj]
  ·have:=Classical.choose_spec (hc j) hj
   rw [rel,w0_at,if_pos rfl,this]
   grind
  ·intro i hi hne
   rw [rel,w0_at,if_neg (by omega)]
   simp
 ·rw [ZT]
  ·rw [h' j (by omega)];omega
  ·intro i hi
   rw [rel,w0_at,if_neg (by omega)]
   simp
theorem zES {a b:Int}:a % p=b % p→∃k:Int,a=b+k*p:=fun h=>by
 refine⟨a / p-b / p,?_⟩;have h1:=Int.emod_add_mul_ediv a p;have h2:=Int.emod_add_mul_ediv b p
 grind
theorem zAJ {f g:Vec} (h:∀j,j<n→f j % p=g j % p) (h':∀j,n≤j→f j=g j):Eqv p n (W0 n) f g:=eqv0 (fun j hj=>zES (h j hj)) h'
theorem norm0 (hp:okp p) {v:List Int} (hv:v.length=n):norm p (W0 n) v=v.map (· % p):=by
 have o:=W0_ok hp n;have h2:=hp.1;have hl:(v.map (· % p)).length=n:=by simp [hv]
 refine zCZ o (QL o hv) hl (QI o hv) ?_ ((ZW o hv).trans (zAJ (fun j hj=>?_) fun j hj=>?_))
 ·intro x hx
  obtain⟨y,_,rfl⟩:=List.mem_map.1 hx;have h3:=Int.emod_nonneg y (by omega:p≠0)
  have h4:=Int.emod_lt_of_pos y (by omega:0<p)
  omega
 ·have e:at_ (v.map (· % p)) j=at_ v j % p:=by rw [at_eq (v:=v.map (· % p)) (by omega),at_eq (v:=v) (by omega),List.getElem_map]
  rw [e,Int.emod_emod]
 ·rw [at_ge (v:=v.map (· % p)) (by omega),at_ge (v:=v) (by omega)]
theorem el_ve {v:List Int} (hp:0<p) (h:El p n v):Ve p n v:=⟨h.1,fun j=>by have:=h.2.at hp j;omega⟩
theorem ve_el {v:List Int} (h:Ve p n v):El p n v:=⟨h.len,fun x hx=>by
 obtain⟨j,hj,rfl⟩:=List.mem_iff_getElem.1 hx
 have:=h.bd j
 rw [at_eq hj]at this
 omega⟩
theorem zMJ {v:List Int} (hv:El p n v):Eqv p n (W0 n) (fun j=>p*at_ v j) fun _=>0:=eqv0 (fun j _=>⟨at_ v j,by grind⟩) fun j hj=>by rw [hv.beyond hj];simp
theorem p_gen {v:List Int} (hv:El p n v) (u:List (List Int)):Gen p n (W0 n) u fun j=>p*at_ v j:=(zH u).eqv _ _ (zMJ hv) (zH u).zero
theorem base0:∀{u:List (List Int)},(∀v∈u,Led p n v)→Asc u→Base p n (W0 n) u
 | [],_,_=>.nil
 | v::u,h,ha=>by
  obtain⟨h1,h2⟩:=List.pairwise_cons.1 ha;exact .cons (h v (by simp)) h1 (p_gen (h v (by simp)).1 u) (base0 (fun w hw=>h w (by simp [hw])) h2)
theorem zDl (hp:0<p) {x:Int} {r o:List Int} (hr:r.length=n) (ho:o.length=n):El p n (vstep p x r o):=by
 have hl:(vstep p x r o).length=n:=by rw [qB (by omega)];exact ho
 refine ve_el ⟨hl,fun j=>?_⟩
 by_cases hj:j<n
 ·rw [ZO (by omega) (by omega)]
  exact⟨Int.emod_nonneg _ (by omega),Int.emod_lt_of_pos _ hp⟩
 ·rw [at_ge (by omega)];omega
theorem zAn (x:Int) {r o:List Int} (hr:r.length=n) (ho:o.length=n):Eqv p n (W0 n) (at_ (vstep p x r o)) fun j=>at_ o j+x*at_ r j:=by
 have hl:(vstep p x r o).length=n:=by rw [qB (by omega)];exact ho
 refine zAJ (fun j hj=>by rw [ZO (by omega) (by omega),Int.emod_emod]) fun j hj=>?_
 rw [at_ge (by omega),at_ge (by omega),at_ge (by omega:r.length≤j)];simp
def scl (p k:Int) (v:List Int):List Int:=v.map fun x=>x*k % p
theorem Zl {k:Int} {v:List Int}:(scl p k v).length=v.length:=by simp [scl]
theorem Za {k:Int} {v:List Int} (j:Nat):at_ (scl p k v) j=at_ v j*k % p:=by
 by_cases hj:j<v.length
 ·rw [at_eq (by rw [Zl];exact hj),at_eq hj];simp [scl]
 ·rw [at_ge (by rw [Zl];omega),at_ge (by omega)];simp
theorem zDs (hp:0<p) {k:Int} {v:List Int} (hv:v.length=n):El p n (scl p k v):=
 ve_el ⟨by rw [Zl];exact hv,fun j=>by rw [Za];exact⟨Int.emod_nonneg _ (by omega),Int.emod_lt_of_pos _ hp⟩⟩
theorem zGC (k:Int) {v:List Int} (hv:v.length=n):Eqv p n (W0 n) (at_ (scl p k v)) fun j=>k*at_ v j:=by
 refine zAJ (fun j hj=>by rw [Za,Int.emod_emod,Int.mul_comm]) fun j hj=>?_
 rw [at_ge (by rw [Zl];omega),at_ge (by omega)];simp
theorem zL8 (hp:okp p) {x v:List Int} (hx:x.length=n) (hv:v.length=n):red1 p (W0 n) x v=vstep p (-(at_ x (dep v))) v x:=by
 have hl:(lmix 1 x (-(at_ x (dep v))) v).length=n:=by rw [qy (by omega)];exact hx
 have hl2:(vstep p (-(at_ x (dep v))) v x).length=n:=by rw [qB (by omega)];exact hx
 rw [red1,norm0 hp hl];refine zAG (by rw [List.length_map,hl,hl2]) fun j hj=>?_
 rw [List.length_map,hl]at hj
 rw [at_eq (by rw [List.length_map,hl];exact hj),List.getElem_map,←at_eq (by rw [hl];exact hj),Zz (by omega),ZO (by omega) (by omega)]
 congr 1;omega
end Go.Lie
namespace Go.Lie
open Go.Ab Go.Mx
variable {p:Int} {n:Nat} {L u:List (List Int)} {x y:List Int}
theorem Canon.off (c:Canon p n (W0 n) L u) {v w:List Int} (hv:v∈u) (hw:w∈u) (h:dep v≠dep w):at_ v (dep w)=0:=by
 rcases Nat.lt_or_ge (dep v) (dep w)with g|g
 ·exact zDx c.base.asc c.red hv hw g
 ·exact qX (by omega)
theorem zL7 (ha:Asc u) (h:∀v∈u,∀w∈u,dep v≠dep w→at_ v (dep w)=0):Red u:=
 List.Pairwise.imp_of_mem (fun {a b} ha hb hlt=>h a ha b hb (by omega)) ha
theorem zIx (hl:∀v∈u,Led p n v) (ha:Asc u) (h:∀v∈u,∀w∈u,dep v≠dep w→at_ v (dep w)=0) (hg:∀f,Gen p n (W0 n) L f↔Gen p n (W0 n) u f):Canon p n (W0 n) L u:=⟨base0 hl ha,zL7 ha h,hg⟩
theorem zBV {A B:List (List Int)} (h1:∀v∈A,Gen p n (W0 n) B (at_ v)) (h2:∀v∈B,Gen p n (W0 n) A (at_ v)) (f:Vec):Gen p n (W0 n) A f↔Gen p n (W0 n) B f:=⟨ZX h1,ZX h2⟩
theorem zAL:Canon p n (W0 n) [] []:=⟨.nil,List.Pairwise.nil,fun _=>Iff.rfl⟩
theorem Canon.skip (c:Canon p n (W0 n) L u) (h:Gen p n (W0 n) u (at_ x)):Canon p n (W0 n) (L++[x]) u:=⟨c.base,c.red,fun f=>⟨ZX fun v hv=>by
  rcases List.mem_append.1 hv with e|e
  ·exact(c.gen _).1 (qU e)
  ·rw [List.mem_singleton.1 e];exact h,fun hf=>Q5 (fun v hv=>List.mem_append_left _ hv) ((c.gen f).2 hf)⟩⟩
theorem zDC (hp:okp p) (hu:∀v∈u,El p n v) (hx:El p n x):Gen p n (W0 n) u (fun j=>at_ x j-at_ (redL p (W0 n) u x) j):=zDy (W0_ok hp n) hu hx
theorem zJJ (hp:okp p) (c:Canon p n (W0 n) L u) (hx:El p n x):∀v∈u,at_ (redL p (W0 n) u x) (dep v)=0:=fun v hv=>
 (zGD (W0_ok hp n) c.base.led c.base.asc hx).1 v hv
theorem Canon.skip0 (hp:okp p) (c:Canon p n (W0 n) L u) (hx:El p n x) (h:dep (redL p (W0 n) u x)=n):Canon p n (W0 n) (L++[x]) u:=by
 have hr:=zAA (W0_ok hp n) c.base.els hx;refine c.skip ((zH u).eqv _ _ ?_ (zDC hp c.base.els hx));refine Eqv.of_eq fun j=>?_
 rcases Nat.lt_or_ge j n with g|g
 ·rw [qX (v:=redL p (W0 n) u x) (by omega)];omega
 ·rw [hr.beyond g];omega
def gOff (p:Int) (y o:List Int):List Int:=vstep p (p-at_ o (dep y)) y o
theorem zEj (hp:okp p) (hy:Led p n y) {o:List Int} (ho:Led p n o) (hne:dep o≠dep y):Led p n (gOff p y o)∧dep (gOff p y o)=dep o:=by
 have h2:=hp.1;have hyl:=hy.1.1;have hol:=ho.1.1;have hd:=ho.2.1;have hel:El p n (gOff p y o):=zDl (by omega) hyl hol
 have hat:∀j,j<n→at_ (gOff p y o) j=(at_ o j+(p-at_ o (dep y))*at_ y j) % p:=fun j hj=>ZO (by omega) (by omega)
 have hb:=fun j=>ho.1.at0 (W0_ok hp n) j
 have key:∀j,j≤dep o→at_ (gOff p y o) j=at_ o j:=fun j hj=>by
  rw [hat j (by omega)]
  rcases Nat.lt_or_ge (dep y) (dep o)with g|g
  ·rw [qX g,Int.sub_zero,Int.add_comm,Int.add_comm,show at_ o j+p*at_ y j=at_ o j+p*at_ y j from rfl,Int.add_mul_emod_self_left]
   have:=hb j
   exact Int.emod_eq_of_lt (by omega) (by omega)
  ·rw [qX (by omega:j<dep y),Int.mul_zero,Int.add_zero]
   have:=hb j
   exact Int.emod_eq_of_lt (by omega) (by omega)
 have hde:dep (gOff p y o)=dep o:=zAK (fun j hj=>by rw [key j (by omega)];exact qX hj) (by rw [key _ (Nat.le_refl _),ho.2.2];omega)
 exact⟨⟨hel,by omega,by rw [hde,key _ (Nat.le_refl _)];exact ho.2.2⟩,hde⟩
theorem zEi (hy:El p n y) {o:List Int} (ho:El p n o):Eqv p n (W0 n) (at_ (gOff p y o)) fun j=>at_ o j+(p-at_ o (dep y))*at_ y j:=zAn _ hy.1 ho.1
theorem Canon.put (hp:okp p) (c:Canon p n (W0 n) L u) (hx:El p n x) {k:Int} (hd:dep (redL p (W0 n) u x)<n) (hk:at_ (redL p (W0 n) u x) (dep (redL p (W0 n) u x))*k % p=1):
  Canon p n (W0 n) (L++[x]) (insD (u.map (gOff p (scl p k (redL p (W0 n) u x)))) (scl p k (redL p (W0 n) u x)))∧dep (scl p k (redL p (W0 n) u x))=dep (redL p (W0 n) u x)∧Led p n (scl p k (redL p (W0 n) u x))∧∀v∈u,dep v≠dep (redL p (W0 n) u x):=by
 have h2:=hp.1;have o:=W0_ok hp n;have hr:=zAA o c.base.els hx;have hz:=zJJ hp c hx;have hg:=zDC hp c.base.els hx;generalize redL p (W0 n) u x=r at *
 have hnz:at_ r (dep r)≠0:=QC (by rw [hr.1];exact hd)
 have hde:dep (scl p k r)=dep r:=zAK (fun j hj=>by rw [Za,qX hj];simp) (by rw [Za,hk];omega)
 have hy:Led p n (scl p k r):=⟨zDs (by omega) hr.1,by omega,by rw [hde,Za,hk]⟩
 have hyz:∀v∈u,at_ (scl p k r) (dep v)=0:=fun v hv=>by rw [Za,hz v hv];simp
 have hne:∀v∈u,dep v≠dep r:=fun v hv e=>hnz (by rw [←e];exact hz v hv)
 have hyr:Gen p n (W0 n) [scl p k r] (at_ r):=by
  have hb:=hr.at0 o;refine(zH _).eqv _ (fun j=>at_ r (dep r)*at_ (scl p k r) j) (zAJ (fun j hj=>?_) fun j hj=>?_) ((zH _).mul _ _ (qU (by simp)))
  ·obtain⟨q,hq⟩:=zES (p:=p) (a:=at_ r (dep r)*k) (b:=1) (by rw [hk];exact(Int.emod_eq_of_lt (by omega) (by omega)).symm)
   show at_ r j % p=at_ r (dep r)*at_ (scl p k r) j % p;rw [Za,zIZ]
   have:at_ r (dep r)*(at_ r j*k)=at_ r j+(at_ r j*q)*p:=by grind
   rw [this,Int.add_mul_emod_self_right]
  ·show at_ r j=at_ r (dep r)*at_ (scl p k r) j
   rw [Za,hr.beyond hj];simp
 have hry:Gen p n (W0 n) [r] (at_ (scl p k r)):=(zH _).eqv _ _ (zGC k hr.1) ((zH _).mul _ _ (qU (by simp)))
 generalize hyy:scl p k r=y at *
 have hG:∀v∈u,Led p n (gOff p y v)∧dep (gOff p y v)=dep v:=fun v hv=>zEj hp hy (c.base.led v hv) (by rw [hde];exact hne v hv)
 have hm:∀w∈insD (u.map (gOff p y)) y,w=y∨∃v∈u,gOff p y v=w:=fun w hw=>by
  rcases Qm.1 hw with e|e
  ·exact .inl e
  ·obtain⟨v,hv,e⟩:=List.mem_map.1 e;exact .inr ⟨v,hv,e⟩
 refine⟨zIx (fun w hw=>?_) (zEb ?_ fun w hw=>?_) (fun v hv w hw hvw=>?_) (zBV (fun v hv=>?_) fun v hv=>?_),hde,hy,hne⟩
 ·rcases hm w hw with rfl | ⟨v,hv,rfl⟩
  ·exact hy
  ·exact(hG v hv).1
 ·unfold Asc
  rw [List.pairwise_map];refine List.Pairwise.imp_of_mem (fun {a b} ha hb h=>?_) c.base.asc
  rw [(hG a ha).2,(hG b hb).2];exact h
 ·obtain⟨v,hv,rfl⟩:=List.mem_map.1 hw
  rw [(hG v hv).2,hde];exact hne v hv
 ·have hat:∀v∈u,∀j,j<n→at_ (gOff p y v) j=(at_ v j+(p-at_ v (dep y))*at_ y j) % p:=fun v hv j hj=>ZO (by rw [hy.1.1,(c.base.led v hv).1.1]) (by rw [(c.base.led v hv).1.1];exact hj)
  rcases hm v hv with rfl|⟨v,hv',rfl⟩
  ·rcases hm w hw with rfl | ⟨w,hw',rfl⟩
   ·exact absurd rfl hvw
   ·rw [(hG w hw').2];exact hyz w hw'
  ·rcases hm w hw with rfl | ⟨w,hw',rfl⟩
   ·rw [hat v hv' _ hy.2.1,hy.2.2]
    rw [show at_ v (dep w)+(p-at_ v (dep w))*1=p by omega,Int.emod_self]
   ·rw [(hG w hw').2]at hvw ⊢
    rw [(hG v hv').2]at hvw
    rw [hat v hv' _ (c.base.led w hw').2.1,hyz w hw',c.off hv' hw' hvw]
    simp
 ·have hyI:y∈insD (u.map (gOff p y)) y:=Qm.2 (.inl rfl)
  have hyG:Gen p n (W0 n) (insD (u.map (gOff p y)) y) (at_ y):=qU hyI;have hvG:∀v∈u,Gen p n (W0 n) (insD (u.map (gOff p y)) y) (at_ v):=fun v hv=>by
   have h1:Gen p n (W0 n) (insD (u.map (gOff p y)) y) (at_ (gOff p y v)):=qU (Qm.2 (.inr (List.mem_map_of_mem hv)));refine(zH _).eqv _ _ (Eqv.of_eq fun j=>?_) ((zH _).add _ _ ((zH _).eqv _ _ (zEi hy.1 (c.base.led v hv).1).symm h1) ((zH _).mul (-(p-at_ v (dep y))) _ hyG))
   show at_ v j=at_ v j+(p-at_ v (dep y))*at_ y j + -(p-at_ v (dep y))*at_ y j;rw [Int.neg_mul];omega
  rcases List.mem_append.1 hv with e|e
  ·exact ZX hvG ((c.gen _).1 (qU e))
  ·rw [List.mem_singleton.1 e]
   refine(zH _).eqv _ (fun j=>(at_ x j-at_ r j)+at_ r j) (Eqv.of_eq fun j=>by omega) ((zH _).add _ _ (ZX hvG hg) ?_)
   exact ZX (fun w hw=>by rw [List.mem_singleton.1 hw];exact hyG) hyr
 ·have hxG:Gen p n (W0 n) (L++[x]) (at_ x):=qU (by simp)
  have huG:∀w∈u,Gen p n (W0 n) (L++[x]) (at_ w):=fun w hw=>Q5 (fun z hz=>List.mem_append_left _ hz) ((c.gen _).2 (qU hw))
  have hrG:Gen p n (W0 n) (L++[x]) (at_ r):=(zH _).eqv _ (fun j=>at_ x j + -1*(at_ x j-at_ r j)) (Eqv.of_eq fun j=>by omega) ((zH _).add _ _ hxG ((zH _).mul (-1) _ (ZX huG hg)))
  have hyG:Gen p n (W0 n) (L++[x]) (at_ y):=ZX (fun w hw=>by rw [List.mem_singleton.1 hw];exact hrG) hry
  rcases hm v hv with rfl|⟨w,hw,rfl⟩
  ·exact hyG
  ·exact(zH _).eqv _ _ (zEi hy.1 (c.base.led w hw).1) ((zH _).add _ _ (huG w hw) ((zH _).mul _ _ hyG))
structure Ech (p:Int) (n:Nat) (L A:List (List Int)) (d c:Nat):Prop where
 el:∀r∈A,El p n r
 gen:∀f,Gen p n (W0 n) L f↔Gen p n (W0 n) A f
 led:∀i,i<d→dep (row A i)<c∧at_ (row A i) (dep (row A i))=1
 asc:∀i j,i<j→j<d→dep (row A i)<dep (row A j)
 col:∀i,i<d→∀k,k<A.length→k≠i→at_ (row A k) (dep (row A i))=0
 low:∀k,d≤k→k<A.length→∀j,j<c→at_ (row A k) j=0
 dl:d≤A.length
 cn:c≤n
theorem Ech.start (h:∀r∈L,El p n r):Ech p n L L 0 0:=⟨h,fun _=>Iff.rfl,fun i hi=>by omega,fun i j _ hj=>by omega,fun i hi=>by omega,fun k _ _ j hj=>by omega,by omega,by omega⟩
theorem Ech.skip {A:List (List Int)} {d c:Nat} (e:Ech p n L A d c) (hc:c<n) (h:∀k,d≤k→k<A.length→at_ (row A k) c=0):Ech p n L A d (c+1):=
 ⟨e.el,e.gen,fun i hi=>⟨by have:=(e.led i hi).1;omega,(e.led i hi).2⟩,e.asc,e.col,fun k h1 h2 j hj=>by
  rcases Nat.lt_or_ge j c with g|g
  ·exact e.low k h1 h2 j g
  ·obtain rfl:j=c:=by omega
   exact h k h1 h2,e.dl,by omega⟩
theorem Ech.done {A:List (List Int)} {d c:Nat} (e:Ech p n L A d c) (h:c=n∨d=A.length):Canon p n (W0 n) L (A.take d):=by
 have hrow:∀i,i<A.length→row A i∈A:=fun i hi=>by rw [qC hi];exact List.getElem_mem hi
 have hm:∀v∈A.take d,∃i,i<d∧v=row A i:=fun v hv=>by
  obtain⟨i,hi,rfl⟩:=List.mem_iff_getElem.1 hv;rw [List.length_take]at hi
  exact⟨i,by omega,by rw [List.getElem_take,qC (by omega)]⟩
 have hdl:=e.dl;have hcn:=e.cn;have hasc:Asc (A.take d):=by
  unfold Asc;rw [List.pairwise_iff_getElem];intro i j hi hj hij;rw [List.length_take]at hi hj
  rw [List.getElem_take,List.getElem_take,←qC (by omega),←qC (by omega)]
  exact e.asc i j hij (by omega)
 refine zIx (fun v hv=>?_) hasc (fun v hv w hw hne=>?_) fun f=>(e.gen f).trans (zBV (fun v hv=>?_) (fun v hv=>qU (List.mem_of_mem_take hv)) f)
 ·obtain⟨i,hi,rfl⟩:=hm v hv
  obtain⟨h1,h2⟩:=e.led i hi;exact⟨e.el _ (hrow i (by omega)),by omega,h2⟩
 ·obtain⟨i,hi,rfl⟩:=hm v hv
  obtain⟨j,hj,rfl⟩:=hm w hw;exact e.col j hj i (by omega) fun h=>hne (by rw [h])
 ·obtain⟨i,hi,rfl⟩:=List.mem_iff_getElem.1 hv
  by_cases hid:i<d
  ·exact qU (by
    rw [List.mem_iff_getElem];exact⟨i,by rw [List.length_take];omega,by rw [List.getElem_take]⟩)
  ·have hcn':c=n:=by omega
   refine(zH _).eqv _ _ (Eqv.of_eq fun j=>?_) (zH _).zero
   rcases Nat.lt_or_ge j n with g|g
   ·have:=e.low i (by omega) hi j (by omega)
    rw [qC hi]at this;exact this
   ·exact(e.el _ hv).beyond g
theorem Ech.piv (hp:okp p) {A B:List (List Int)} {d c t:Nat} {k:Int} (e:Ech p n L A d c) (hc:c<n) (hdt:d≤t) (ht:t<A.length) (hB:B=(A.set d (row A t)).set t (row A d)) (hk:at_ (row A t) c*k % p=1) {C:List (List Int)} (hl:C.length=A.length) (hd:row C d=scl p k (row A t)) (hC:∀i,i<A.length→i≠d→row C i=vstep p (-(at_ (row B i) c)) (row C d) (row B i)):Ech p n L C (d+1) (c+1):=by
 have h2:=hp.1;have o:=W0_ok hp n;have hrow:∀{M:List (List Int)} i,i<M.length→row M i∈M:=fun {M} i hi=>by rw [qC hi];exact List.getElem_mem hi
 have hBl:B.length=A.length:=by rw [hB];simp
 have hBat:∀i,i<A.length→row B i=if i=t then row A d else if i=d then row A t else row A i:=fun i hi=>by
  rw [hB,qC (by simp;exact hi),List.getElem_set]
  by_cases h1:t=i
  ·rw [if_pos h1,if_pos h1.symm]
  ·rw [if_neg h1,if_neg fun e=>h1 e.symm,List.getElem_set]
   by_cases h2:d=i
   ·rw [if_pos h2,if_pos h2.symm]
   ·rw [if_neg h2,if_neg fun e=>h2 e.symm,qC hi]
 have hBd:row B d=row A t:=by
  rw [hBat d (by omega)]
  by_cases h1:d=t
  ·rw [if_pos h1,h1]
  ·rw [if_neg h1,if_pos rfl]
 have hAel:∀i,i<A.length→El p n (row A i):=fun i hi=>e.el _ (hrow i hi)
 have hBel:∀i,i<A.length→El p n (row B i):=fun i hi=>by rw [hBat i hi];split;exact hAel d (by omega);split;exact hAel t ht;exact hAel i hi
 have hBlow:∀i,d≤i→i<A.length→∀j,j<c→at_ (row B i) j=0:=fun i h1 h2 j hj=>by
  rw [hBat i h2]
  split
  ·exact e.low d (Nat.le_refl _) (by omega) j hj
  ·split
   ·exact e.low t hdt ht j hj
   ·exact e.low i h1 h2 j hj
 have hBtop:∀i,i<d→row B i=row A i:=fun i hi=>by rw [hBat i (by omega),if_neg (by omega),if_neg (by omega)]
 have hcC:at_ (row C d) c=1:=by rw [hd,Za,hk]
 have hlowC:∀j,j<c→at_ (row C d) j=0:=fun j hj=>by rw [hd,Za,e.low t hdt ht j hj];simp
 have hdepC:dep (row C d)=c:=zAK hlowC (by rw [hcC];omega)
 have hCdel:El p n (row C d):=by rw [hd];exact zDs (by omega) (hAel t ht).1
 have hCel:∀i,i<A.length→El p n (row C i):=fun i hi=>by
  by_cases h:i=d
  ·rw [h];exact hCdel
  ·rw [hC i hi h];exact zDl (by omega) hCdel.1 (hBel i hi).1
 have hCat:∀i,i<A.length→i≠d→∀j,j<n→at_ (row C i) j=(at_ (row B i) j + -(at_ (row B i) c)*at_ (row C d) j) % p:=fun i hi h j hj=>by
  rw [hC i hi h];exact ZO (by rw [hCdel.1,(hBel i hi).1]) (by rw [(hBel i hi).1];exact hj)
 have hkeep:∀i,i<A.length→i≠d→∀j,j<n→at_ (row C d) j=0→at_ (row C i) j=at_ (row B i) j:=fun i hi h j hj h0=>by
  rw [hCat i hi h j hj,h0,Int.mul_zero,Int.add_zero]
  have:=(hBel i hi).at0 o j
  exact Int.emod_eq_of_lt (by omega) (by omega)
 have htop:∀i,i<d→dep (row C i)=dep (row A i)∧at_ (row C i) (dep (row A i))=1:=fun i hi=>by
  obtain⟨h3,h4⟩:=e.led i hi;have hlt:=e.dl;have hj:∀j,j≤dep (row A i)→at_ (row C i) j=at_ (row A i) j:=fun j hj=>by rw [hkeep i (by omega) (by omega) j (by omega) (hlowC j (by omega)),hBtop i hi]
  refine⟨zAK (fun j hj'=>by rw [hj j (by omega)];exact qX hj') (by rw [hj _ (Nat.le_refl _),h4];omega),by rw [hj _ (Nat.le_refl _),h4]⟩
 have hcol0:∀i,i<A.length→i≠d→at_ (row C i) c=0:=fun i hi h=>by
  rw [hCat i hi h c hc,hcC,Int.mul_one,Int.add_right_neg];simp
 have hgenB:∀f,Gen p n (W0 n) A f↔Gen p n (W0 n) B f:=zBV (fun v hv=>qU (by
   obtain⟨i,hi,rfl⟩:=List.mem_iff_getElem.1 hv;rw [←qC hi]
   by_cases h1:i=t
   ·rw [h1,←hBd];exact hrow d (by omega)
   ·by_cases h3:i=d
    ·have:=hBat t ht
     rw [if_pos rfl]at this
     rw [h3,←this];exact hrow t (by omega)
    ·have:=hBat i hi
     rw [if_neg h1,if_neg h3]at this
     rw [←this];exact hrow i (by omega))) (fun v hv=>qU (by
   obtain⟨i,hi,rfl⟩:=List.mem_iff_getElem.1 hv;rw [←qC hi,hBat i (by omega)]
   split
   ·exact hrow d (by omega)
   ·split
    ·exact hrow t ht
    ·exact hrow i (by omega)))
 have hgenC:∀f,Gen p n (W0 n) B f↔Gen p n (W0 n) C f:=by
  have hdG:Gen p n (W0 n) C (at_ (row C d)):=qU (hrow d (by omega))
  have hdB:Gen p n (W0 n) B (at_ (row A t)):=qU (by rw [←hBd];exact hrow d (by omega))
  have hCd:Gen p n (W0 n) B (at_ (row C d)):=(zH _).eqv _ _ (by rw [hd];exact zGC k (hAel t ht).1) ((zH _).mul k _ hdB)
  have hAt:Gen p n (W0 n) C (at_ (row A t)):=by
   refine(zH _).eqv _ (fun j=>at_ (row A t) c*at_ (row C d) j) (zAJ (fun j hj=>?_) fun j hj=>?_) ((zH _).mul _ _ hdG)
   ·obtain⟨q,hq⟩:=zES (p:=p) (a:=at_ (row A t) c*k) (b:=1) (by rw [hk];exact(Int.emod_eq_of_lt (by omega) (by omega)).symm)
    show at_ (row A t) j % p=at_ (row A t) c*at_ (row C d) j % p;rw [hd,Za,zIZ]
    have:at_ (row A t) c*(at_ (row A t) j*k)=at_ (row A t) j+(at_ (row A t) j*q)*p:=by grind
    rw [this,Int.add_mul_emod_self_right]
   ·show at_ (row A t) j=at_ (row A t) c*at_ (row C d) j
    rw [hCdel.beyond hj,(hAel t ht).beyond hj];simp
  refine zBV (fun v hv=>?_) fun v hv=>?_
  ·obtain⟨i,hi,rfl⟩:=List.mem_iff_getElem.1 hv
   rw [←qC hi]
   by_cases h:i=d
   ·rw [h,hBd];exact hAt
   ·have h1:Gen p n (W0 n) C (at_ (row C i)):=qU (hrow i (by omega))
    rw [hC i (by omega) h]at h1
    refine(zH _).eqv _ _ (Eqv.of_eq fun j=>?_) ((zH _).add _ _ ((zH _).eqv _ _ (zAn _ hCdel.1 (hBel i (by omega)).1).symm h1) ((zH _).mul (at_ (row B i) c) _ hdG))
    show at_ (row B i) j=at_ (row B i) j + -(at_ (row B i) c)*at_ (row C d) j+at_ (row B i) c*at_ (row C d) j;rw [Int.neg_mul];omega
  ·obtain⟨i,hi,rfl⟩:=List.mem_iff_getElem.1 hv
   rw [←qC hi]
   by_cases h:i=d
   ·rw [h];exact hCd
   ·have h1:Gen p n (W0 n) B (at_ (row B i)):=qU (hrow i (by omega))
    rw [hC i (by omega) h]
    exact(zH _).eqv _ _ (zAn _ hCdel.1 (hBel i (by omega)).1) ((zH _).add _ _ h1 ((zH _).mul _ _ hCd))
 have hdep:∀i,i<d+1→dep (row C i)=if i=d then c else dep (row A i):=fun i hi=>by
  split
  ·rename_i h;rw [h];exact hdepC
  ·exact(htop i (by omega)).1
 refine⟨fun r hr=>?_,fun f=>((e.gen f).trans (hgenB f)).trans (hgenC f),fun i hi=>?_,fun i j hij hj=>?_,fun i hi k' hk' hne=>?_,fun k' h1 h3 j hj=>?_,by omega,by omega⟩
 ·obtain⟨i,hi,rfl⟩:=List.mem_iff_getElem.1 hr
  rw [←qC hi];exact hCel i (by omega)
 ·rw [hdep i hi]
  split
  ·rename_i h;rw [h];exact⟨by omega,hcC⟩
  ·have:=(e.led i (by omega)).1;exact⟨by omega,(htop i (by omega)).2⟩
 ·rw [hdep i (by omega),hdep j hj,if_neg (by omega)]
  split
  ·exact(e.led i (by omega)).1
  ·exact e.asc i j hij (by omega)
 ·rw [hdep i hi]
  split
  ·rename_i h;exact hcol0 k' (by omega) (by omega)
  ·rename_i h
   have h4:=(e.led i (by omega)).1
   have hcn:=e.cn;have h0:=hlowC _ h4
   by_cases hkd:k'=d
   ·rw [hkd];exact h0
   ·rw [hkeep k' (by omega) hkd _ (by omega) h0,hBat k' (by omega)]
    split
    ·exact e.col i (by omega) d (by omega) (by omega)
    ·exact e.col i (by omega) k' (by omega) hne
 ·have hkd:k'≠d:=by omega
  rcases Nat.lt_or_ge j c with g|g
  ·rw [hkeep k' (by omega) hkd j (by omega) (hlowC j g)];exact hBlow k' (by omega) (by omega) j g
  ·obtain rfl:j=c:=by omega
   exact hcol0 k' (by omega) hkd
end Go.Lie
