/- Drawn subspaces and matrices. -/
import Derived.Test.YtcooahfdjlhmdaaDP35
open Int renaming reduceNatCast'→iQ0
set_option maxRecDepth 100000
namespace Go.Grp
end Go.Grp
set_option linter.unusedSimpArgs false
set_option linter.unusedVariables false
namespace Go.Proofs
open Go.Ab Go.Lie Go.Grp Go.Mx
variable {σ σ0 h h' h2:PHeap} {K:PV→PHeap→Prop} {p c:Int} {n m s t b tb:Nat} {x y w bs xs:List Int} {A B:List (List Int)} {v vC:PV} {kids:List TR}
structure DM (p c:Int) (A:List (List Int)):Prop where
 p:-10≤p∧p≤11
 c:-10≤c∧c≤20
 l:A.length≤20
 r:∀x∈A,x.length≤20
theorem DM.sz (a:DM p c A):SzL A:=⟨by have:=a.l;omega,fun r hr=>by have:=a.r r hr;omega⟩
structure BX (σ0 h:PHeap) (s tb:Nat) (vC:PV) (bs:List Int) (p c:Int) (v:PV) (kids:List TR) (A:List (List Int)):Prop where
 km:KM σ0 s h
 so:So h s vC bs
 ob:h.obj tb=some [.int .i64 p,.int .i64 c,v]
 or:h.obj (tb+1)=some [.int .i64 0,.int .i64 0,.fz true .nils 0 []]
 lt:tb+2≤h.next
 ge:σ0.next≤tb
 dr:DR σ0.next h v kids A
 nt:tb∉TR.slotss kids∧∀off l c,v≠.sl tb off l c
 nr:tb+1∉TR.slotss kids∧∀off l c,v≠.sl (tb+1) off l c
theorem DR.set (a:DR b h v kids A) {t:Nat} (ht:t∉TR.slotss kids∧∀off l c,v≠.sl t off l c) (cs:List PV):DR b (h.set t cs) v kids A:=by
 refine⟨a.row,a.oks (h':=h.set t cs) (Nat.le_refl _) fun s hs=>by rw [zJ,if_neg fun e:s=t=>ht.1 (e ▸ hs)],a.nd,?_⟩
 rcases a.out with e|⟨s0,cap,h1,h2,h3,h4,h5,h6⟩
 ·exact .inl e
 ·exact .inr ⟨s0,cap,h1,h2,by rw [zJ,if_neg fun e:s0=t=>ht.2 0 _ cap (by rw [h1,e])];exact h3,h4,h5,h6⟩
theorem BX.mv (a:BX σ0 h s tb vC bs p c v kids A) (hs:s<σ0.next) (m:Mv h s h') (so:So h' s vC bs):BX σ0 h' s tb vC bs p c v kids A:=by
 have hge:=a.ge;exact⟨a.km.mv hs m,so,by rw [m.obj (by omega)];exact a.ob,by rw [m.obj (by omega)];exact a.or,by rw [m.next];exact a.lt,a.ge,a.dr.mv hs m,a.nt,a.nr⟩
theorem BX.keep (a:BX σ0 h s tb vC bs p c v kids A) (k:Keep h h'):BX σ0 h' s tb vC bs p c v kids A:=by
 have hlt:=a.lt;have hn:=k.next;exact⟨a.km.keep k,a.so.keep k,by rw [k.obj _ (by omega)];exact a.ob,by rw [k.obj _ (by omega)];exact a.or,by omega,a.ge,a.dr.keep k,a.nt,a.nr⟩
theorem BX.set (a:BX σ0 h s tb vC bs p c v kids A) (hs:s<σ0.next) (p' c':Int):BX σ0 (h.set tb [.int .i64 p',.int .i64 c',v]) s tb vC bs p' c' v kids A:=by
 have hge:=a.ge;exact⟨a.km.set hge _,a.so.set (by omega) _,by rw [zJ,if_pos rfl],by rw [zJ,if_neg (by omega)];exact a.or,a.lt,a.ge,a.dr.set a.nt _,a.nt,a.nr⟩
theorem BX.w0 (a:BX σ0 h s tb vC bs p c v kids A) (p':Int):h.wr tb 0 [.int .i64 p']=some (h.set tb [.int .i64 p',.int .i64 c,v]):=by
 have:=qz (i:=0) (v:=.int .i64 p') a.ob (by simp) rfl
 simpa using this
theorem BX.w1 (a:BX σ0 h s tb vC bs p c v kids A) (c':Int):h.wr tb 1 [.int .i64 c']=some (h.set tb [.int .i64 p,.int .i64 c',v]):=by
 have:=qz (i:=1) (v:=.int .i64 c') a.ob (by simp) rfl
 simpa using this
theorem BX.r0 (a:BX σ0 h s tb vC bs p c v kids A):h.rd1 tb 0=some (.int .i64 p):=by rw [zH a.ob];rfl
theorem BX.r1 (a:BX σ0 h s tb vC bs p c v kids A):h.rd1 tb 1=some (.int .i64 c):=by rw [zH a.ob];rfl
theorem BX.r2 (a:BX σ0 h s tb vC bs p c v kids A):h.rd1 tb 2=some v:=by rw [zH a.ob];rfl
theorem BX.fin (a:BX σ0 h s tb vC bs p c v kids A) (hs:s<σ0.next):∃h2,h.rd tb 0 3=some [.int .i64 p,.int .i64 c,v]∧h.wr (tb+1) 0 [.int .i64 p,.int .i64 c,v]=some h2∧h2.rd (tb+1) 0 3=some [.int .i64 p,.int .i64 c,v]∧KM σ0 s h2∧So h2 s vC bs∧DR σ0.next h2 v kids A:=by
 have hge:=a.ge;obtain⟨w1,r1⟩:=res3 (a:=p) (b:=c) a.or a.dr.one.1;exact⟨_,by rw [qE a.ob];rfl,w1,r1,a.km.set (by omega) _,a.so.set (by omega) _,a.dr.set a.nr _⟩
theorem BX.push {Kp:PV×PHeap→Prop} {u:TR} (a:BX σ0 h s tb vC bs p c v kids A) (hs:s<σ0.next) (ru:RowT u x) (hu:u.okF h σ0.next) (hf:∀s∈u.slots,(s∉TR.slotss kids∧∀off l c,v≠.sl s off l c)∧s≠tb∧s≠tb+1) (hb:A.length≤1000)
  (k:∀v' h2 h3,h2.wr tb 2 [v']=some h3→v'.cells=[v']→BX σ0 h3 s tb vC bs p c v' (kids++[u]) (A++[x])→Kp (v',h2)):optK (qA 1 24 (h.new [u.pv]) v (.sl h.next 0 1 (.known 1))) Kp:=by
 obtain⟨σ',m',so',q,hn'⟩:=a.km.so a.so hs;have hge:=a.ge;have hlt:=a.lt;refine DR.push (σb:=σ') a.dr q (by omega) (by omega) ru hu (fun s hs=>(hf s hs).1) hb fun v' h2 d2 k2 o2 n2 l2=>?_
 have ob2:h2.obj tb=some [.int .i64 p,.int .i64 c,v]:=by rw [o2 _ (by omega) a.nt.2];exact a.ob
 have ob3:h2.obj (tb+1)=some [.int .i64 0,.int .i64 0,.fz true .nils 0 []]:=by rw [o2 _ (by omega) a.nr.2];exact a.or
 have hsl:TR.slotss (kids++[u])=TR.slotss kids++u.slots:=by rw [QM];simp [TR.slotss]
 have nn:∀t,t∉TR.slotss kids→t∉u.slots→t∉TR.slotss (kids++[u]):=fun t h1 h2 hm=>by
  rw [hsl,List.mem_append]at hm
  exact hm.elim h1 h2
 have nt':tb∉TR.slotss (kids++[u])∧∀off l c,v'≠.sl tb off l c:=⟨nn _ a.nt.1 fun hm=>(hf _ hm).2.1 rfl,n2 _ (by omega)⟩
 have nr':tb+1∉TR.slotss (kids++[u])∧∀off l c,v'≠.sl (tb+1) off l c:=⟨nn _ a.nr.1 fun hm=>(hf _ hm).2.2 rfl,n2 _ (by omega)⟩
 have hw:h2.wr tb 2 [v']=some (h2.set tb [.int .i64 p,.int .i64 c,v']):=by
  have:=qz (i:=2) (v:=v') ob2 (by simp) d2.one.1
  simpa using this
 exact k v' h2 _ hw d2.one.2.1 ⟨KM.set ⟨σ',m',k2⟩ hge _,(so'.keep k2).set (by omega) _,by rw [zJ,if_pos rfl],by rw [zJ,if_neg (by omega)];exact ob3,by show tb+2≤h2.next;omega,hge,d2.set nt' _,nt',nr'⟩
theorem BX.put {u:TR} (a:BX σ0 h s tb vC bs p c v kids A) (hs:s<σ0.next) {i:Nat} (hi:i<A.length) (ru:RowT u y) (hu:u.okF h σ0.next) (hf:∀s∈u.slots,(s∉TR.slotss kids∧∀off l c,v≠.sl s off l c)∧s≠tb∧s≠tb+1):
  ∃s0 cap h2,v=.sl s0 0 A.length cap∧h.wr s0 i [u.pv]=some h2∧BX σ0 h2 s tb vC bs p c v (kids.set i u) (A.set i y):=by
 obtain⟨s0,cap,h2,e,hw,d2,hn,ho⟩:=a.dr.put hi ru hu (fun s hs=>(hf s hs).1.1) (fun s hs=>(hf s hs).1.2)
 have hge:=a.ge;have ht:tb≠s0:=fun e2=>a.nt.2 0 _ cap (by rw [e,e2])
 have hr:tb+1≠s0:=fun e2=>a.nr.2 0 _ cap (by rw [e,e2])
 have hsb:σ0.next≤s0:=by
  rcases a.dr.out with ⟨e1,_⟩|⟨s1,cap1,e1,_,_,q,_,_⟩
  ·have:=a.dr.len;rw [e1]at this;simp at this;omega
  ·rw [e]at e1;simp only [PV.sl.injEq]at e1;omega
 have nn:∀t,t∉TR.slotss kids→t∉u.slots→t∉TR.slotss (kids.set i u):=fun t h1 h2 hm=>by
  obtain⟨w,hw,hs⟩:=qF.1 hm;rcases List.mem_or_eq_of_mem_set hw with e|e
  ·exact h1 (qF.2 ⟨w,e,hs⟩)
  ·exact h2 (e ▸ hs)
 -- only slot s0 has changed
 have e2:h2=h.set s0 ((TR.pvs kids).set i u.pv):=by
  rcases a.dr.out with ⟨e1,_⟩|⟨s1,cap1,e1,_,q3,_,_,_⟩
  ·have:=a.dr.len;rw [e1]at this;simp at this;omega
  ·rw [e]at e1
   simp only [PV.sl.injEq]at e1
   obtain⟨rfl,_⟩:=e1
   have:=qz (i:=i) (v:=u.pv) q3 (by rw [qR,List.length_map,a.dr.len];exact hi) ru.one.1
   rw [this]at hw
   cases hw;rfl
 refine⟨s0,cap,h2,e,hw,by rw [e2];exact a.km.set hsb _,by rw [e2];exact a.so.set (by omega) _,by rw [ho _ ht];exact a.ob,by rw [ho _ hr];exact a.or,by rw [hn];exact a.lt,hge,d2,⟨nn _ a.nt.1 fun hm=>(hf _ hm).2.1 rfl,a.nt.2⟩,nn _ a.nr.1 fun hm=>(hf _ hm).2.2 rfl,a.nr.2⟩
theorem BX.cell {s1:Nat} {cap1:Cap} (a:BX σ0 h s tb vC bs p c v kids A) (hs:s<σ0.next) {i:Nat} (hk:kids[i]? = some (TR.row s1 cap1 x)) (hx:A[i]? = some x) (hy:y.length=x.length):BX σ0 (h.set s1 (pis y)) s tb vC bs p c v (kids.set i (TR.row s1 cap1 y)) (A.set i y):=by
 have hge:=a.ge;have hik:=(List.getElem?_eq_some_iff.1 hk).1;have hm:=List.mem_of_getElem? hk;have hin:s1∈TR.slotss kids:=qF.2 ⟨_,hm,by rw [TR.row_slots];simp⟩
 have hsl:=a.dr.slot s1 hin;have hok:=qK.1 (qY.1 a.dr.ok _ hm);have epv:(TR.row s1 cap1 y).pv=(TR.row s1 cap1 x).pv:=by rw [TR.row_pv,TR.row_pv,hy]
 have esl:(TR.row s1 cap1 y).slots=(TR.row s1 cap1 x).slots:=by rw [TR.row_slots,TR.row_slots]
 have hpv:TR.pvs (kids.set i (TR.row s1 cap1 y))=TR.pvs kids:=by rw [qR,qR];exact Zo TR.pv hk epv
 have hss:TR.slotss (kids.set i (TR.row s1 cap1 y))=TR.slotss kids:=by
  have fm:∀ts:List TR,TR.slotss ts=(ts.map TR.slots).flatten:=fun ts=>by
   induction ts with
   | nil=>rfl
   | cons t ts ih=>simp only [TR.slotss,List.map_cons,List.flatten_cons,ih]
  rw [fm,fm,Zo TR.slots hk esl]
 have nd1:∀j u,j≠i→kids[j]? = some u→s1∉u.slots:=fun j u hj hu hm1=>by
  have fm:∀(ts:List TR) (i j:Nat) (a b:TR),i≠j→ts[i]? = some a→ts[j]? = some b→(TR.slotss ts).Nodup→s1∈a.slots→s1∉b.slots:=by
   intro ts
   induction ts with
   | nil=>intro i j a b _ h;simp at h
   | cons t ts ih=>
    intro i j a b hij ha hb nd h1 h2;simp only [TR.slotss,List.nodup_append]at nd
    cases i with
    | zero=>
     cases j with
     | zero=>exact hij rfl
     | succ j=>
      simp only [List.getElem?_cons_zero,Option.some.injEq]at ha
      simp only [List.getElem?_cons_succ]at hb
      exact nd.2.2 s1 (ha ▸ h1) s1 (qF.2 ⟨b,List.mem_of_getElem? hb,h2⟩) rfl
    | succ i=>
     cases j with
     | zero=>
      simp only [List.getElem?_cons_zero,Option.some.injEq]at hb
      simp only [List.getElem?_cons_succ]at ha
      exact nd.2.2 s1 (hb ▸ h2) s1 (qF.2 ⟨a,List.mem_of_getElem? ha,h1⟩) rfl
     | succ j=>
      simp only [List.getElem?_cons_succ]at ha hb
      exact ih i j a b (fun e=>hij (by rw [e])) ha hb nd.2.1 h1 h2
  exact fm kids i j _ u (Ne.symm hj) hk hu a.dr.nd (by rw [TR.row_slots];simp) hm1
 refine⟨a.km.set (by omega) _,a.so.set (by omega) _,by rw [zJ,if_neg fun e:tb=s1=>a.nt.1 (e ▸ hin)];exact a.ob,by rw [zJ,if_neg fun e:tb+1=s1=>a.nr.1 (e ▸ hin)];exact a.or,a.lt,hge,⟨?_,qY.2 fun u hu=>?_,by rw [hss];exact a.dr.nd,?_⟩,⟨by rw [hss];exact a.nt.1,a.nt.2⟩,by rw [hss];exact a.nr.1,a.nr.2⟩
 ·refine⟨by rw [List.length_set,List.length_set];exact a.dr.row.1,fun j u z hu hz=>?_⟩
  rw [List.getElem?_set]at hu hz
  by_cases e:i=j
  ·subst e
   rw [if_pos rfl,if_pos hik]at hu
   rw [if_pos rfl,if_pos (by rw [←a.dr.len];exact hik)]at hz
   cases hu;cases hz;exact .inl ⟨s1,cap1,rfl⟩
  ·rw [if_neg e]at hu hz
   exact a.dr.row.2 j u z hu hz
 ·obtain⟨j,hj⟩:=List.getElem?_of_mem hu
  rw [List.getElem?_set]at hj
  by_cases e:i=j
  ·subst e
   rw [if_pos rfl,if_pos hik]at hj
   cases hj;exact qK.2 ⟨by rw [hy];exact hok.1,by rw [zJ,if_pos rfl],hok.2.2⟩
  ·rw [if_neg e]at hj
   have hjl:=(List.getElem?_eq_some_iff.1 hj).1;obtain⟨u',h1,h2,h3⟩:=a.dr.get (i:=j) (by rw [←a.dr.len];exact hjl)
   rw [hj]at h1
   cases h1;exact h2.move h3 (Nat.le_refl _) fun s' hs'=>by rw [zJ,if_neg fun e2:s'=s1=>nd1 j u (Ne.symm e) hj (e2 ▸ hs')]
 ·rcases a.dr.out with ⟨e,_⟩ | ⟨s0,cap,q1,q2,q3,q4,q5,q6⟩
  ·rw [e]at hik;simp at hik
  ·exact .inr ⟨s0,cap,by rw [List.length_set];exact q1,by rw [List.length_set];exact q2,by rw [zJ,if_neg fun e:s0=s1=>q6 (e ▸ hin),hpv];exact q3,q4,q5,by rw [hss];exact q6⟩
end Go.Proofs
namespace Go.Grp
end Go.Grp
namespace Go.Proofs
open Go.Ab Go.Lie Go.Grp Go.Mx
variable {σ σ0 h h' h2:PHeap} {K:PV→PHeap→Prop} {p c:Int} {n m s t b tb:Nat} {x y w bs xs:List Int} {A B:List (List Int)} {v vC:PV} {kids:List TR}
set_option maxHeartbeats 1600000 in
theorem QF (km:KM σ0 s σ) (so:So σ s vC bs) (hs:s<σ0.next) (hp:isP p) (hn:n≤8) (dr:DR σ0.next σ v kids A) (hAl:A.length≤8) (hA:Ma p n A) (h00:∀t x,kids[0]? = some t→A[0]? = some x→∃s cap,t=TR.row s cap x)
  (hk:∀p' c' v' kids' A' h,KM σ0 s h→So h s vC bs→DR σ0.next h v' kids' A'→DM p' c' A'→K (.agg [.int .i64 p',.int .i64 c',v']) h):
  zC Try.prog 44 [.ptr s 0,.agg [.int .i64 p,.int .i64 n,v]] σ K:=by
 have hpb:=hp.bd;have h1:=dr.one.1;have hσ:=km.next;generalize hT:(σ.new [.int .i64 p,.int .i64 n,v]).new [.int .i64 0,.int .i64 0,.fz true .nils 0 []]=T;have hkT:Keep σ T:=by rw [←hT];exact(zF σ _).new _
 have B:BX σ0 T s σ.next vC bs p n v kids A:=⟨km.keep hkT,so.keep hkT,by rw [←hT];simp only [pwA,seval,-iQ0],by rw [←hT];simp only [pwA,seval,-iQ0],by rw [←hT];exact Nat.le_refl _,hσ,dr.keep hkT,dr.fresh (Nat.le_refl _),dr.fresh (by omega)⟩
 have dm0:DM p n A:=⟨by omega,by omega,by omega,fun x hx=>by rw [(hA x hx).len];omega⟩
 refine Qc mix Try.func44 cf44 rfl ?_;dsimp only [if44,eI,qD,eD,mI0,kI0,lI0,LI0,fI0,bI0,cI0,sI0,C2,mD0,lD0,fD0,xD0,I0,G0,aI0,vI0,wD0,R0,S0];simp only [pwA,seval,-iQ0,h1];rw [hT];refine zo B.so (by omega) fun a H ha m1 so1=>?_
 have B:=B.mv hs m1 so1;have ha2:=ha.lt (by omega)
 clear so1 m1 hkT hT;have fin:∀{h:PHeap} {p' c':Int} {v':PV} {kids':List TR} {A':List (List Int)},BX σ0 h s σ.next vC bs p' c' v' kids' A'→DM p' c' A'→∃h2,h.rd σ.next 0 3=some [.int .i64 p',.int .i64 c',v']∧h.wr (σ.next+1) 0 [.int .i64 p',.int .i64 c',v']=some h2∧h2.rd (σ.next+1) 0 3=some [.int .i64 p',.int .i64 c',v']∧K (.agg [.int .i64 p',.int .i64 c',v']) h2:=fun b dm=>by
  obtain⟨h9,f1,f2,f3,f4,f5,f6⟩:=b.fin hs;exact⟨h9,f1,f2,f3,hk _ _ _ _ _ _ f4 f5 f6 dm⟩
 have hnt:s≠σ.next:=by have:=B.ge;omega
 have hlt:=B.lt
 by_cases a0:a=0
 ·subst a0
  simp only [pwA,seval,-iQ0];refine ZM (xs:=[1,4,11,0,-3]) (B.so.keep (zF _ _)) (by omega) (by rw [zL,if_pos rfl];rfl) (by decide) fun x h2 hx m2 so2=>?_
  have B2:=(B.keep (zF _ _)).mv hs m2 so2;obtain⟨h9,f1,f2,f3,f4⟩:=fin (B2.set hs x n) ⟨by simp at hx;omega,dm0.c,dm0.l,dm0.r⟩
  simp only [pwA,seval,-iQ0,B2.w0,f1,f2,f3];exact f4
 by_cases a1:a=1
 ·subst a1
  have ew:IntKind.i64.wrap ((n:Int)+1)=(n:Int)+1:=wrap64 (by omega) (by omega)
  have r1:=B.r1;simp only [pwA,seval,-iQ0,r1,ew];refine ZM (xs:=[-1,(n:Int)+1,9]) (B.so.keep (zF _ _)) (by omega) (by rw [zL,if_pos rfl];rfl) (by simp) fun x h2 hx m2 so2=>?_
  have B2:=(B.keep (zF _ _)).mv hs m2 so2;obtain⟨h9,f1,f2,f3,f4⟩:=fin (B2.set hs p x) ⟨dm0.p,by simp at hx;omega,dm0.l,dm0.r⟩
  simp only [pwA,seval,-iQ0,B2.w1,f1,f2,f3];exact f4
 by_cases a4:a=4
 ·subst a4
  have r2:=B.r2;have hlen:=B.dr.one.2.2
  by_cases hA0:A.length=0
  ·have hA0':¬(0:Int)<(A.length:Int):=by omega
   obtain⟨h9,f1,f2,f3,f4⟩:=fin B dm0;simp only [pwA,seval,-iQ0,r2,hlen,hA0',decide_false,f1,f2,f3];exact f4
  have hA0':(0:Int)<(A.length:Int):=by omega
  obtain⟨u,hu,hru,huk⟩:=B.dr.get (i:=0) (by omega)
  obtain⟨s1,cap1,rfl⟩:=h00 u A[0] hu (List.getElem?_eq_getElem (by omega))
  have hx0:=(hA _ (List.getElem_mem (show 0<A.length by omega))).len
  rcases B.dr.out with ⟨e,_⟩|⟨s0,cap0,e0,q2,q3,q4,q5,q6⟩
  ·rw [e]at hu;simp at hu
  have hkl:=B.dr.len;have r0:H.rd1 s0 0=some (.sl s1 0 n cap1):=by rw [zH q3,qR,List.getElem?_map,hu,←hx0,←TR.row_pv];rfl
  have hk0:0<A.length:=by omega
  rw [hkl]at e0
  by_cases hn0:n=0
  ·have hn0':¬(0:Int)<(n:Int):=by omega
   obtain⟨h9,f1,f2,f3,f4⟩:=fin B dm0;subst e0;simp only [pwA,seval,-iQ0,r2,hA0',hk0,r0,hn0',decide_true,decide_false,f1,f2,f3];exact f4
  have hn0':(0:Int)<(n:Int):=by omega
  have hn0n:0<n:=by omega
  have r00:=B.r0;subst e0;simp only [pwA,seval,-iQ0,r2,hA0',hk0,r0,r00,hn0',decide_true];have ne1:¬s0=H.next:=by omega
  have ne2:¬σ.next=H.next:=by omega
  simp only [pwA,seval,-iQ0,ne1,ne2,decide_true,and_self,true_and];refine ZM (xs:=[p,-1]) (B.so.keep (zF _ _)) (by omega) (by rw [zL,if_pos rfl];rfl) (by simp) fun x h2 hx m2 so2=>?_
  have B2:=(B.keep (zF H [.int .i64 p,.int .i64 (-1)])).mv hs m2 so2;have e2:h2.obj s0=some (TR.pvs kids):=by rw [m2.obj (by omega),zL,if_neg ne1];exact q3
  have r0':h2.rd1 s0 0=some (.sl s1 0 n cap1):=by rw [zH e2,qR,List.getElem?_map,hu,←hx0,←TR.row_pv];rfl
  have r2':=B2.r2;rw [qK]at huk
  have e3:h2.obj s1=some (pis A[0]):=by rw [m2.obj (by omega),zL,if_neg (by omega)];exact huk.2.1
  have hw:h2.wr s1 0 [.int .i64 x]=some (h2.set s1 (pis (A[0].set 0 x))):=by
   rw [qz e3 (by rw [zU];omega) rfl,zAD]
  have B3:=B2.cell hs hu (List.getElem?_eq_getElem (by omega)) (y:=A[0].set 0 x) (by simp)
  obtain⟨h9,f1,f2,f3,f4⟩:=fin B3 ⟨dm0.p,dm0.c,by simp;exact dm0.l,fun y hy=>by
   rcases List.mem_or_eq_of_mem_set hy with e|e
   ·exact dm0.r y e
   ·rw [e];simp;omega⟩
  simp only [pwA,seval,-iQ0,r0',r2',hn0',hn0n,hw,f1,f2,f3];exact f4
 by_cases a2:a=2
 ·subst a2
  have hkl:=B.dr.len;rcases B.dr.out with ⟨e,e1⟩|⟨s0,cap0,e0,q2,q3,q4,q5,q6⟩
  ·have hA0:A.length=0:=by rw [←hkl,e];rfl
   have hA0':¬(0:Int)<(A.length:Int):=by omega
   have hlen:=B.dr.one.2.2;obtain⟨h9,f1,f2,f3,f4⟩:=fin B dm0;have r2:=B.r2;simp only [pwA,seval,-iQ0];refine zR (fun k us h=>k=0∧us=[.ptr σ.next 0,.ptr (σ.next+1) 0,.int .i64 0]∧h=H) 0 ⟨rfl,rfl,rfl⟩ ?_
   rintro k us h ⟨rfl,rfl,rfl⟩
   simp only [pwA,seval,-iQ0,r2,hlen,hA0',decide_false,f1,f2,f3];exact f4
  rw [hkl]at e0
  subst e0;simp only [pwA,seval,-iQ0];refine zR (fun k us h=>∃(i:Nat) (kids':List TR),i≤A.length∧k=A.length-i∧us=[.ptr σ.next 0,.ptr (σ.next+1) 0,.int .i64 i]∧BX σ0 h s σ.next vC bs p n (.sl s0 0 A.length cap0) kids' ((A.take i).map (·++[0])++A.drop i)) A.length ⟨0,kids,by omega,by omega,rfl,by rw [List.take_zero,List.map_nil,List.nil_append,List.drop_zero];exact B⟩ ?_
  rintro k us h ⟨i,kids',hi,rfl,rfl,B1⟩
  have r2:=B1.r2;have hl1:((A.take i).map (·++[0])++A.drop i).length=A.length:=by simp;omega
  by_cases hlt':i<A.length
  rotate_left
  ·have hie:i=A.length:=by omega
   subst hie;rw [List.take_length,List.drop_length,List.append_nil]at B1
   obtain⟨h9,f1,f2,f3,f4⟩:=fin B1 ⟨dm0.p,dm0.c,by simp;exact dm0.l,fun y hy=>by
    obtain⟨z,hz,rfl⟩:=List.mem_map.1 hy;rw [List.length_append,(hA z hz).len];simp;omega⟩
   simp only [pwA,seval,-iQ0,r2,Nat.lt_irrefl,decide_false,f1,f2,f3];exact f4
  obtain⟨u,hu,hru,huk⟩:=B1.dr.get (i:=i) (by rw [hl1];exact hlt')
  have hAi:((A.take i).map (·++[0])++A.drop i)[i]'(by rw [hl1];exact hlt')=A[i]:=by
   rw [List.getElem_append_right (by simp;omega)]
   simp [Nat.min_eq_left hi]
  rw [hAi]at hru
  have hxl:=(hA _ (List.getElem_mem hlt')).len;rcases B1.dr.out with ⟨e,_⟩|⟨s1,cap1,e1,p2,p3,p4,p5,p6⟩
  ·rw [e]at hu;simp at hu
  have e1':=e1;simp only [PV.sl.injEq]at e1'
  obtain⟨rfl,_,hkl',rfl⟩:=e1';have r0:h.rd1 s0 i=some u.pv:=by rw [zH p3,qR,List.getElem?_map,hu];rfl
  have own:∀{hX:PHeap},Keep h hX→zC Try.prog 86 [u.pv] hX fun v h'=>∃cap,full 1 cap A[i].length∧v=.sl hX.next 0 A[i].length cap∧h'=hX.new (pis A[i]):=fun {hX} kX=>by
   rcases hru with ⟨s',cap',rfl⟩|⟨v',rfl,w,av,rfl⟩
   ·rw [qK]at huk
    rw [TR.row_pv];exact zAz (by rw [kX.obj _ huk.2.2.2];exact huk.2.1) (by have:=kX.next;omega) (by omega) fun cap hc=>⟨cap,hc,rfl,rfl⟩
   ·exact QG rfl (by omega) fun cap hc=>⟨cap,hc,rfl,rfl⟩
  have wi1:=wrapS hlt' (by omega:A.length≤4611686018427387904)
  have ne1:¬s0=h.next:=by omega
  have hge:=B1.ge;have hlt1:=B1.lt;have ne2:¬σ.next=h.next:=by omega
  simp only [pwA,seval,-iQ0,r2,hlt',decide_true,r0,ne1,ne2,zBe,List.nil_append,and_self,true_and];refine(own (zF _ _)).mono ?_
  rintro z h9 ⟨cap2,hc2,rfl,rfl⟩
  have hY:∀t,((h.new [.int .i64 0]).new (pis A[i])).obj t=if t=h.next+1 then some (pis A[i])else if t=h.next then some [.int .i64 0]else h.obj t:=fun t=>by
   rw [zL,zL];rfl
  have kY:Keep h ((h.new [.int .i64 0]).new (pis A[i])):=(zF _ _).new _;have nY:((h.new [.int .i64 0]).new (pis A[i])).next=h.next+2:=rfl;have nX:(h.new [.int .i64 0]).next=h.next+1:=rfl;rw [nX];have r2':((h.new [.int .i64 0]).new (pis A[i])).rd1 σ.next 2=some (.sl s0 0 A.length cap0):=(B1.keep kY).r2;generalize (h.new [.int .i64 0]).new (pis A[i])=Y at *
  simp only [pwA,seval,-iQ0,r2'];refine PAcc.appS (σb:=h) (m:=1) (news:=[.int .i64 0]) (rows:=pis A[i]) kY (.inr (PSl.own hc2 (by rw [hY,if_pos rfl]) (by rw [zU,Nat.mul_one]) (by omega) (by omega))) rfl (by omega) ?_ rfl (by omega) (by omega) fun v' h3 k3 a3 o3 n3 l3=>?_
  ·rw [Qn,if_neg (by omega),if_pos (Nat.le_refl _),qE (by rw [hY,if_neg (by omega),if_pos rfl]),if_pos (by simp)]
   rfl
  obtain⟨t,cap3,rfl,c1,c2,c3,c4,c5⟩:=a3;rw [show pis A[i]++[PV.int .i64 0]=pis (A[i]++[0]) by simp [pis]]at c2
  have r2'':=(B1.keep k3).r2;have hl2:A[i].length+1=(A[i]++[0]).length:=by simp
  obtain⟨s9,cap9,h4,e9,w9,B4⟩:=(B1.keep k3).put hs (i:=i) (u:=TR.row t cap3 (A[i]++[0])) (y:=A[i]++[0]) (by rw [hl1];exact hlt') (.inl ⟨t,cap3,rfl⟩) (qK.2 ⟨by rw [←hl2];exact c1,c2,by omega,c5⟩) (fun s' hs'=>by
   rw [TR.row_slots,List.mem_singleton]at hs'
   subst hs';exact⟨B1.dr.fresh c4,by omega,by omega⟩)
  rw [TR.row_pv,←hl2]at w9
  simp only [PV.sl.injEq]at e9
  obtain⟨rfl,_,_,_⟩:=e9;have hset:((A.take i).map (·++[0])++A.drop i).set i (A[i]++[0])=(A.take (i+1)).map (·++[0])++A.drop (i+1):=by
   have:=QU (a:=A.map (·++[0])) (b:=A) (i:=i) (by simp) (by simpa using hlt')
   rw [List.getElem_map,←List.map_take,←List.map_take]at this
   exact this
  rw [hset]at B4
  simp only [pwA,seval,-iQ0,hlt',r2'',w9,wi1];exact⟨A.length-(i+1),by omega,i+1,_,by omega,rfl,rfl,B4⟩
 by_cases a3:a=3
 ·subst a3
  simp only [pwA,seval,-iQ0];refine zR (fun k us h=>∃(i:Nat) (v':PV) (kids':List TR),i≤9∧k=9-i∧us=[.ptr σ.next 0,.ptr (σ.next+1) 0,.int .i64 i]∧BX σ0 h s σ.next vC bs p n v' kids' (A++List.replicate i (List.replicate n 0))) 9 ⟨0,v,kids,by omega,by omega,rfl,by rw [List.replicate_zero,List.append_nil];exact B⟩ ?_
  rintro k us h ⟨i,v',kids',hi,rfl,rfl,B1⟩
  have r2:=B1.r2;have r1:=B1.r1
  by_cases hlt':i<9
  rotate_left
  ·have hie:i=9:=by omega
   subst hie;obtain⟨h9,f1,f2,f3,f4⟩:=fin B1 ⟨dm0.p,dm0.c,by simp;omega,fun y hy=>by
    rcases List.mem_append.1 hy with e|e
    ·exact dm0.r y e
    ·rw [(List.mem_replicate.1 e).2];simp;omega⟩
   simp only [pwA,seval,-iQ0,f1,f2,f3];exact f4
  have hle:(i:Int)≤8:=by omega
  have wi1:IntKind.i64.wrap ((i:Int)+1)=((i+1:Nat):Int):=by rw [wrap64 (by omega) (by omega)];omega
  have hge:=B1.ge;have hlt1:=B1.lt;have ne2:¬σ.next=h.next:=by omega
  have ne3:¬σ.next=h.next+1:=by omega
  have hmx:max (0:Int) (n:Int)=(n:Int):=by omega
  simp only [pwA,seval,-iQ0,hle,r1,r2,ne2,ne3,hmx,QV,mk8 (n:=n) (by omega),mkL (n:=n) (by omega),decide_true]
  have ez:PV.sl h.next 0 n (.known n)=(TR.row h.next (.known n) (List.replicate n 0)).pv:=by rw [TR.row_pv];simp
  rw [ez];refine BX.push (B1.keep (zF h (pis (List.replicate n 0)))) hs (x:=List.replicate n 0) (.inl ⟨_,_,rfl⟩) (qK.2 ⟨by rw [List.length_replicate];exact .inr rfl,by rw [zL,if_pos rfl],by omega,Nat.lt_succ_self _⟩) (fun s' hs'=>by
   rw [TR.row_slots,List.mem_singleton]at hs'
   subst hs';exact⟨B1.dr.fresh (Nat.le_refl _),by omega,by omega⟩) (by simp;omega) fun v2 h3 h4 w9 hc B4=>?_
  rw [List.append_assoc,←List.replicate_succ']at B4
  simp only [pwA,seval,-iQ0,w9,hc,wi1];exact⟨9-(i+1),by omega,i+1,v2,_,by omega,rfl,rfl,B4⟩
 obtain⟨h9,f1,f2,f3,f4⟩:=fin B dm0;simp only [pwA,seval,-iQ0,a0,a1,a2,a3,a4,f1,f2,f3];exact f4
end Go.Proofs
namespace Go.Grp
end Go.Grp
namespace Go.Proofs
open Go.Ab Go.Lie Go.Grp Go.Mx
variable {σ σ0 h h' h2:PHeap} {K:PV→PHeap→Prop} {p c:Int} {n m s t b tb:Nat} {x y w bs xs:List Int} {A B:List (List Int)} {v vC:PV} {kids:List TR}
theorem QE {a:Int} (h:0≤a):∃k:Nat,a=(k:Int):=⟨a.toNat,by omega⟩
theorem Qq (so:So σ s vC bs) (hk:∀p c z A h,FII z A→DM p c A→Mv σ s h→So h s vC bs→K (.agg [.int .i64 p,.int .i64 c,z]) h):zC Try.prog 41 [.ptr s 0] σ K:=by
 have hs:=so.lt;refine zC.gh ?_;generalize hT:σ.new [.int .i64 0,.int .i64 0,.fz true .nils 0 []]=T;have hTn:T.next=σ.next+1:=by rw [←hT];rfl
 have hkT:Keep σ T:=by rw [←hT];exact zF σ _
 have obT:T.obj σ.next=some [.int .i64 0,.int .i64 0,.fz true .nils 0 []]:=by rw [←hT];simp only [pwA,seval,-iQ0]
 refine zD mix Try.func41 ?_
 conv=>arg 2;cbv
 refine zG rfl ?_;simp only [pwA,seval,-iQ0];rw [hT];refine zAH (so.keep hkT) fun p h1 hp km1 so1=>?_
 have hpb:=hp.bd;have hsT:s<T.next:=by omega
 simp only [pwA,seval,-iQ0];refine zo so1 (by omega) fun m h2 hm m2 so2=>?_
 simp only [pwA,seval,-iQ0];refine zo so2 (by omega) fun n h3 hn m3 so3=>?_
 simp only [pwA,seval,-iQ0];refine zo so3 (by omega) fun a h4 ha m4 so4=>?_
 have km4:=((km1.mv hsT m2).mv hsT m3).mv hsT m4;have hm2:=hm.lt (by omega)
 have hn2:=hn.lt (by omega)
 obtain⟨m,rfl⟩:=QE hm.1;obtain⟨n,rfl⟩:=QE hn.1
 -- the end
 have rest:∀{h5 h7:PHeap} {p' c':Int} {v':PV} {kids':List TR} {A':List (List Int)},KM T s h5→So h5 s vC bs→KM h5 s h7→So h7 s vC bs→DR h5.next h7 v' kids' A'→DM p' c' A'→∃h8,v'.one=true∧v'.cells=[v']∧h7.wr σ.next 0 [.int .i64 p',.int .i64 c',v']=some h8∧h8.rd σ.next 0 3=some [.int .i64 p',.int .i64 c',v']∧Gh σ K (.agg [.int .i64 p',.int .i64 c',v']) h8:=fun {h5 h7 p' c' v' kids' A'} km5 so5 km57 so7 dr7 dm=>by
  have hn5:=km5.next;have km7:=km5.trans hsT km57;have ob7:h7.obj σ.next=some [.int .i64 0,.int .i64 0,.fz true .nils 0 []]:=by rw [km7.obj (by omega) (by omega)];exact obT
  obtain⟨w1,r1⟩:=res3 (a:=p') (b:=c') ob7 dr7.one.1;refine⟨_,dr7.one.1,dr7.one.2.1,w1,r1,?_⟩;have kmS:KM σ s h7:=(so.kmK hkT).trans hs km7;refine Gh.km (kmS.set (Nat.le_refl _) _) (so7.set (by omega) _) hs fun σ' m' so' kp=>?_
  exact DR.fin (b:=h5.next) (dr7.move (Nat.le_refl _) fun t ht _=>by rw [zJ,if_neg (by omega)]) kp (by rw [m'.next];omega) fun z hz=>hk p' c' z A' σ' hz dm m' so'
 by_cases a0:a=0
 ·subst a0
  simp only [pwA,seval,-iQ0];refine ZM (xs:=[8,7,6]) (so4.keep (zF _ _)) (by have:=km4.next;omega) (by rw [zL,if_pos rfl];rfl) (by decide) fun m' h5 hm' m5 so5=>?_
  have km5:=(km4.new [.int .i64 8,.int .i64 7,.int .i64 6]).mv hsT m5;simp only [pwA,seval,-iQ0];refine ZM (xs:=[8,7,6]) (so5.keep (zF _ _)) (by have:=km5.next;omega) (by rw [zL,if_pos rfl];rfl) (by decide) fun n' h6 hn' m6 so6=>?_
  have km6:=(km5.new [.int .i64 8,.int .i64 7,.int .i64 6]).mv hsT m6;have hm8:0≤m'∧m'≤8:=by simp at hm';omega
  have hn8:0≤n'∧n'≤8:=by simp at hn';omega
  obtain⟨m',rfl⟩:=QE hm8.1;obtain⟨n',rfl⟩:=QE hn8.1;simp only [pwA,seval,-iQ0];refine Zb so6 hp (by omega) (by omega) fun v kids A h7 km7 so7 dr hAl hA h00=>?_
  have o1:=dr.one.1;have o2:=dr.one.2.1;simp only [pwA,seval,-iQ0,o1,o2];refine QF km7 so7 so6.lt hp (by omega) dr (by omega) hA h00 fun p' c' v' kids' A' h9 km9 so9 dr9 dm=>?_
  obtain⟨h8,g1,g2,w1,r1,gg⟩:=rest km6 so6 km9 so9 dr9 dm;simp only [pwA,seval,-iQ0,g1,g2,w1,r1];exact gg
 ·simp only [pwA,seval,-iQ0,a0]
  refine Zb so4 hp (by omega) (by omega) fun v kids A h7 km7 so7 dr hAl hA h00=>?_
  have o1:=dr.one.1;have o2:=dr.one.2.1;simp only [pwA,seval,-iQ0,o1,o2];refine QF km7 so7 so4.lt hp (by omega) dr (by omega) hA h00 fun p' c' v' kids' A' h9 km9 so9 dr9 dm=>?_
  obtain⟨h8,g1,g2,w1,r1,gg⟩:=rest km4 so4 km9 so9 dr9 dm;simp only [pwA,seval,-iQ0,g1,g2,w1,r1];exact gg
end Go.Proofs
namespace Go.Grp
end Go.Grp
namespace Go.Proofs
open Go.Ab Go.Lie Go.Grp Go.Mx
variable {σ σ0 h h' h2 T:PHeap} {K:PV→PHeap→Prop} {p c p0 c0:Int} {n m s t b tb:Nat} {x y w bs xs:List Int} {A A0 B:List (List Int)} {v v0 z0 vC:PV} {kids:List TR}
theorem KM.keepN (km:KM T s h) (kT:Keep σ T) (hs:σ.next≤s):Keep σ h:=by
 obtain⟨T',m,q⟩:=km;refine⟨Nat.le_trans kT.next (by rw [←m.next];exact q.next),Nat.le_trans kT.top (by rw [←m.top];exact q.top),fun t ht=>?_⟩
 have:=kT.next
 rw [q.obj t (by rw [m.next];omega),m.obj (by omega),kT.obj t ht]
theorem DR.fin2 (a:DR b h v kids A) (hk:Keep σ h) (hb:σ.next≤b) (hz0:FII z0 A0) (k:∀z,FII z A→K (.tup [.agg [.int .i64 p0,.int .i64 c0,z0],.agg [.int .i64 p,.int .i64 c,z]]) σ):Gh σ K (.tup [.agg [.int .i64 p0,.int .i64 c0,z0],.agg [.int .i64 p,.int .i64 c,v]]) h:=by
 have hl:=a.len;have a2:∀aa,All2 FI (TR.fzs aa kids) A:=fun aa=>⟨by rw [TR.fzs_length];exact hl,fun j x y hx hy=>by
  rw [zC9,List.getElem?_map]at hx
  obtain⟨t,ht,rfl⟩:=Option.map_eq_some_iff.1 hx;exact(a.row.2 j t y ht hy).fz aa⟩
 have low:TR.okFs h σ.next kids:=qY.2 fun t ht=>by
  obtain⟨i,hi,rfl⟩:=List.mem_iff_getElem.1 ht;obtain⟨t',h1,h2,h3⟩:=a.get (i:=i) (by rw [←a.len];exact hi)
  rw [List.getElem?_eq_getElem hi]at h1
  cases h1;rcases h2 with ⟨s,cap,e⟩|⟨v,e,hv⟩
  ·rw [e,qK]at h3
   rw [e,qK];exact⟨h3.1,h3.2.1,by omega,h3.2.2.2⟩
  ·rw [e];exact hv.bel 0
 rcases a.out with ⟨rfl,rfl⟩|⟨s0,cap,rfl,h2,h3,h4,h5,h6⟩
 ·have:A=[]:=List.eq_nil_of_length_eq_zero (by rw [←hl];rfl)
  subst this;exact Gh.fin0 hk ⟨⟨trivial,trivial,hz0.bel _,trivial⟩,⟨trivial,trivial,trivial,trivial⟩,trivial⟩ (k _ ⟨true,.nils,[],rfl,All2.nil _⟩)
 ·have et:(TR.tup [.agg [.leaf (.int .i64 p0),.leaf (.int .i64 c0),.leaf z0],.agg [.leaf (.int .i64 p),.leaf (.int .i64 c),.lst s0 cap kids]]).pv=.tup [.agg [.int .i64 p0,.int .i64 c0,z0],.agg [.int .i64 p,.int .i64 c,.sl s0 0 kids.length cap]]:=rfl
  rw [←et];exact Gh.treeF hk ⟨⟨trivial,trivial,hz0.bel 0,trivial⟩,⟨trivial,trivial,⟨⟨h2,h3,by omega,h5⟩,low⟩,trivial⟩,trivial⟩ fun aa=>k _ ⟨true,.sl (aa s0) 0 kids.length cap,TR.fzs aa kids,by rw [←hl];rfl,a2 aa⟩
theorem res33 {r:Nat} {a b a' b':Int} {v v':PV} (o1:h.obj r=some [.int .i64 0,.int .i64 0,.fz true .nils 0 []]) (o2:h.obj (r+1)=some [.int .i64 0,.int .i64 0,.fz true .nils 0 []]) (hv:v.one=true) (hv':v'.one=true):
  ∃h1 h2,h.wr r 0 [.int .i64 a,.int .i64 b,v]=some h1∧h1.wr (r+1) 0 [.int .i64 a',.int .i64 b',v']=some h2∧h2.rd r 0 3=some [.int .i64 a,.int .i64 b,v]∧h2.rd (r+1) 0 3=some [.int .i64 a',.int .i64 b',v']∧h2=(h.set r [.int .i64 a,.int .i64 b,v]).set (r+1) [.int .i64 a',.int .i64 b',v']:=by
 obtain⟨w1,r1⟩:=res3 (a:=a) (b:=b) o1 hv;obtain⟨w2,r2⟩:=res3 (H:=h.set r [.int .i64 a,.int .i64 b,v]) (r:=r+1) (a:=a') (b:=b') (by rw [zJ,if_neg (by omega)];exact o2) hv'
 exact⟨_,_,w1,w2,by rw [zC4,if_neg (by omega)];exact r1,r2,rfl⟩
end Go.Proofs
namespace Go.Grp
end Go.Grp
namespace Go.Proofs
open Go.Ab Go.Lie Go.Grp Go.Mx
variable {σ σ0 h H g:PHeap} {K:PV→PHeap→Prop} {p c:Int} {n m s s' l l':Nat} {cap cap':Cap} {x y v w xs:List Int} {u L:List (List Int)} {v0 vx vL:PV} {rows:List SR}
theorem zAZ (ho:σ.obj s=some (pis xs)) (hl:l=xs.length) (hb:xs.length≤1048576) (hk:K (.int .i64 (dep xs)) σ):zC Try.prog 93 [.sl s 0 l cap] σ K:=by
 subst hl;refine zD mix Try.func93 ?_
 conv=>arg 2;cbv
 refine zG rfl ?_;simp only [pwA,seval,-iQ0];refine zR (fun m vs h'=>∃i:Nat,i≤dep xs∧m=dep xs-i∧vs=[.sl s 0 xs.length cap,.int .i64 i]∧σ=h') (dep xs) ?_ ?_
 ·exact⟨0,by omega,by omega,rfl,rfl⟩
 rintro m vs h' ⟨i,hi,rfl,rfl,rfl⟩
 have hdl:=zAJ xs
 by_cases hlt:i<xs.length
 ·have r1:σ.rd1 s i=some (.int .i64 xs[i]):=by rw [zH ho,zW,gi hlt];rfl
  simp only [pwA,seval,-iQ0,hlt,r1]
  by_cases h0:xs[i]=0
  ·have hid:i<dep xs:=by
    rcases Nat.lt_or_ge i (dep xs)with x|x
    ·exact x
    ·have:i=dep xs:=by omega
     subst this;exact absurd (by rw [at_eq hlt];exact h0) (qZ hlt)
   simp only [pwA,seval,-iQ0,h0,wrapS hlt (by omega:xs.length≤4611686018427387904)]
   exact⟨_,by omega,i+1,by omega,rfl,rfl⟩
  ·have hid:i=dep xs:=by
    rcases Nat.lt_or_ge i (dep xs)with x|x
    ·exact absurd (by rw [←at_eq hlt];exact zf x) h0
    ·omega
   subst hid;simp only [pwA,seval,-iQ0,h0];exact hk
 ·have hid:i=dep xs:=by omega
  have hxe:xs.length=dep xs:=by omega
  simp only [pwA,seval,-iQ0,hlt];rw [hxe];exact hk
theorem zDN (hp:2≤p∧p≤7) (hc:-7≤c∧c≤7) (hv:Ve p n v) (hw:Ve p n w) (hn:n≤1000) (ho:σ.obj s=some (pis v)) (hs:s<σ.next) (ho':σ.obj s'=some (pis w)) (hs':s'<σ.next) (hk:∀cap,full 1 cap n→K (.sl σ.next 0 n cap) (σ.new (pis (vstep p c w v)))):
  zC Try.prog 95 [.int .i64 p,.sl s 0 n cap,.int .i64 c,.sl s' 0 n cap'] σ K:=by
 have hvl:=hv.len;have hwl:=hw.len;have hln:(vstep p c w v).length=v.length:=zV (by omega)
 refine zC.gh ?_;refine zD mix Try.func95 ?_
 conv=>arg 2;cbv
 refine zG rfl ?_;simp only [pwA,seval,-iQ0];have own:=fun(K':PV→PHeap→Prop) (k':∀cap,full 1 cap n→K' (.sl σ.next 0 n cap) (σ.new (pis v)))=>by
  have:=zAz (K:=K') (cap:=cap) ho hs (by omega) (by rw [hvl];exact k')
  rwa [hvl]at this
 refine own _ fun cap2 hcap=>?_
 simp only [pwA,seval,-iQ0];refine zR (fun m vs h'=>∃i:Nat,i≤n∧m=n-i∧vs=[.int .i64 p,.int .i64 c,.sl s' 0 n cap',.sl σ.next 0 n cap2,.int .i64 i]∧h'=σ.new (pis ((vstep p c w v).take i++v.drop i))) n ?_ ?_
 ·exact⟨0,by omega,by omega,rfl,by rw [List.take_zero,List.drop_zero,List.nil_append]⟩
 rintro m vs h' ⟨i,hi,rfl,rfl,rfl⟩
 by_cases hlt:i<n
 rotate_left
 ·have hie:i=n:=by omega
  subst hie;have e0:(vstep p c w v).take i++v.drop i=vstep p c w v:=by rw [List.drop_of_length_le (by omega),List.append_nil,List.take_of_length_le (by omega)]
  rw [e0];simp only [pwA,seval,-iQ0,Nat.lt_irrefl];exact(PSl.own (b:=σ.next) (e:=1) hcap (by rw [zL,if_pos rfl]) (by rw [zU];omega) (Nat.le_refl _) (Nat.lt_succ_self _)).out (zF σ _) (qO _ _) hk
 have hlv:i<v.length:=by omega
 have hlt2:i<w.length:=by omega
 have e1:=zAA hln hlv;have c1:=hw.bd i;have c2:=hv.bd i;rw [at_eq hlt2]at c1
 rw [at_eq hlv]at c2
 have hlen:i+1≤((vstep p c w v).take i++v.drop i).length:=by simp;omega
 have hb:=sm7 (a:=c) (b:=w[i]) hc (by omega)
 have ew1:IntKind.i64.wrap (c*w[i])=c*w[i]:=wrap64 (by omega) (by omega)
 have ew2:IntKind.i64.wrap (v[i] + c*w[i])=v[i] + c*w[i]:=wrap64 (by omega) (by omega)
 have r1:(σ.new (pis ((vstep p c w v).take i++v.drop i))).rd1 s' i=some (.int .i64 w[i]):=by
  rw [zH (cs:=pis w) (by rw [zL,if_neg (by omega)];exact ho'),zW,gi hlt2];rfl
 have r2:(σ.new (pis ((vstep p c w v).take i++v.drop i))).rd1 σ.next i=some (.int .i64 v[i]):=by
  rw [zH (cs:=pis ((vstep p c w v).take i++v.drop i)) (by rw [zL,if_pos rfl]),zW,e1];rfl
 have hw9:(σ.new (pis ((vstep p c w v).take i++v.drop i))).wr σ.next i [.int .i64 ((v[i] + c*w[i]) % p)]=some (σ.new (pis ((vstep p c w v).take (i+1)++v.drop (i+1)))):=by
  have hiv:i<(vstep p c w v).length:=by omega
  have hget:(vstep p c w v)[i]=(v[i] + c*w[i]) % p:=zAO (by omega) hlv
  rw [qz (cs:=pis ((vstep p c w v).take i++v.drop i)) (by rw [zL,if_pos rfl]) (by rw [zU];omega) rfl,zAD,Qj,←hget,QU hln hiv]
 have hne:¬s'=σ.next:=by omega
 have hr3:σ.rd1 s' i=some (.int .i64 w[i]):=by rw [zH ho',zW,gi hlt2];rfl
 simp only [pwA,seval,-iQ0,hlt,hne,r1,r2,hr3,zW,e1,ew1,ew2];refine Qr (by omega) (by omega) ?_
 simp only [pwA,seval,-iQ0,hlt,hne,r1,r2,hr3,hw9,zW,e1,ew1,ew2,wrapS hlt (by omega:n≤4611686018427387904)]
 first
  | exact⟨_,by omega,i+1,by omega,rfl,rfl⟩
  | exact⟨_,by omega,i+1,by omega,rfl,rfl,rfl⟩
theorem RowsI.at (a:RowsI σ0 σ v0 rows) {i:Nat} (hi:i<rows.length):∃s0 cap0,v0=.sl s0 0 rows.length cap0∧σ.rd1 s0 i=some rows[i].pv∧σ.obj rows[i].s=some (pis rows[i].x)∧rows[i].s<σ.next∧s0<σ.next∧σ.obj s0=some (rows.map SR.pv):=by
 obtain⟨s0,cap0,rfl,q1,q2,q3,q4,q5⟩:=a.acc.pos (by omega)
 obtain⟨f1,f2,f3,f4⟩:=a.ok _ (List.getElem_mem hi);exact⟨s0,cap0,rfl,by rw [zH q2,List.getElem?_map,List.getElem?_eq_getElem hi];rfl,f2,f4,q5,q2⟩
theorem RowsI.pLen (a:RowsI σ0 σ v0 rows):pLen v0=some (.int .i64 rows.length):=a.acc.pLen
end Go.Proofs
namespace Go.Grp
end Go.Grp
namespace Go.Proofs
open Go.Ab Go.Lie Go.Grp Go.Mx
variable {σ σ0 h H g hN hk h2:PHeap} {K:PV→PHeap→Prop} {p c:Int} {n m s s' l l' t:Nat} {cap cap':Cap} {x y v w xs:List Int} {u L:List (List Int)} {v0 vx vL vN:PV} {rows rs:List SR} {Y:SR}
theorem zFR (hp:isP p) (hu:∀q∈rows,Led p n q.x) (hul:rows.length≤1000) (hx:El p n x) (hn:n≤1000) (a:RowsI σ0 σ v0 rows) (hvx:FI vx x) (hk:∀cap,full 1 cap n→K (.sl σ.next 0 n cap) (σ.new (pis (redL p (W0 n) (rows.map SR.x) x)))):
  zC Try.prog 92 [.int .i64 p,v0,vx] σ K:=by
 have hpb:=hp.bd;have o:=W0_ok hpb n;have hxl:=hx.1;have h1:=a.acc.one;have hpl:=RowsI.pLen a;obtain⟨wx,ax,rfl⟩:=hvx;refine zC.gh ?_;refine zD mix Try.func92 ?_
 conv=>arg 2;cbv
 refine zG rfl ?_;simp only [pwA,seval,-iQ0];refine QG rfl (by omega) fun cap0 hc0=>?_
 rw [hxl]at hc0 ⊢
 simp only [pwA,seval,-iQ0];refine zR (fun m vs h'=>∃(i:Nat) (y:List Int) (vy:PV),i≤rows.length∧m=rows.length-i∧vs=[.int .i64 p,v0,vy,.int .i64 i]∧Keep σ h'∧PSl σ.next 1 h' vy n (pis y)∧El p n y∧redL p (W0 n) ((rows.map SR.x).drop i) y=redL p (W0 n) (rows.map SR.x) x) rows.length ⟨0,x,_,by omega,by omega,rfl,zF σ _,PSl.own hc0 (by rw [zL,if_pos rfl]) (by rw [zU];omega) (Nat.le_refl _) (Nat.lt_succ_self _),hx,by rw [List.drop_zero]⟩ ?_
 rintro m vs h' ⟨i,y,vy,hi,rfl,rfl,kp,ps,hy,he⟩
 have hyl:=hy.1
 by_cases hlt:i<rows.length
 rotate_left
 ·rw [List.drop_eq_nil_of_le (by rw [List.length_map];omega)]at he
  simp only [pwA,seval,-iQ0,hpl,hlt];have he':y=redL p (W0 n) (rows.map SR.x) x:=he;rw [←he']at hk
  exact ps.out kp (qO _ _) hk
 obtain⟨s0,cap1,rfl,r1,r2,r3,r4,r5⟩:=RowsI.at a hlt;have hL:=hu _ (List.getElem_mem hlt);have hd:=hL.2.1;have hrl:=hL.1.1;have hm:i<(rows.map SR.x).length:=by rw [List.length_map];exact hlt
 rw [List.drop_eq_getElem_cons hm,List.getElem_map]at he
 obtain⟨sy,capy,rfl,c1,c2,c3,c4,c5⟩:=ps;have r1':h'.rd1 s0 i=some (.sl rows[i].s 0 n rows[i].cap):=by
  rw [zH (by rw [kp.obj _ r4];exact r5),List.getElem?_map,List.getElem?_eq_getElem hlt]
  show some (PV.sl _ 0 rows[i].x.length _)=_;rw [hrl]
 have r2':h'.obj rows[i].s=some (pis rows[i].x):=by rw [kp.obj _ r3];exact r2
 have hkn:=kp.next;simp only [pwA,seval,-iQ0,hpl,hlt,r1'];refine zAZ r2' hrl.symm (by omega) ?_
 have hdy:dep rows[i].x<y.length:=by omega
 have r6:h'.rd1 sy (dep rows[i].x)=some (.int .i64 y[dep rows[i].x]):=by rw [zH c2,zW,gi hdy];rfl
 have hdn:dep rows[i].x<n:=by omega
 simp only [pwA,seval,-iQ0,hdy,hdn,r6];have hred:red1 p (W0 n) y rows[i].x=vstep p (p-y[dep rows[i].x]) rows[i].x y:=by
  rw [zG0 hpb hyl hrl,at_eq hdy];refine Zr (by rw [zV (by omega),zV (by omega)]) fun j hj=>?_
  rw [zV (by omega)]at hj
  rw [qX (by omega) hj,qX (by omega) hj]
  rw [show at_ y j+(p-y[dep rows[i].x])*at_ rows[i].x j=(at_ y j + -y[dep rows[i].x] * at_ rows[i].x j)+p*at_ rows[i].x j by grind,Int.add_mul_emod_self_left]
 have hyb:=hy.at0 o (dep rows[i].x);rw [at_eq hdy]at hyb
 by_cases h0:y[dep rows[i].x]=0
 ·simp only [pwA,seval,-iQ0,h0,wrapS hlt (by omega:rows.length≤4611686018427387904)]
  refine⟨_,by omega,i+1,y,_,by omega,rfl,rfl,kp,⟨sy,capy,rfl,c1,c2,c3,c4,c5⟩,hy,?_⟩
  rw [←he];show _=redL p (W0 n) ((rows.map SR.x).drop (i+1)) (red1 p (W0 n) y rows[i].x);rw [zAn o hy hL.1 (by rw [at_eq hdy];exact h0)]
 ·have hw1:IntKind.i64.wrap (p-y[dep rows[i].x])=p-y[dep rows[i].x]:=wrap64 (by omega) (by omega)
  simp only [pwA,seval,-iQ0,h0,hlt,r1',hdy,hdn,r6,hw1];refine zDN hpb (by omega) (el_ve (by omega) hy) (el_ve (by omega) hL.1) hn c2 c5 r2' (by omega) fun cap2 hc2=>?_
  simp only [pwA,seval,-iQ0,wrapS hlt (by omega:rows.length≤4611686018427387904)]
  have hy2:El p n (red1 p (W0 n) y rows[i].x):=zAB o hy hL.1;rw [hred]at hy2
  refine⟨_,by omega,i+1,_,_,by omega,rfl,rfl,kp.new _,PSl.own hc2 (by rw [zL,if_pos rfl]) (by rw [zU,hy2.1];omega) (by omega) (Nat.lt_succ_self _),hy2,?_⟩
  rw [←he,←hred];rfl
structure YR (hN h:PHeap) (Y:SR) (v:PV) (rs:List SR):Prop where
 keep:Keep hN h
 acc:PSl hN.next 1 h v rs.length (rs.map SR.pv)
 ok:∀q∈rs,q=Y∨q.ok h hN.next
 nd:(zm rs).Nodup
 ne:∀r∈zm rs,∀off l c,v≠.sl r off l c
theorem YR.new (hN:PHeap) (Y:SR):YR hN (hN.new []) Y (.sl hN.next 0 0 (.known 0)) []:=⟨zF _ _,PSl.new _ 1 rfl (Nat.le_refl _),fun q hq=>(by cases hq),List.nodup_nil,fun r hr=>(by cases hr)⟩
theorem YR.push {K:PV×PHeap→Prop} (a:YR hN hk Y v0 rs) (hYs:Y.s<hN.next) (k1:Keep hk h) (q0:SR) (hq0:q0=Y∧Y.s∉zm rs∨hk.next≤q0.s∧q0.s<h.next∧h.obj q0.s=some (pis q0.x)∧full 1 q0.cap q0.x.length) (hb:rs.length≤1000)
  (k:∀v' h2,YR hN h2 Y v' (rs++[q0])→K (v',h2)):optK (qA 1 24 (h.new [q0.pv]) v0 (.sl h.next 0 1 (.known 1))) K:=by
 have hkn:=a.keep.next;have hkp:=a.keep.trans k1;have h5:=k1.next;have vlt:∀u,hk.next≤u→∀off l c,v0≠.sl u off l c:=fun u hu=>a.acc.acc.ne hu
 have hlt0:q0.s<h.next:=by
  rcases hq0 with ⟨rfl,_⟩|⟨_,h,_⟩
  ·omega
  ·exact h
 refine PAcc.pushS (σb:=hN) (bytes:=24) hkp (a.acc.keep k1).acc rfl (by omega) (by omega) fun v' h2 k2 a2 o2 n2 l2=>?_
 have old:∀q∈rs,(q=Y∨q.ok h2 hN.next)∧q.s<hk.next:=fun q hq=>by
  rcases a.ok q hq with rfl|⟨h1,h2',h3,h4⟩
  ·exact⟨.inl rfl,by omega⟩
  ·refine⟨.inr ⟨h1,?_,h3,by omega⟩,h4⟩
   rw [o2 _ (by omega) (a.ne _ (List.mem_map.2 ⟨q,hq,rfl⟩)),k1.obj _ h4];exact h2'
 refine k v' h2 ⟨k2,?_,fun q hq=>?_,?_,fun r hr=>?_⟩
 ·simpa using a2
 ·rcases List.mem_append.1 hq with hq | hq
  ·exact(old q hq).1
  ·rw [List.mem_singleton.1 hq]
   rcases hq0 with ⟨e,_⟩|⟨g1,g2,g3,g4⟩
   ·exact .inl e
   ·exact .inr ⟨g4,by rw [o2 _ g2 (vlt _ g1)];exact g3,by omega,by omega⟩
 ·unfold zm
  rw [List.map_append,List.nodup_append];refine⟨a.nd,by simp,fun y hy z hz e=>?_⟩
  simp only [List.map_cons,List.map_nil,List.mem_singleton]at hz
  rcases hq0 with ⟨rfl,h1⟩|⟨g1,_⟩
  ·exact h1 (by rw [←hz,←e];exact hy)
  ·obtain⟨q,hq,rfl⟩:=List.mem_map.1 hy
   have:=(old q hq).2
   omega
 ·unfold zm at hr
  rw [List.map_append,List.mem_append]at hr
  rcases hr with hr|hr
  ·obtain⟨q,hq,rfl⟩:=List.mem_map.1 hr
   have:=(old q hq).2
   exact n2 _ (by omega)
  ·simp only [List.map_cons,List.map_nil,List.mem_singleton]at hr
   subst hr;exact n2 _ hlt0
theorem YR.toRows (a:YR hN h Y v0 rs) (hk:Keep σ hN) (hY:Y.ok hN σ.next):RowsI σ h v0 rs:=
 ⟨hk.trans a.keep,a.acc.acc.low hk.next,fun q hq=>by
  rcases a.ok q hq with rfl|h1
  ·exact hY.keep a.keep
  ·exact⟨h1.1,h1.2.1,Nat.le_trans hk.next h1.2.2.1,h1.2.2.2⟩,a.nd,a.ne⟩
end Go.Proofs
namespace Go.Grp
end Go.Grp
namespace Go.Proofs
open Go.Ab Go.Lie Go.Grp Go.Mx
variable {σ σ0 h H g:PHeap} {K:PV→PHeap→Prop} {p c:Int} {n:Nat} {x y v w xs:List Int} {u L:List (List Int)} {v0 vx vL vN:PV}
theorem zEO (hp:isP p) (hL:∀r∈L,El p n r) (hll:L.length≤64) (hn:n≤64) (hvL:FII vL L) (hk:∀v h' rows,RowsI σ h' v rows→Canon p n (W0 n) L (rows.map SR.x)→K v h'):
  zC Try.prog 54 [.int .i64 p,vL] σ K:=by
 have hpb:=hp.bd;have o:=W0_ok hpb n;obtain⟨wL,aL,rL,rfl,hrL⟩:=hvL;refine zD mix Try.func54 ?_
 conv=>arg 2;cbv
 refine zG rfl ?_;simp only [pwA,seval,-iQ0];refine zR (fun m vs h'=>∃(i:Nat) (rows:List SR) (vu:PV),i≤L.length∧m=L.length-i∧vs=[.int .i64 p,.fz wL aL L.length rL,vu,.int .i64 i]∧RowsI σ h' vu rows∧Canon p n (W0 n) (L.take i) (rows.map SR.x)) L.length ⟨0,[],_,by omega,by omega,rfl,RowsI.new σ,by rw [List.take_zero];exact Z8⟩ ?_
 rintro m vs h' ⟨i,rows,vu,hi,rfl,rfl,a,hc⟩
 have hml:(rows.map SR.x).length=rows.length:=List.length_map _;have hul:rows.length≤64:=by
  have:=hc.len;omega
 have hpl:=RowsI.pLen a;simp only [pwA,seval,-iQ0];refine iteI (fun hlt=>?_) fun hge=>?_
 rotate_left
 ·have hie:i=L.length:=by omega
  subst hie;rw [List.take_length]at hc
  exact hk _ _ rows a hc
 obtain⟨w4,a4,hr⟩:=hrL.rowI hlt;have hx:=hL _ (List.getElem_mem hlt);have hled:∀q∈rows,Led p n q.x:=fun q hq=>hc.base.led _ (List.mem_map.2 ⟨q,hq,rfl⟩)
 simp only [pwA,seval,-iQ0,hlt,hr];refine zFR hp hled (by omega) hx (by omega) a ⟨w4,a4,rfl⟩ fun capz hcz=>?_
 have hre:=Zf o hc.base.els hx;have hrl:=hre.1;have hput:=fun k=>hc.put hpb hx (k:=k)
 have hskip:=hc.skip0 hpb hx;have hb0:=hre.at0 o;generalize hrr:redL p (W0 n) (rows.map SR.x) L[i]=r at *
 simp only [pwA,seval,-iQ0];refine zAZ (xs:=r) (by rw [zL,if_pos rfl]) hrl.symm (by omega) ?_
 have hdl:=zAJ r
 by_cases hd:dep r=n
 ·have hd':(dep r:Int)=(n:Int):=by omega
  simp only [pwA,seval,-iQ0,hd',wrapS hlt (by omega:L.length≤4611686018427387904)]
  refine⟨_,by omega,i+1,rows,_,by omega,rfl,rfl,RowsI.keepI a (zF _ _),?_⟩
  rw [List.take_succ_eq_append_getElem hlt];exact hskip (by omega)
 have hdn:dep r<r.length:=by omega
 have hdn2:dep r<n:=by omega
 have hd':¬(dep r:Int)=(n:Int):=by omega
 have hne:=qZ hdn;have hbd:=hb0 (dep r);rw [at_eq hdn]at hne hbd
 have r6:(h'.new (pis r)).rd1 h'.next (dep r)=some (.int .i64 r[dep r]):=by rw [zH (cs:=pis r) (by rw [zL,if_pos rfl]),zW,gi hdn];rfl
 simp only [pwA,seval,-iQ0,hd',hdn,hdn2,r6,zW,gi hdn];refine zDO hp (by omega) fun k hk1 hk2 hk3=>?_
 simp only [pwA,seval,-iQ0];refine zBl (x:=r) hpb (by omega) (el_ve (by omega) hre) (by omega) (by rw [zL,if_pos rfl]) (Nat.lt_succ_self _) fun capy hcy=>?_
 obtain⟨c1,c2,c3,c4⟩:=hput k (by omega) (by rw [at_eq hdn];exact hk3)
 have kN:Keep h' ((h'.new (pis r)).new (pis (scl p k r))):=(zF _ _).new _;have oY:((h'.new (pis r)).new (pis (scl p k r))).obj (h'.next+1)=some (pis (scl p k r)):=by rw [zL,if_pos (show h'.next+1=(h'.new (pis r)).next from rfl)]
 have eN:((h'.new (pis r)).new (pis (scl p k r))).next=h'.next+2:=rfl;generalize hyy:scl p k r=y at *
 have hyl:=c3.1.1;generalize hg:(rows.map SR.x).map (gOff p y)=g at c1
 have hgl:g.length=rows.length:=by rw [←hg,List.length_map,List.length_map]
 have hgat:∀j (h:j<rows.length),g[j]'(by omega)=gOff p y rows[j].x:=fun j h=>by simp [←hg]
 have hgd:∀j (h:j<rows.length),Led p n (gOff p y rows[j].x)∧dep (gOff p y rows[j].x)=dep rows[j].x:=fun j h=>zB4 hpb c3 (hled _ (List.getElem_mem h)) (by rw [c2];exact c4 _ (List.mem_map.2 ⟨_,List.getElem_mem h,rfl⟩))
 simp only [pwA,seval,-iQ0];generalize (h'.new (pis r)).new (pis y)=hN at *
 have hYok:∀{b:Nat},b≤h'.next→SR.ok hN b ⟨h'.next+1,capy,y⟩:=fun {b} hb=>⟨by show full 1 capy y.length;rw [hyl];exact hcy,oY,by show b≤h'.next+1;omega,by show h'.next+1<hN.next;omega⟩
 have epv:SR.pv ⟨h'.next+1,capy,y⟩=.sl (h'.next+1) 0 n capy:=by show PV.sl _ 0 y.length _=_;rw [hyl]
 have aN:=RowsI.keepI a kN;have hsn:=a.keep.next;refine zR (fun m vs h2=>∃(j:Nat) (b:Bool) (vN:PV) (rs:List SR),j≤rows.length∧m=rows.length-j∧vs=[.int .i64 p,.fz wL aL L.length rL,vu,.int .i64 i,.sl (h'.next+1) 0 n capy,.int .i64 (dep r),vN,.bool b,.int .i64 j]∧YR hN h2 ⟨h'.next+1,capy,y⟩ vN rs∧rs.map SR.x=part (g.take j) y b∧(b=true→∃q∈g.take j,¬dep q<dep y)∧(b=false→(∀q∈g.take j,dep q<dep y)∧h'.next+1∉zm rs)) rows.length ?_ ?_
 ·exact⟨0,false,.sl hN.next 0 0 (.known 0),[],by omega,by omega,by rw [eN];rfl,YR.new hN _,by rw [List.take_zero];rfl,fun h=>(by cases h),fun _=>⟨fun q hq=>(by rw [List.take_zero]at hq;cases hq),fun h=>(by cases h)⟩⟩
 rintro m vs h2 ⟨j,b,vN,rs,hj,rfl,rfl,ay,hrs,hb1,hb2⟩
 have hrl2:rs.length=(part (g.take j) y b).length:=by rw [←hrs,List.length_map]
 have hpl1:rs.length≤66:=by rw [hrl2,zBx,List.length_take];cases b<;>simp<;>omega
 have kY:=ay.keep;have hkn:=ay.keep.next
 by_cases hlj:j<rows.length
 rotate_left
 ·have hje:j=rows.length:=by omega
  subst hje;have ht:g.take rows.length=g:=by rw [←hgl];exact List.take_length
  rw [ht]at hrs hb1 hb2
  have fin:∀{vF:PV} {h3:PHeap} {rs:List SR},YR hN h3 ⟨h'.next+1,capy,y⟩ vF rs→rs.map SR.x=insD g y→∃m',m'<L.length-i∧∃(i':Nat) (rows:List SR) (vu:PV),i'≤L.length∧m'=L.length-i'∧[PV.int .i64 p,.fz wL aL L.length rL,vF,.int .i64 ((i+1:Nat):Int)]=[.int .i64 p,.fz wL aL L.length rL,vu,.int .i64 i']∧RowsI σ h3 vu rows∧Canon p n (W0 n) (L.take i') (rows.map SR.x):=fun {vF h3 rs} a3 e3=>
   ⟨_,by omega,i+1,rs,vF,by omega,rfl,rfl,a3.toRows (a.keep.trans kN) (hYok hsn),by rw [List.take_succ_eq_append_getElem hlt,e3];exact c1⟩
  cases b with
  | true=>
   simp only [part,if_true]at hrs
   simp only [pwA,seval,-iQ0,hpl,hlj,wrapS hlt (by omega:L.length≤4611686018427387904)]
   exact fin ay hrs
  | false=>
   simp only [part,Bool.false_eq_true,if_false]at hrs
   obtain⟨b1,b2⟩:=hb2 rfl;simp only [pwA,seval,-iQ0,hpl,hlj];rw [←epv];refine YR.push ay (by show h'.next+1<hN.next;omega) (Keep.refl h2) ⟨h'.next+1,capy,y⟩ (.inl ⟨rfl,b2⟩) (by omega) fun v' h3 a3=>?_
   simp only [pwA,seval,-iQ0,wrapS hlt (by omega:L.length≤4611686018427387904)]
   exact fin a3 (by rw [zB1 b1,List.map_append,hrs];rfl)
 have hRj:=List.getElem_mem hlj;have hLj:=hled _ hRj;have hlx:=hLj.1.1;have hd5:dep r<rows[j].x.length:=by omega
 have hb5:=hLj.1.at0 o (dep r);rw [at_eq hd5]at hb5
 have hw5:IntKind.i64.wrap (p-rows[j].x[dep r])=p-rows[j].x[dep r]:=wrap64 (by omega) (by omega)
 have hgo:gOff p y rows[j].x=vstep p (p-rows[j].x[dep r]) y rows[j].x:=by unfold gOff;rw [c2,at_eq hd5]
 have htk:g.take (j+1)=g.take j++[gOff p y rows[j].x]:=by rw [List.take_succ_eq_append_getElem (by omega),hgat j hlj]
 obtain⟨hgL,hdd⟩:=hgd j hlj;have hgl9:(gOff p y rows[j].x).length=n:=hgL.1.1;have hin:gOff p y rows[j].x∈g.take (j+1):=by rw [htk];simp
 -- the rows in a later heap
 have at9:∀{q:PHeap},Keep hN q→∃s0 cap0,vu=.sl s0 0 rows.length cap0∧q.rd1 s0 j=some (.sl rows[j].s 0 n rows[j].cap)∧q.obj rows[j].s=some (pis rows[j].x)∧rows[j].s<q.next∧q.rd1 rows[j].s (dep r)=some (.int .i64 rows[j].x[dep r]):=fun {q} k=>by
  obtain⟨s0,cap0,e1,e2,e3,e4,_,_⟩:=RowsI.at (RowsI.keepI aN k) hlj;refine⟨s0,cap0,e1,?_,e3,e4,by rw [zH e3,zW,gi hd5];rfl⟩
  rw [e2];show some (PV.sl _ 0 rows[j].x.length _)=_;rw [hlx]
 obtain⟨s0,cap0,rfl,e1,e2,e3,e4⟩:=at9 kY;have at8:∀{q:PHeap},Keep hN q→q.rd1 s0 j=some (.sl rows[j].s 0 n rows[j].cap)∧q.obj rows[j].s=some (pis rows[j].x)∧rows[j].s<q.next∧q.rd1 rows[j].s (dep r)=some (.int .i64 rows[j].x[dep r]):=fun {q} k=>by
  obtain⟨s1,cap1,f0,f1,f2,f3,f4⟩:=at9 k;cases f0;exact⟨f1,f2,f3,f4⟩
 have oY2:∀{q:PHeap},Keep hN q→q.obj (h'.next+1)=some (pis y)∧h'.next+1<q.next:=fun {q} k=>⟨by rw [k.obj _ (by omega)];exact oY,by have:=k.next;omega⟩
 -- a row is added
 have add:∀{q:PHeap} {K':PV→PHeap→Prop},Keep hN q→(∀cap,full 1 cap n→K' (.sl q.next 0 n cap) (q.new (pis (gOff p y rows[j].x))))→zC Try.prog 95 [.int .i64 p,.sl rows[j].s 0 n rows[j].cap,.int .i64 (p-rows[j].x[dep r]),.sl (h'.next+1) 0 n capy] q K':=fun {q K'} k k'=>by
  obtain⟨f1,f2,f3,f4⟩:=at8 k;refine zDN hpb (by omega) (el_ve (by omega) hLj.1) (el_ve (by omega) c3.1) (by omega) f2 f3 (oY2 k).1 (oY2 k).2 fun cap hc=>?_
  rw [←hgo];exact k' cap hc
 have rest:∀{vN':PV} {q:PHeap} {rs':List SR} (b':Bool),YR hN q ⟨h'.next+1,capy,y⟩ vN' rs'→rs'.map SR.x=part (g.take (j+1)) y b'→(b'=true→∃q∈g.take (j+1),¬dep q<dep y)→(b'=false→(∀q∈g.take (j+1),dep q<dep y)∧h'.next+1∉zm rs')→
   ∃m',m'<rows.length-j∧∃(j':Nat) (b:Bool) (vN:PV) (rs:List SR),j'≤rows.length∧m'=rows.length-j'∧[PV.int .i64 p,.fz wL aL L.length rL,.sl s0 0 rows.length cap0,.int .i64 i,.sl (h'.next+1) 0 n capy,.int .i64 (dep r),vN',.bool b',.int .i64 ((j+1:Nat):Int)]=[.int .i64 p,.fz wL aL L.length rL,.sl s0 0 rows.length cap0,.int .i64 i,.sl (h'.next+1) 0 n capy,.int .i64 (dep r),vN,.bool b,.int .i64 j']∧YR hN q ⟨h'.next+1,capy,y⟩ vN rs∧rs.map SR.x=part (g.take j') y b∧(b=true→∃q∈g.take j',¬dep q<dep y)∧(b=false→(∀q∈g.take j',dep q<dep y)∧h'.next+1∉zm rs):=fun {vN' q rs'} b' a1 a2 a3 a4=>⟨_,by omega,j+1,b',vN',rs',by omega,rfl,rfl,a1,a2,a3,a4⟩
 -- .. and pushed
 have psh:∀{q:PHeap} {vN':PV} {rs':List SR} {cap:Cap} {K':PV×PHeap→Prop},YR hN q ⟨h'.next+1,capy,y⟩ vN' rs'→rs'.length≤1000→full 1 cap n→(∀v' h3,YR hN h3 ⟨h'.next+1,capy,y⟩ v' (rs'++[⟨q.next,cap,gOff p y rows[j].x⟩])→K' (v',h3))→optK (qA 1 24 ((q.new (pis (gOff p y rows[j].x))).new [.sl q.next 0 n cap]) vN' (.sl (q.next+1) 0 1 (.known 1))) K':=fun {q vN' rs' cap K'} a1 hb hc k'=>by
  have e:SR.pv ⟨q.next,cap,gOff p y rows[j].x⟩=.sl q.next 0 n cap:=by show PV.sl _ 0 (gOff p y rows[j].x).length _=_;rw [hgl9]
  rw [←e];exact YR.push (h:=q.new (pis (gOff p y rows[j].x))) a1 (by show h'.next+1<hN.next;omega) (zF _ _) ⟨q.next,cap,gOff p y rows[j].x⟩ (.inr ⟨Nat.le_refl _,Nat.lt_succ_self _,by rw [zL,if_pos rfl],by show full 1 cap (gOff p y rows[j].x).length;rw [hgl9];exact hc⟩) hb k'
 cases b with
 | true=>
  simp only [part,if_true]at hrs
  obtain⟨q,hq,hqd⟩:=hb1 rfl;simp only [pwA,seval,-iQ0,hpl,hlj,e1,e4,hdn2,hw5];refine add kY fun cap hc=>?_
  simp only [pwA,seval,-iQ0];refine psh ay (by omega) hc fun v' h3 a3=>?_
  simp only [pwA,seval,-iQ0,wrapS hlj (by omega:rows.length≤4611686018427387904)]
  exact rest true a3 (by simp only [part,if_true];rw [List.map_append,hrs,htk,zA1 ⟨q,hq,hqd⟩];rfl) (fun _=>⟨q,by rw [htk];exact List.mem_append_left _ hq,hqd⟩) (fun h=>by cases h)
 | false=>
  simp only [part,Bool.false_eq_true,if_false]at hrs
  obtain⟨b1,b2⟩:=hb2 rfl;simp only [pwA,seval,-iQ0,hpl,hlj,e1];refine zAZ e2 hlx.symm (by omega) ?_
  by_cases hlt5:dep rows[j].x<dep y
  ·have h5':¬(dep r:Int)<(dep rows[j].x:Int):=by omega
   simp only [pwA,seval,-iQ0,h5',hpl,hlj,e1,e4,hdn2,hw5];refine add kY fun cap hc=>?_
   simp only [pwA,seval,-iQ0];refine psh ay (by omega) hc fun v' h3 a3=>?_
   simp only [pwA,seval,-iQ0,wrapS hlj (by omega:rows.length≤4611686018427387904)]
   refine rest false a3 (by simp only [part,Bool.false_eq_true,if_false];rw [List.map_append,hrs,htk];rfl) (fun h=>by cases h) (fun _=>⟨fun q hq=>?_,fun hm=>?_⟩)
   ·rw [htk]at hq
    rcases List.mem_append.1 hq with hq|hq
    ·exact b1 q hq
    ·rw [List.mem_singleton.1 hq,hdd];exact hlt5
   ·unfold zm at hm
    rw [List.map_append,List.mem_append]at hm
    rcases hm with hm|hm
    ·exact b2 hm
    ·have hm2:h'.next+1=h2.next:=by simpa using hm
     omega
  ·have hne5:=c4 _ (List.mem_map.2 ⟨_,hRj,rfl⟩)
   have h5':(dep r:Int)<(dep rows[j].x:Int):=by omega
   simp only [pwA,seval,-iQ0,h5',hpl,hlj];rw [←epv];refine YR.push ay (by show h'.next+1<hN.next;omega) (Keep.refl h2) ⟨h'.next+1,capy,y⟩ (.inl ⟨rfl,b2⟩) (by omega) fun v' h3 a3=>?_
   obtain⟨f1,f2,f3,f4⟩:=at8 a3.keep;rw [epv];simp only [pwA,seval,-iQ0,hpl,hlj,f1,f4,hdn2,hw5];refine add a3.keep fun cap hc=>?_
   simp only [pwA,seval,-iQ0];refine psh a3 (by rw [List.length_append,List.length_singleton];omega) hc fun v4 h4 a4=>?_
   simp only [pwA,seval,-iQ0,wrapS hlj (by omega:rows.length≤4611686018427387904)]
   exact rest true a4 (by simp only [part,if_true];rw [List.map_append,List.map_append,hrs,htk,zA2 b1 (by rw [hdd];exact hlt5)];rfl) (fun _=>⟨_,hin,by rw [hdd];exact hlt5⟩) (fun h=>by cases h)
end Go.Proofs
namespace Go.Grp
end Go.Grp
namespace Go.Proofs
open Go.Ab Go.Lie Go.Grp Go.Mx
variable {σ σ0 h h' h2 g:PHeap} {K:PV→PHeap→Prop} {p c:Int} {n m s t b tb:Nat} {x y w bs xs:List Int} {A B:List (List Int)} {v vC:PV} {rows:List SR}
theorem dr_of (acc:PAcc b 1 h v rows.length (rows.map SR.pv)) (ok:∀q∈rows,q.ok h b) (nd:(zm rows).Nodup) (ne:∀r∈zm rows,∀off l c,v≠.sl r off l c):DR b h v (rows.map SR.tr) (rows.map SR.x):=by
 refine⟨⟨by simp,fun j t x ht hx=>?_⟩,zAQ ok,by rw [TR.rows_slots];exact nd,?_⟩
 ·rw [List.getElem?_map]at ht hx
  obtain⟨q,hq,rfl⟩:=Option.map_eq_some_iff.1 ht;rw [hq]at hx
  cases hx;exact .inl ⟨_,_,rfl⟩
 ·rcases acc with ⟨e1,e2,e3⟩ | ⟨s0,cap,rfl,q1,q2,q3,q4,q5⟩
  ·have:rows=[]:=List.eq_nil_of_length_eq_zero e2
   subst this;exact .inl ⟨rfl,e1⟩
  ·refine .inr ⟨s0,cap,by rw [List.length_map],by rw [List.length_map];exact q1,by rw [TR.rows_pvs];exact q2,q4,q5,?_⟩
   rw [TR.rows_slots];exact fun hm=>ne _ hm 0 _ _ rfl
theorem zDf (so:So σ s vC bs) (hp:isP p) (hm:m≤8) (hn:n≤8) (hk:∀z A h,FII z A→A.length=m→Ma p n A→Mv σ s h→So h s vC bs→K (.agg [.int .i64 p,.int .i64 n,z]) h):
  zC Try.prog 45 [.ptr s 0,.int .i64 p,.int .i64 m,.int .i64 n] σ K:=
 zC.gh (Zb so hp hm hn fun v kids A h km so1 dr hl hA h00=>Gh.km km so1 so.lt fun σ' m' so' kp=>DR.fin dr kp (by rw [m'.next];exact Nat.le_refl _) fun z hz=>hk z A σ' hz hl hA m' so')
theorem zDM (so:So σ s vC bs) (hp:isP p) (hn:n≤8) (hk:∀v (rows:List SR) h,KM σ s h→So h s vC bs→DR σ.next h v (rows.map SR.tr) (rows.map SR.x)→rows.length≤8→Ma p n (rows.map SR.x)→K (.agg [.int .i64 p,.int .i64 n,v]) h):zC Try.prog 107 [.ptr s 0,.int .i64 p,.int .i64 n] σ K:=by
 have hs:=so.lt;have hq:pr7 p:=hp;have hpb:=hp.bd;have hp0:0<p:=by omega
 generalize hT:σ.new [.int .i64 0,.int .i64 0,.fz true .nils 0 []]=T;have hTn:T.next=σ.next+1:=by rw [←hT];rfl
 have hkT:Keep σ T:=by rw [←hT];exact zF σ _
 have obT:T.obj σ.next=some [.int .i64 0,.int .i64 0,.fz true .nils 0 []]:=by rw [←hT];simp only [pwA,seval,-iQ0]
 have ew:IntKind.i64.wrap ((n:Int)+1)=((n+1:Nat):Int):=by rw [wrap64 (by omega) (by omega)];omega
 refine zD mix Try.func107 ?_
 conv=>arg 2;cbv
 refine zG rfl ?_;simp only [pwA,seval,-iQ0];rw [hT];simp only [pwA,seval,-iQ0,ew];refine zo (so.keep hkT) (by omega) fun a h1 ha m1 so1=>?_
 have ha2:=ha.lt (by omega)
 obtain⟨a,rfl⟩:=QE ha.1;have km1:KM T s h1:=(so.keep hkT).km.mv (by omega) m1
 simp only [pwA,seval,-iQ0];refine zDf so1 hp (by omega) hn fun z A h2 hz hAl hA m2 so2=>?_
 have km2:KM T s h2:=km1.mv (by omega) m2
 have hn1:=km2.next;have z1:=hz.one;have z2:=hz.cells;simp only [pwA,seval,-iQ0,z1,z2];have km3:=km2.new [.int .i64 p,.int .i64 n,z];have so3:So (h2.new [.int .i64 p,.int .i64 n,z]) s vC bs:=so2.keep (zF _ _);have hn3:(h2.new [.int .i64 p,.int .i64 n,z]).next=h2.next+1:=rfl;generalize h2.new [.int .i64 p,.int .i64 n,z]=H3 at *
 refine zEO hp (ma_el hA) (by omega) (by omega) hz fun v h4 rows a4 hc=>?_
 have hrl:rows.length≤n:=by have:=zBw hq hc;rwa [List.length_map]at this
 have km4:KM T s h4:=km3.keep a4.keep;have so4:So h4 s vC bs:=so3.keep a4.keep;have hn4:=a4.keep.next;have ob4:h4.obj σ.next=some [.int .i64 0,.int .i64 0,.fz true .nils 0 []]:=by rw [km4.obj (by omega) (by omega)];exact obT
 have v1:=a4.acc.one;have v2:=a4.acc.cells;obtain⟨w1,r1⟩:=res3 (a:=p) (b:=(n:Int)) ob4 v1;simp only [pwA,seval,-iQ0,v1,v2,w1,r1];have acc5:PAcc σ.next 1 (h4.set σ.next [.int .i64 p,.int .i64 n,v]) v rows.length (rows.map SR.pv):=by
  rcases a4.acc with ⟨e1,e2,e3⟩|⟨s0,cap,e,q1,q2,q3,q4,q5⟩
  ·exact .inl ⟨e1,e2,e3⟩
  ·exact .inr ⟨s0,cap,e,q1,by rw [zJ,if_neg (by omega)];exact q2,q3,by omega,q5⟩
 have dr5:DR σ.next (h4.set σ.next [.int .i64 p,.int .i64 n,v]) v (rows.map SR.tr) (rows.map SR.x):=dr_of acc5 (fun q hq=>by
  obtain⟨f1,f2,f3,f4⟩:=a4.ok q hq;exact⟨f1,by rw [zJ,if_neg (by omega)];exact f2,by omega,f4⟩) a4.nd a4.ne
 exact hk v rows _ (((so.kmK hkT).trans hs km4).set (Nat.le_refl _) _) (so4.set (by omega) _) dr5 (by omega) (el_ma hp0 hc.base.els)
end Go.Proofs
namespace Go.Grp
end Go.Grp
namespace Go.Proofs
open Go.Ab Go.Lie Go.Grp Go.Mx
variable {σ σ0 h h' h2 g:PHeap} {K:PV→PHeap→Prop} {p c:Int} {n m s t b tb:Nat} {x y w bs xs:List Int} {A B:List (List Int)} {v vC:PV} {rows:List SR}
set_option maxHeartbeats 1600000 in
theorem zHr (so:So σ s vC bs) (hk:∀p c z A h,FII z A→DM p c A→Mv σ s h→So h s vC bs→K (.agg [.int .i64 p,.int .i64 c,z]) h):zC Try.prog 68 [.ptr s 0] σ K:=by
 have hs:=so.lt;refine zC.gh ?_;generalize hT:σ.new [.int .i64 0,.int .i64 0,.fz true .nils 0 []]=T;have hTn:T.next=σ.next+1:=by rw [←hT];rfl
 have hkT:Keep σ T:=by rw [←hT];exact zF σ _
 have obT:T.obj σ.next=some [.int .i64 0,.int .i64 0,.fz true .nils 0 []]:=by rw [←hT];simp only [pwA,seval,-iQ0]
 refine zD mix Try.func68 ?_
 conv=>arg 2;cbv
 refine zG rfl ?_;simp only [pwA,seval,-iQ0];rw [hT];refine zAH (so.keep hkT) fun p h1 hp km1 so1=>?_
 have hpb:=hp.bd;have hsT:s<T.next:=by omega
 simp only [pwA,seval,-iQ0];refine zo so1 (by omega) fun n h2 hn m2 so2=>?_
 simp only [pwA,seval,-iQ0];refine zo so2 (by omega) fun a h4 ha m4 so4=>?_
 have km4:=(km1.mv hsT m2).mv hsT m4;have hn2:=hn.lt (by omega)
 obtain⟨n,rfl⟩:=QE hn.1
 by_cases a0:a=0
 ·subst a0
  simp only [pwA,seval,-iQ0];refine ZM (xs:=[6,7,8]) (so4.keep (zF _ _)) (by have:=km4.next;omega) (by rw [zL,if_pos rfl];rfl) (by decide) fun n' h6 hn' m6 so6=>?_
  have km6:=(km4.new [.int .i64 6,.int .i64 7,.int .i64 8]).mv hsT m6;have hn8:0≤n'∧n'≤8:=by simp at hn';omega
  obtain⟨n',rfl⟩:=QE hn8.1;simp only [pwA,seval,-iQ0];refine zo so6 (by omega) fun b h5 hb m5 so5=>?_
  have km5:=km6.mv hsT m5
  by_cases b0:b=0
  ·subst b0
   simp only [pwA,seval,-iQ0];refine Qq so5 fun p' c' z A h8 hz dm m8 so8=>?_
   have km8:=km5.mv hsT m8;have ob6:h8.obj σ.next=some [.int .i64 0,.int .i64 0,.fz true .nils 0 []]:=by rw [km8.obj (by omega) (by omega)];exact obT
   obtain⟨w1,r1⟩:=res3 (a:=p') (b:=c') ob6 hz.one;have z1:=hz.one;have z2:=hz.cells;simp only [pwA,seval,-iQ0,z1,z2,w1,r1];have kmS:KM σ s h8:=(so.kmK hkT).trans hs km8;exact Gh.km (kmS.set (Nat.le_refl _) _) (so8.set (by omega) _) hs fun σ' m' so' kp=>Gh.fin0 kp ⟨trivial,trivial,hz.bel _,trivial⟩ (hk p' c' z A σ' hz dm m' so')
  simp only [pwA,seval,-iQ0,b0];refine zDM so5 hp (by omega) fun v rows h7 km7 so7 dr hrl hMA=>?_
  have o1:=dr.one.1;have o2:=dr.one.2.1;simp only [pwA,seval,-iQ0,o1,o2];refine QF km7 so7 so5.lt hp (by omega) dr (by rw [List.length_map];omega) hMA (fun t x ht hx=>?_) fun p' c' v' kids' A' h9 km9 so9 dr9 dm=>?_
  ·rw [List.getElem?_map]at ht
   obtain⟨q,hq,rfl⟩:=Option.map_eq_some_iff.1 ht;rw [List.getElem?_map,hq]at hx
   cases hx;exact⟨_,_,rfl⟩
  have hn5:=km5.next;have km8:=km5.trans hsT km9;have ob7:h9.obj σ.next=some [.int .i64 0,.int .i64 0,.fz true .nils 0 []]:=by rw [km8.obj (by omega) (by omega)];exact obT
  obtain⟨w1,r1⟩:=res3 (a:=p') (b:=c') ob7 dr9.one.1;have g1:=dr9.one.1;have g2:=dr9.one.2.1;simp only [pwA,seval,-iQ0,g1,g2,w1,r1];have kmS:KM σ s h9:=(so.kmK hkT).trans hs km8;refine Gh.km (kmS.set (Nat.le_refl _) _) (so9.set (by omega) _) hs fun σ' m' so' kp=>?_
  exact DR.fin (b:=h5.next) (dr9.move (Nat.le_refl _) fun t ht _=>by rw [zJ,if_neg (by omega)]) kp (by rw [m'.next];omega) fun z hz=>hk p' c' z A' σ' hz dm m' so'
 ·simp only [pwA,seval,-iQ0,a0]
  refine zo so4 (by omega) fun b h5 hb m5 so5=>?_
  have km5:=km4.mv hsT m5
  by_cases b0:b=0
  ·subst b0
   simp only [pwA,seval,-iQ0];refine Qq so5 fun p' c' z A h6 hz dm m6 so6=>?_
   have km6:=km5.mv hsT m6;have ob6:h6.obj σ.next=some [.int .i64 0,.int .i64 0,.fz true .nils 0 []]:=by rw [km6.obj (by omega) (by omega)];exact obT
   obtain⟨w1,r1⟩:=res3 (a:=p') (b:=c') ob6 hz.one;have z1:=hz.one;have z2:=hz.cells;simp only [pwA,seval,-iQ0,z1,z2,w1,r1];have kmS:KM σ s h6:=(so.kmK hkT).trans hs km6;exact Gh.km (kmS.set (Nat.le_refl _) _) (so6.set (by omega) _) hs fun σ' m' so' kp=>Gh.fin0 kp ⟨trivial,trivial,hz.bel _,trivial⟩ (hk p' c' z A σ' hz dm m' so')
  simp only [pwA,seval,-iQ0,b0];refine zDM so5 hp (by omega) fun v rows h7 km7 so7 dr hrl hMA=>?_
  have o1:=dr.one.1;have o2:=dr.one.2.1;simp only [pwA,seval,-iQ0,o1,o2];refine QF km7 so7 so5.lt hp (by omega) dr (by rw [List.length_map];omega) hMA (fun t x ht hx=>?_) fun p' c' v' kids' A' h9 km9 so9 dr9 dm=>?_
  ·rw [List.getElem?_map]at ht
   obtain⟨q,hq,rfl⟩:=Option.map_eq_some_iff.1 ht;rw [List.getElem?_map,hq]at hx
   cases hx;exact⟨_,_,rfl⟩
  have hn5:=km5.next;have km8:=km5.trans hsT km9;have ob7:h9.obj σ.next=some [.int .i64 0,.int .i64 0,.fz true .nils 0 []]:=by rw [km8.obj (by omega) (by omega)];exact obT
  obtain⟨w1,r1⟩:=res3 (a:=p') (b:=c') ob7 dr9.one.1;have g1:=dr9.one.1;have g2:=dr9.one.2.1;simp only [pwA,seval,-iQ0,g1,g2,w1,r1];have kmS:KM σ s h9:=(so.kmK hkT).trans hs km8;refine Gh.km (kmS.set (Nat.le_refl _) _) (so9.set (by omega) _) hs fun σ' m' so' kp=>?_
  exact DR.fin (b:=h5.next) (dr9.move (Nat.le_refl _) fun t ht _=>by rw [zJ,if_neg (by omega)]) kp (by rw [m'.next];omega) fun z hz=>hk p' c' z A' σ' hz dm m' so'
end Go.Proofs
namespace Go.Grp
end Go.Grp
namespace Go.Proofs
open Go.Ab Go.Lie Go.Grp Go.Mx
variable {σ σ0 h h' h2 T:PHeap} {K:PV→PHeap→Prop} {p c p0 c0:Int} {n m s t b tb:Nat} {x y w bs xs:List Int} {A A0 B:List (List Int)} {v v0 z0 vC:PV} {kids:List TR}
set_option maxHeartbeats 1600000 in
theorem zAe (hb:FB vC bs) (hB:Byt bs) (hk:∀p c z A p' c' z' A',FII z A→DM p c A→FII z' A'→DM p' c' A'→K (.tup [.agg [.int .i64 p,.int .i64 c,z],.agg [.int .i64 p',.int .i64 c',z']]) σ):
  zC Try.prog 27 [vC] σ K:=by
 have hb1:=hb.one;refine zC.gh ?_;generalize hS:(σ.new [.int .i64 0,.int .i64 0,.fz true .nils 0 []]).new [.int .i64 0,.int .i64 0,.fz true .nils 0 []]=S;have hSn:S.next=σ.next+2:=by rw [←hS];rfl
 have hkS:Keep σ S:=by rw [←hS];exact(zF σ _).new _
 have obS:S.obj σ.next=some [.int .i64 0,.int .i64 0,.fz true .nils 0 []]:=by rw [←hS];simp only [pwA,seval,-iQ0]
 have obS':S.obj (σ.next+1)=some [.int .i64 0,.int .i64 0,.fz true .nils 0 []]:=by rw [←hS];simp only [pwA,seval,-iQ0]
 refine zD mix Try.func27 ?_
 conv=>arg 2;cbv
 refine zG rfl ?_;simp only [pwA,seval,-iQ0];rw [hS];refine zGb hb hB fun sd hsd=>?_
 have so:So (S.new (srcC vC 0 sd)) S.next vC bs:=⟨0,sd,by rw [zL,if_pos rfl],Nat.lt_succ_self _,hb,hB,Nat.zero_le _,hsd⟩
 have hkT:Keep σ (S.new (srcC vC 0 sd)):=hkS.new _;have obT:(S.new (srcC vC 0 sd)).obj σ.next=some [.int .i64 0,.int .i64 0,.fz true .nils 0 []]:=by rw [zL,if_neg (by omega)];exact obS
 have obT':(S.new (srcC vC 0 sd)).obj (σ.next+1)=some [.int .i64 0,.int .i64 0,.fz true .nils 0 []]:=by rw [zL,if_neg (by omega)];exact obS'
 have hTn:(S.new (srcC vC 0 sd)).next=S.next+1:=rfl;generalize S.new (srcC vC 0 sd)=T at *
 simp only [pwA,seval,-iQ0];refine zHr so fun p c z A h1 hz dm m1 so1=>?_
 have km1:=so.km.mv so.lt m1;have z1:=hz.one;have z2:=hz.cells;simp only [pwA,seval,-iQ0,z1,z2];have km2:=km1.new [.int .i64 p,.int .i64 c,z];have so2:So (h1.new [.int .i64 p,.int .i64 c,z]) S.next vC bs:=so1.keep (zF _ _);have hn1:=m1.next;have obA:(h1.new [.int .i64 p,.int .i64 c,z]).obj h1.next=some [.int .i64 p,.int .i64 c,z]:=by rw [zL,if_pos rfl]
 have hn2:(h1.new [.int .i64 p,.int .i64 c,z]).next=h1.next+1:=rfl;generalize h1.new [.int .i64 p,.int .i64 c,z]=H2 at *
 have hsH:S.next<H2.next:=by omega
 have st:∀{h:PHeap},KM H2 S.next h→h.obj σ.next=some [.int .i64 0,.int .i64 0,.fz true .nils 0 []]∧h.obj (σ.next+1)=some [.int .i64 0,.int .i64 0,.fz true .nils 0 []]∧h.obj h1.next=some [.int .i64 p,.int .i64 c,z]∧KM T S.next h:=fun {h} k=>by
  have kT:=km2.trans so.lt k;exact⟨by rw [kT.obj (by omega) (by omega)];exact obT,by rw [kT.obj (by omega) (by omega)];exact obT',by rw [k.obj (by omega) (by omega)];exact obA,kT⟩
 have l2:H2.rd h1.next 0 3=some [.int .i64 p,.int .i64 c,z]:=by rw [qE obA];rfl
 -- a matrix of any kind
 have fin1:∀{h4:PHeap} {p' c':Int} {z':PV} {A':List (List Int)},KM H2 S.next h4→FII z' A'→DM p' c' A'→∃h8 h9,h4.wr σ.next 0 [.int .i64 p,.int .i64 c,z]=some h8∧h8.wr (σ.next+1) 0 [.int .i64 p',.int .i64 c',z']=some h9∧h9.rd σ.next 0 3=some [.int .i64 p,.int .i64 c,z]∧h9.rd (σ.next+1) 0 3=some [.int .i64 p',.int .i64 c',z']∧Gh σ K (.tup [.agg [.int .i64 p,.int .i64 c,z],.agg [.int .i64 p',.int .i64 c',z']]) h9:=fun {h4 p' c' z' A'} km4 hz' dm'=>by
  obtain⟨o1,o2,o3,k4⟩:=st km4;obtain⟨h8,h9,w1,w2,r1,r2,e9⟩:=res33 (a:=p) (b:=c) (a':=p') (b':=c') o1 o2 hz.one hz'.one;refine⟨h8,h9,w1,w2,r1,r2,?_⟩;subst e9;exact Gh.fin0 (((k4.keepN hkT (by omega)).set (Nat.le_refl _) _).set (by omega) _) ⟨⟨trivial,trivial,hz.bel _,trivial⟩,⟨trivial,trivial,hz'.bel _,trivial⟩,trivial⟩ (hk p c z A p' c' z' A' hz dm hz' dm')
 have rest:∀{h4 h6:PHeap} {p' c':Int} {v':PV} {kids':List TR} {A':List (List Int)},KM H2 S.next h4→So h4 S.next vC bs→KM h4 S.next h6→DR h4.next h6 v' kids' A'→DM p' c' A'→∃h8 h9,v'.one=true∧v'.cells=[v']∧h6.wr σ.next 0 [.int .i64 p,.int .i64 c,z]=some h8∧h8.wr (σ.next+1) 0 [.int .i64 p',.int .i64 c',v']=some h9∧h9.rd σ.next 0 3=some [.int .i64 p,.int .i64 c,z]∧h9.rd (σ.next+1) 0 3=some [.int .i64 p',.int .i64 c',v']∧Gh σ K (.tup [.agg [.int .i64 p,.int .i64 c,z],.agg [.int .i64 p',.int .i64 c',v']]) h9:=fun {h4 h6 p' c' v' kids' A'} km4 so4 km46 dr6 dm'=>by
  have hn4:=km4.next;obtain⟨o1,o2,o3,k6⟩:=st (km4.trans hsH km46);obtain⟨h8,h9,w1,w2,r1,r2,e9⟩:=res33 (a:=p) (b:=c) (a':=p') (b':=c') o1 o2 hz.one dr6.one.1;refine⟨h8,h9,dr6.one.1,dr6.one.2.1,w1,w2,r1,r2,?_⟩;subst e9;refine DR.fin2 (b:=h4.next) (dr6.move (Nat.le_refl _) fun t ht _=>by rw [zJ,if_neg (by omega),zJ,if_neg (by omega)]) (((k6.keepN hkT (by omega)).set (Nat.le_refl _) _).set (by omega) _) (by omega) hz fun z' hz'=>hk p c z A p' c' z' A' hz dm hz' dm'
 simp only [pwA,seval,-iQ0,l2];refine zAN dm.sz hz fun t ht=>?_
 cases t with
 | false=>
  simp only [pwA,seval,-iQ0,l2];refine Qq so2 fun p' c' z' A' h4 hz' dm' m4 so4=>?_
  have km4:=so2.km.mv hsH m4;have l4:h4.rd h1.next 0 3=some [.int .i64 p,.int .i64 c,z]:=by rw [qE (st km4).2.2.1];rfl
  obtain⟨h8,h9,w1,w2,r1,r2,gg⟩:=fin1 km4 hz' dm';simp only [pwA,seval,-iQ0,l4,z1,z2,hz'.one,hz'.cells,w1,w2,r1,r2];exact gg
 | true=>
 have hsp:=ht.1 rfl;obtain⟨n,rfl,hn,hp,hl,hMA⟩:=mx_n hsp.1;simp only [pwA,seval,-iQ0,l2];refine zo so2 (by omega) fun a h3 ha m3 so3=>?_
 have km3:KM H2 S.next h3:=so2.km.mv hsH m3;have l3:h3.rd h1.next 0 3=some [.int .i64 p,.int .i64 n,z]:=by rw [qE (st km3).2.2.1];rfl
 have l30:h3.rd1 h1.next 0=some (.int .i64 p):=by rw [zH (st km3).2.2.1];rfl
 have l31:h3.rd1 h1.next 1=some (.int .i64 n):=by rw [zH (st km3).2.2.1];rfl
 by_cases a0:a=0
 ·subst a0
  simp only [pwA,seval,-iQ0,l3];refine Qq so3 fun p' c' z' A' h4 hz' dm' m4 so4=>?_
  have km4:=km3.mv hsH m4;have l4:h4.rd h1.next 0 3=some [.int .i64 p,.int .i64 n,z]:=by rw [qE (st km4).2.2.1];rfl
  obtain⟨h8,h9,w1,w2,r1,r2,gg⟩:=fin1 km4 hz' dm';simp only [pwA,seval,-iQ0,l4,z1,z2,hz'.one,hz'.cells,w1,w2,r1,r2];exact gg
 simp only [pwA,seval,-iQ0,a0,l3,l30,l31];refine zo so3 (by omega) fun k h4 hk4 m4 so4=>?_
 have hk5:=hk4.lt (by omega)
 obtain⟨k,rfl⟩:=QE hk4.1;have km4:=km3.mv hsH m4;have l4:h4.rd h1.next 0 3=some [.int .i64 p,.int .i64 n,z]:=by rw [qE (st km4).2.2.1];rfl
 have l40:h4.rd1 h1.next 0=some (.int .i64 p):=by rw [zH (st km4).2.2.1];rfl
 have l41:h4.rd1 h1.next 1=some (.int .i64 n):=by rw [zH (st km4).2.2.1];rfl
 simp only [pwA,seval,-iQ0,l4,l40,l41];refine Zb so4 hp hn (by omega) fun v kids A' h5 km5 so5 dr hAl hA h00=>?_
 have k5:=km4.trans hsH km5;have l5:h5.rd h1.next 0 3=some [.int .i64 p,.int .i64 n,z]:=by rw [qE (st k5).2.2.1];rfl
 have l50:h5.rd1 h1.next 0=some (.int .i64 p):=by rw [zH (st k5).2.2.1];rfl
 have l51:h5.rd1 h1.next 1=some (.int .i64 n):=by rw [zH (st k5).2.2.1];rfl
 have y1:=dr.one.1;have y2:=dr.one.2.1;simp only [pwA,seval,-iQ0,l5,l50,l51,y1,y2];refine QF km5 so5 so4.lt hp (by omega) dr (by omega) hA h00 fun p' c' v' kids' A' h6 km6 so6 dr6 dm'=>?_
 have k6:=km4.trans hsH km6;have l7:h6.rd h1.next 0 3=some [.int .i64 p,.int .i64 n,z]:=by rw [qE (st k6).2.2.1];rfl
 obtain⟨h8,h9,x1,x2,w1,w2,r1,r2,gg⟩:=rest km4 so4 km6 dr6 dm';simp only [pwA,seval,-iQ0,l7,z1,z2,x1,x2,w1,w2,r1,r2];exact gg
end Go.Proofs
