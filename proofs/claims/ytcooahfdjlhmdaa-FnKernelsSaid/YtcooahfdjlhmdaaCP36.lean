/- Drawn systems of equations; sums. -/
import Derived.Test.YtcooahfdjlhmdaaCP35
open Int renaming reduceNatCast'→iQ0
set_option maxRecDepth 100000
namespace Go.Grp
end Go.Grp
set_option linter.unusedSimpArgs false
set_option linter.unusedVariables false
namespace Go.Proofs
open Go.Ab Go.Lie Go.Grp Go.Mx
variable {σ σ0 h h' h2:PHeap} {K:PV→PHeap→Prop} {p c:Int} {n m s t b:Nat} {x y w bs xs:List Int} {A B:List (List Int)} {v vC:PV} {kids:List TR}
theorem zAl {α:Type} {o:Option α} {K K':α→Prop} (h:optK o K) (f:∀x,K x→K' x):optK o K':=by
 obtain⟨v,hv,k⟩:=h;exact⟨v,hv,f v k⟩
theorem KM.set' (k:KM σ s h) (so:So h s vC bs) {t:Nat} (ht:σ.next≤t) (hs:s<σ.next) (cs:List PV):KM σ s (h.set t cs)∧So (h.set t cs) s vC bs:=⟨k.set ht cs,so.set (by omega) cs⟩
theorem zAW (so:So σ s vC bs) (hp:isP p) (hm:m≤8) (hn:n≤8) (hk:∀v kids A h,KM σ s h→So h s vC bs→DR σ.next h v kids A→A.length=m→Ma p n A→(∀t x,kids[0]? = some t→A[0]? = some x→∃s cap,t=TR.row s cap x)→K (.agg [.int .i64 p,.int .i64 n,v]) h):
  zB Try.prog 45 [.ptr s 0,.int .i64 p,.int .i64 m,.int .i64 n] σ K:=by
 have hs:=so.lt;have hpb:=hp.bd;generalize hT:(σ.new [.int .i64 0,.int .i64 0,.fz true .nils 0 []]).new [.int .i64 p,.int .i64 n,.fz true .nils 0 []]=T;have hTn:T.next=σ.next+2:=by rw [←hT];rfl
 have hkT:Keep σ T:=by rw [←hT];exact(zF σ _).new _
 have obT:T.obj (σ.next+1)=some [.int .i64 p,.int .i64 n,.fz true .nils 0 []]:=by rw [←hT];simp only [pwA,seval,-iQ0]
 have obR:T.obj σ.next=some [.int .i64 0,.int .i64 0,.fz true .nils 0 []]:=by rw [←hT];simp only [pwA,seval,-iQ0]
 refine zC mix Try.func45 ?_
 conv=>arg 2;cbv
 refine zD rfl ?_;simp only [pwA,seval,-iQ0];rw [hT];refine zM (fun k us h=>∃(i:Nat) (v:PV) (kids:List TR) (A:List (List Int)),i≤m∧k=m-i∧us=[.ptr s 0,.int .i64 p,.int .i64 m,.int .i64 n,.ptr σ.next 0,.ptr (σ.next+1) 0,.int .i64 i]∧(KM σ s h∧So h s vC bs∧h.obj (σ.next+1)=some [.int .i64 p,.int .i64 n,v]∧h.obj σ.next=some [.int .i64 0,.int .i64 0,.fz true .nils 0 []]∧T.next≤h.next)∧DR T.next h v kids A∧A.length=i∧Ma p n A∧(∀t x,kids[0]? = some t→A[0]? = some x→∃s cap,t=TR.row s cap x)) m ?_ ?_
 ·exact⟨0,_,[],[],by omega,by omega,rfl,⟨so.kmK hkT,so.keep hkT,obT,obR,Nat.le_refl _⟩,DR.nil _ _,rfl,fun r hr=>(by cases hr),fun t x h=>(by cases h)⟩
 rintro k us h ⟨i,v,kids,A,hi,rfl,rfl,⟨km,so1,ob1,ob0,hTh⟩,dr,hAl,hA,h00⟩
 have hkl:=dr.len;simp only [pwA,seval,-iQ0];refine iteI (fun hlt=>?_) fun hge=>?_
 rotate_left
 ·have hie:i=m:=by omega
  subst hie;have r3:h.rd (σ.next+1) 0 3=some [.int .i64 p,.int .i64 n,v]:=by rw [zm ob1];rfl
  obtain⟨w1,r1⟩:=res3 (a:=p) (b:=(n:Int)) ob0 dr.one.1;simp only [pwA,seval,-iQ0,r3,w1,r1]
  have:=KM.set' km so1 (t:=σ.next) (Nat.le_refl _) hs [.int .i64 p,.int .i64 n,v]
  have dr2:DR T.next (h.set σ.next [.int .i64 p,.int .i64 n,v]) v kids A:=dr.move (Nat.le_refl _) fun t ht _=>by rw [zL,if_neg (by omega)]
  refine hk v kids A _ this.1 this.2 ⟨dr2.row,qY.2 fun t ht=>?_,dr2.nd,?_⟩ hAl hA h00
  ·obtain⟨j,hj,rfl⟩:=List.mem_iff_getElem.1 ht
   obtain⟨t',g1,g2,g3⟩:=dr2.get (i:=j) (by rw [←dr2.len];exact hj)
   rw [List.getElem?_eq_getElem hj]at g1
   cases g1;rcases g2 with ⟨s',cap',e⟩|⟨v',e,hv⟩
   ·rw [e,qJ]at g3
    rw [e,qJ];exact⟨g3.1,g3.2.1,by have:=g3.2.2.1;omega,g3.2.2.2⟩
   ·rw [e];exact hv.bel 0
  ·rcases dr2.out with e | ⟨s0,cap,q1,q2,q3,q4,q5,q6⟩
   ·exact .inl e
   ·exact .inr ⟨s0,cap,q1,q2,q3,by omega,q5,q6⟩
 have wi1:=wrapS hlt (by omega:m≤4611686018427387904)
 -- what follows once the row stands
 have rest:∀{h1:PHeap} {u:TR} {x:List Int} {vX:PV},u.pv=vX→KM σ s h1→So h1 s vC bs→h1.obj (σ.next+1)=some [.int .i64 p,.int .i64 n,v]→h1.obj σ.next=some [.int .i64 0,.int .i64 0,.fz true .nils 0 []]→T.next≤h1.next→DR T.next h1 v kids A→RowT u x→u.okF h1 T.next→(∀s∈u.slots,s∉TR.slotss kids∧∀off l c,v≠.sl s off l c)→Ve p n x→(i=0→∃s cap,u=TR.row s cap x)→
   optK (qF 1 24 (h1.new [vX]) v (.sl h1.next 0 1 (.known 1))) fun pr=>∃(h3:PHeap) (kids:List TR) (A:List (List Int)),pr.2.wr (σ.next+1) 2 [pr.1]=some h3∧pr.1.cells=[pr.1]∧(KM σ s h3∧So h3 s vC bs∧h3.obj (σ.next+1)=some [.int .i64 p,.int .i64 n,pr.1]∧h3.obj σ.next=some [.int .i64 0,.int .i64 0,.fz true .nils 0 []]∧T.next≤h3.next)∧DR T.next h3 pr.1 kids A∧A.length=i+1∧Ma p n A∧(∀t x,kids[0]? = some t→A[0]? = some x→∃s cap,t=TR.row s cap x):=by
  intro h1 u x vX e km1 so1 ob1 ob0 hTh dr ru hu hf hx h0;subst e;obtain⟨σ',m',so',q,hn'⟩:=km1.so so1 hs;refine DR.push (σb:=σ') dr q (by omega) hTh ru hu hf (by omega) fun v' h2 d2 k2 o2 n2 l2=>?_
  have hv1:∀off l c,v≠.sl (σ.next+1) off l c:=dr.below (by omega)
  have hv0:∀off l c,v≠.sl σ.next off l c:=dr.below (by omega)
  have ob2:h2.obj (σ.next+1)=some [.int .i64 p,.int .i64 n,v]:=by rw [o2 _ (by omega) hv1];exact ob1
  have ob3:h2.obj σ.next=some [.int .i64 0,.int .i64 0,.fz true .nils 0 []]:=by rw [o2 _ (by omega) hv0];exact ob0
  have hw:h2.wr (σ.next+1) 2 [v']=some (h2.set (σ.next+1) [.int .i64 p,.int .i64 n,v']):=by
   have:=ql (i:=2) (v:=v') ob2 (by simp) d2.one.1
   simpa using this
  have k3:=KM.set' ⟨σ',m',k2⟩ (so'.keep k2) (t:=σ.next+1) (by omega) hs [.int .i64 p,.int .i64 n,v']
  refine⟨_,kids++[u],A++[x],hw,d2.one.2.1,⟨k3.1,k3.2,by rw [zL,if_pos rfl],by rw [zL,if_neg (by omega)];exact ob3,by show T.next≤h2.next;omega⟩,d2.move (Nat.le_refl _) fun t ht _=>by rw [zL,if_neg (by omega)],by rw [List.length_append,hAl];rfl,fun r hr=>?_,fun t y ht hy=>?_⟩
  ·rcases List.mem_append.1 hr with hr | hr
   ·exact hA r hr
   ·rw [List.mem_singleton.1 hr];exact hx
  ·by_cases hi0:i=0
   ·have hA0:A=[]:=List.eq_nil_of_length_eq_zero (by omega)
    have hk0:kids=[]:=List.eq_nil_of_length_eq_zero (by omega)
    subst hA0 hk0;simp at ht hy
    rw [←ht,←hy];exact h0 hi0
   ·rw [List.getElem?_append_left (by omega)]at ht hy
    exact h00 t y ht hy
 refine Qo so1 (by omega) (by omega) fun t cap x h1 km1 so2 ht1 ht2 ho hf hx=>?_
 have hxl:=hx.len;have km2:=km.trans hs km1;have keep1:∀u,T.next≤u∨u=σ.next∨u=σ.next+1→u<h.next→h1.obj u=h.obj u:=fun u hu hl=>km1.obj hl (by omega)
 have ob1':h1.obj (σ.next+1)=some [.int .i64 p,.int .i64 n,v]:=by rw [keep1 _ (by omega) (by omega)];exact ob1
 have ob0':h1.obj σ.next=some [.int .i64 0,.int .i64 0,.fz true .nils 0 []]:=by rw [keep1 _ (by omega) (by omega)];exact ob0
 have hn1:=km1.next;have dr1:DR T.next h1 v kids A:=dr.km (by omega) km1
 have fr:=dr.fresh ht1;simp only [pwA,seval,-iQ0]
 by_cases hi0:i=0
 ·have hi0':¬(0:Int)<(i:Int):=by omega
  have r2:h1.rd1 (σ.next+1) 2=some v:=by rw [zG ob1'];rfl
  have hne:¬σ.next+1=h1.next:=by omega
  simp only [pwA,seval,-iQ0,hi0',r2,hne];refine zAl (rest (u:=TR.row t cap x) (x:=x) (by rw [TR.row_pv,hxl]) km2 so2 ob1' ob0' (by omega) dr1 (.inl ⟨t,cap,rfl⟩) (qJ.2 ⟨by rw [hxl];exact hf,ho,by omega,ht2⟩) (fun s' hs'=>by rw [TR.row_slots,List.mem_singleton]at hs';subst hs';exact fr) hx fun _=>⟨t,cap,rfl⟩) ?_
  rintro ⟨v',hq⟩ ⟨h3,kids',A',hw,hc,g1,g2,g3,g4,g5⟩
  dsimp only at hw hc g1 g2
  simp only [pwA,seval,-iQ0,hw,hc,wi1];exact⟨m-(i+1),by omega,i+1,v',kids',A',by omega,rfl,rfl,g1,g2,g3,g4,g5⟩
 have hi0':(0:Int)<(i:Int):=by omega
 simp only [pwA,seval,-iQ0,hi0'];refine z8 so2 (by omega) fun x4 h2 hx4 m4 so4=>?_
 have km4:=km2.mv hs m4;have dr4:DR T.next h2 v kids A:=dr1.mv (by omega) m4
 have ob14:h2.obj (σ.next+1)=some [.int .i64 p,.int .i64 n,v]:=by rw [m4.obj (by omega)];exact ob1'
 have ob04:h2.obj σ.next=some [.int .i64 0,.int .i64 0,.fz true .nils 0 []]:=by rw [m4.obj (by omega)];exact ob0'
 have ho4:h2.obj t=some (pis x):=by rw [m4.obj (by omega)];exact ho
 have hn4:=m4.next
 by_cases hx0:x4=0
 rotate_left
 ·have r2:h2.rd1 (σ.next+1) 2=some v:=by rw [zG ob14];rfl
  have hne:¬σ.next+1=h2.next:=by omega
  simp only [pwA,seval,-iQ0,hx0,r2,hne];refine zAl (rest (u:=TR.row t cap x) (x:=x) (by rw [TR.row_pv,hxl]) km4 so4 ob14 ob04 (by omega) dr4 (.inl ⟨t,cap,rfl⟩) (qJ.2 ⟨by rw [hxl];exact hf,ho4,by omega,by omega⟩) (fun s' hs'=>by rw [TR.row_slots,List.mem_singleton]at hs';subst hs';exact fr) hx fun _=>⟨t,cap,rfl⟩) ?_
  rintro ⟨v',hq⟩ ⟨h3,kids',A',hw,hc,g1,g2,g3,g4,g5⟩
  dsimp only at hw hc g1 g2
  simp only [pwA,seval,-iQ0,hw,hc,wi1];exact⟨m-(i+1),by omega,i+1,v',kids',A',by omega,rfl,rfl,g1,g2,g3,g4,g5⟩
 subst hx0;have r2:h2.rd1 (σ.next+1) 2=some v:=by rw [zG ob14];rfl
 simp only [pwA,seval,-iQ0,r2];refine z8 so4 (by omega) fun c h5 hc m5 so5=>?_
 have r5:h5.rd1 (σ.next+1) 2=some v:=by rw [zG (by rw [m5.obj (by omega)];exact ob14)];rfl
 simp only [pwA,seval,-iQ0,r5];refine z8 so5 (by omega) fun j h6 hj m6 so6=>?_
 have ob16:h6.obj (σ.next+1)=some [.int .i64 p,.int .i64 n,v]:=by rw [m6.obj (by omega),m5.obj (by omega)];exact ob14
 have ob06:h6.obj σ.next=some [.int .i64 0,.int .i64 0,.fz true .nils 0 []]:=by rw [m6.obj (by omega),m5.obj (by omega)];exact ob04
 have r6:h6.rd1 (σ.next+1) 2=some v:=by rw [zG ob16];rfl
 have km6:=(km4.mv hs m5).mv hs m6;have dr6:DR T.next h6 v kids A:=(dr4.mv (by omega) m5).mv (by omega) m6
 have hn5:=m5.next;have hn6:=m6.next;have hc2:=hc.lt (by omega)
 have hc3:=hc.1;obtain⟨j,rfl⟩:∃j':Nat,j=(j':Int):=⟨j.toNat,by have:=hj.1;omega⟩
 have hji:j<i:=by have:=hj.lt (by omega);omega
 have hjA:j<A.length:=by omega
 obtain⟨u,hu,hru,huk⟩:=dr6.get hjA;have hxj:=hA _ (List.getElem_mem hjA);rcases dr6.out with ⟨e,_⟩|⟨s0,cap0,e0,f1,f2,f3,f4,f5⟩
 ·rw [e]at hu;simp at hu
 have r0:h6.rd1 s0 j=some u.pv:=by rw [zG f2,qK,List.getElem?_map,hu];rfl
 have hjk:j<kids.length:=by omega
 have sc:zB Try.prog 87 [.int .i64 p,.int .i64 c,u.pv] h6 fun v h=>FI v (scl p c A[j])∧h=h6:=by
  rcases hru with ⟨s',cap',rfl⟩|⟨v',rfl,hv'⟩
  ·rw [qJ]at huk
   have hxjl:=hxj.len;refine zB.fz (e:=1) (l:=n) (cs:=pis (scl p c A[j])) (fun K' k'=>?_) (zi _ _) fun o cap=>⟨⟨true,.sl o 0 n cap,by rw [zg,hxjl]⟩,rfl⟩
   rw [TR.row_pv,hxjl];exact zE6 hpb (by omega) hxj (by omega) huk.2.1 huk.2.2.2 k'
  ·exact Qx hpb (by omega) hxj (by omega) hv' fun z hz=>⟨hz,rfl⟩
 subst e0;simp only [pwA,seval,-iQ0,r6,hjk,r0];refine sc.mono ?_
 rintro z h9 ⟨hz,e9⟩
 obtain rfl:h6=h9:=e9.symm;have hne:¬σ.next+1=h6.next:=by omega
 have g1:=hz.one;have g2:=hz.cells;simp only [pwA,seval,-iQ0,r6,hne,g1,g2];refine zAl (rest (u:=.leaf z) (x:=scl p c A[j]) rfl km6 so6 ob16 ob06 (by omega) dr6 (.inr ⟨z,rfl,hz⟩) (hz.bel 0) (fun s' hs'=>by cases hs') (zJu (by omega) hxj) fun h=>absurd h hi0) ?_
 rintro ⟨v',hq⟩ ⟨h3,kids',A',hw,hc,g1,g2,g3,g4,g5⟩
 dsimp only at hw hc g1 g2
 simp only [pwA,seval,-iQ0,hw,hc,wi1];exact⟨m-(i+1),by omega,i+1,v',kids',A',by omega,rfl,rfl,g1,g2,g3,g4,g5⟩
end Go.Proofs
namespace Go.Grp
end Go.Grp
namespace Go.Proofs
open Go.Ab Go.Lie Go.Grp Go.Mx
variable {σ σ0 h h' h2:PHeap} {K:PV→PHeap→Prop} {p c:Int} {n m s t b tb:Nat} {x y w bs xs:List Int} {A B:List (List Int)} {v vC:PV} {kids:List TR}
structure DM (p c:Int) (A:List (List Int)):Prop where
 p:-10≤p∧p≤11
 c:-10≤c∧c≤20
 l:A.length≤20
 r:∀x∈A,x.length≤20
theorem DM.sz (a:DM p c A):SzL A:=⟨by have:=a.l;omega,fun r hr=>by have:=a.r r hr;omega⟩
structure BX (σ0 h:PHeap) (s tb:Nat) (vC:PV) (bs:List Int) (p c:Int) (v:PV) (kids:List TR) (A:List (List Int)):Prop where
 km:KM σ0 s h
 so:So h s vC bs
 ob:h.obj tb=some [.int .i64 p,.int .i64 c,v]
 or:h.obj (tb+1)=some [.int .i64 0,.int .i64 0,.fz true .nils 0 []]
 lt:tb+2≤h.next
 ge:σ0.next≤tb
 dr:DR σ0.next h v kids A
 nt:tb∉TR.slotss kids∧∀off l c,v≠.sl tb off l c
 nr:tb+1∉TR.slotss kids∧∀off l c,v≠.sl (tb+1) off l c
theorem DR.set (a:DR b h v kids A) {t:Nat} (ht:t∉TR.slotss kids∧∀off l c,v≠.sl t off l c) (cs:List PV):DR b (h.set t cs) v kids A:=by
 refine⟨a.row,a.oks (h':=h.set t cs) (Nat.le_refl _) fun s hs=>by rw [zL,if_neg fun e:s=t=>ht.1 (e ▸ hs)],a.nd,?_⟩
 rcases a.out with e|⟨s0,cap,h1,h2,h3,h4,h5,h6⟩
 ·exact .inl e
 ·exact .inr ⟨s0,cap,h1,h2,by rw [zL,if_neg fun e:s0=t=>ht.2 0 _ cap (by rw [h1,e])];exact h3,h4,h5,h6⟩
theorem BX.mv (a:BX σ0 h s tb vC bs p c v kids A) (hs:s<σ0.next) (m:Mv h s h') (so:So h' s vC bs):BX σ0 h' s tb vC bs p c v kids A:=by
 have hge:=a.ge;exact⟨a.km.mv hs m,so,by rw [m.obj (by omega)];exact a.ob,by rw [m.obj (by omega)];exact a.or,by rw [m.next];exact a.lt,a.ge,a.dr.mv hs m,a.nt,a.nr⟩
theorem BX.keep (a:BX σ0 h s tb vC bs p c v kids A) (k:Keep h h'):BX σ0 h' s tb vC bs p c v kids A:=by
 have hlt:=a.lt;have hn:=k.next;exact⟨a.km.keep k,a.so.keep k,by rw [k.obj _ (by omega)];exact a.ob,by rw [k.obj _ (by omega)];exact a.or,by omega,a.ge,a.dr.keep k,a.nt,a.nr⟩
theorem BX.set (a:BX σ0 h s tb vC bs p c v kids A) (hs:s<σ0.next) (p' c':Int):BX σ0 (h.set tb [.int .i64 p',.int .i64 c',v]) s tb vC bs p' c' v kids A:=by
 have hge:=a.ge;exact⟨a.km.set hge _,a.so.set (by omega) _,by rw [zL,if_pos rfl],by rw [zL,if_neg (by omega)];exact a.or,a.lt,a.ge,a.dr.set a.nt _,a.nt,a.nr⟩
theorem BX.w0 (a:BX σ0 h s tb vC bs p c v kids A) (p':Int):h.wr tb 0 [.int .i64 p']=some (h.set tb [.int .i64 p',.int .i64 c,v]):=by
 have:=ql (i:=0) (v:=.int .i64 p') a.ob (by simp) rfl
 simpa using this
theorem BX.w1 (a:BX σ0 h s tb vC bs p c v kids A) (c':Int):h.wr tb 1 [.int .i64 c']=some (h.set tb [.int .i64 p,.int .i64 c',v]):=by
 have:=ql (i:=1) (v:=.int .i64 c') a.ob (by simp) rfl
 simpa using this
theorem BX.r0 (a:BX σ0 h s tb vC bs p c v kids A):h.rd1 tb 0=some (.int .i64 p):=by rw [zG a.ob];rfl
theorem BX.r1 (a:BX σ0 h s tb vC bs p c v kids A):h.rd1 tb 1=some (.int .i64 c):=by rw [zG a.ob];rfl
theorem BX.r2 (a:BX σ0 h s tb vC bs p c v kids A):h.rd1 tb 2=some v:=by rw [zG a.ob];rfl
theorem BX.fin (a:BX σ0 h s tb vC bs p c v kids A) (hs:s<σ0.next):∃h2,h.rd tb 0 3=some [.int .i64 p,.int .i64 c,v]∧h.wr (tb+1) 0 [.int .i64 p,.int .i64 c,v]=some h2∧h2.rd (tb+1) 0 3=some [.int .i64 p,.int .i64 c,v]∧KM σ0 s h2∧So h2 s vC bs∧DR σ0.next h2 v kids A:=by
 have hge:=a.ge;obtain⟨w1,r1⟩:=res3 (a:=p) (b:=c) a.or a.dr.one.1;exact⟨_,by rw [zm a.ob];rfl,w1,r1,a.km.set (by omega) _,a.so.set (by omega) _,a.dr.set a.nr _⟩
theorem BX.push {Kp:PV×PHeap→Prop} {u:TR} (a:BX σ0 h s tb vC bs p c v kids A) (hs:s<σ0.next) (ru:RowT u x) (hu:u.okF h σ0.next) (hf:∀s∈u.slots,(s∉TR.slotss kids∧∀off l c,v≠.sl s off l c)∧s≠tb∧s≠tb+1) (hb:A.length≤1000)
  (k:∀v' h2 h3,h2.wr tb 2 [v']=some h3→v'.cells=[v']→BX σ0 h3 s tb vC bs p c v' (kids++[u]) (A++[x])→Kp (v',h2)):optK (qF 1 24 (h.new [u.pv]) v (.sl h.next 0 1 (.known 1))) Kp:=by
 obtain⟨σ',m',so',q,hn'⟩:=a.km.so a.so hs;have hge:=a.ge;have hlt:=a.lt;refine DR.push (σb:=σ') a.dr q (by omega) (by omega) ru hu (fun s hs=>(hf s hs).1) hb fun v' h2 d2 k2 o2 n2 l2=>?_
 have ob2:h2.obj tb=some [.int .i64 p,.int .i64 c,v]:=by rw [o2 _ (by omega) a.nt.2];exact a.ob
 have ob3:h2.obj (tb+1)=some [.int .i64 0,.int .i64 0,.fz true .nils 0 []]:=by rw [o2 _ (by omega) a.nr.2];exact a.or
 have hsl:TR.slotss (kids++[u])=TR.slotss kids++u.slots:=by rw [QH];simp [TR.slotss]
 have nn:∀t,t∉TR.slotss kids→t∉u.slots→t∉TR.slotss (kids++[u]):=fun t h1 h2 hm=>by
  rw [hsl,List.mem_append]at hm
  exact hm.elim h1 h2
 have nt':tb∉TR.slotss (kids++[u])∧∀off l c,v'≠.sl tb off l c:=⟨nn _ a.nt.1 fun hm=>(hf _ hm).2.1 rfl,n2 _ (by omega)⟩
 have nr':tb+1∉TR.slotss (kids++[u])∧∀off l c,v'≠.sl (tb+1) off l c:=⟨nn _ a.nr.1 fun hm=>(hf _ hm).2.2 rfl,n2 _ (by omega)⟩
 have hw:h2.wr tb 2 [v']=some (h2.set tb [.int .i64 p,.int .i64 c,v']):=by
  have:=ql (i:=2) (v:=v') ob2 (by simp) d2.one.1
  simpa using this
 exact k v' h2 _ hw d2.one.2.1 ⟨KM.set ⟨σ',m',k2⟩ hge _,(so'.keep k2).set (by omega) _,by rw [zL,if_pos rfl],by rw [zL,if_neg (by omega)];exact ob3,by show tb+2≤h2.next;omega,hge,d2.set nt' _,nt',nr'⟩
theorem BX.put {u:TR} (a:BX σ0 h s tb vC bs p c v kids A) (hs:s<σ0.next) {i:Nat} (hi:i<A.length) (ru:RowT u y) (hu:u.okF h σ0.next) (hf:∀s∈u.slots,(s∉TR.slotss kids∧∀off l c,v≠.sl s off l c)∧s≠tb∧s≠tb+1):
  ∃s0 cap h2,v=.sl s0 0 A.length cap∧h.wr s0 i [u.pv]=some h2∧BX σ0 h2 s tb vC bs p c v (kids.set i u) (A.set i y):=by
 obtain⟨s0,cap,h2,e,hw,d2,hn,ho⟩:=a.dr.put hi ru hu (fun s hs=>(hf s hs).1.1) (fun s hs=>(hf s hs).1.2)
 have hge:=a.ge;have ht:tb≠s0:=fun e2=>a.nt.2 0 _ cap (by rw [e,e2])
 have hr:tb+1≠s0:=fun e2=>a.nr.2 0 _ cap (by rw [e,e2])
 have hsb:σ0.next≤s0:=by
  rcases a.dr.out with ⟨e1,_⟩|⟨s1,cap1,e1,_,_,q,_,_⟩
  ·have:=a.dr.len;rw [e1]at this;simp at this;omega
  ·rw [e]at e1;simp only [PV.sl.injEq]at e1;omega
 have nn:∀t,t∉TR.slotss kids→t∉u.slots→t∉TR.slotss (kids.set i u):=fun t h1 h2 hm=>by
  obtain⟨w,hw,hs⟩:=zx.1 hm;rcases List.mem_or_eq_of_mem_set hw with e|e
  ·exact h1 (zx.2 ⟨w,e,hs⟩)
  ·exact h2 (e ▸ hs)
 -- only slot s0 has changed
 have e2:h2=h.set s0 ((TR.pvs kids).set i u.pv):=by
  rcases a.dr.out with ⟨e1,_⟩|⟨s1,cap1,e1,_,q3,_,_,_⟩
  ·have:=a.dr.len;rw [e1]at this;simp at this;omega
  ·rw [e]at e1
   simp only [PV.sl.injEq]at e1
   obtain⟨rfl,_⟩:=e1
   have:=ql (i:=i) (v:=u.pv) q3 (by rw [qK,List.length_map,a.dr.len];exact hi) ru.one.1
   rw [this]at hw
   cases hw;rfl
 refine⟨s0,cap,h2,e,hw,by rw [e2];exact a.km.set hsb _,by rw [e2];exact a.so.set (by omega) _,by rw [ho _ ht];exact a.ob,by rw [ho _ hr];exact a.or,by rw [hn];exact a.lt,hge,d2,⟨nn _ a.nt.1 fun hm=>(hf _ hm).2.1 rfl,a.nt.2⟩,nn _ a.nr.1 fun hm=>(hf _ hm).2.2 rfl,a.nr.2⟩
theorem BX.cell {s1:Nat} {cap1:Cap} (a:BX σ0 h s tb vC bs p c v kids A) (hs:s<σ0.next) {i:Nat} (hk:kids[i]? = some (TR.row s1 cap1 x)) (hx:A[i]? = some x) (hy:y.length=x.length):BX σ0 (h.set s1 (pis y)) s tb vC bs p c v (kids.set i (TR.row s1 cap1 y)) (A.set i y):=by
 have hge:=a.ge;have hik:=(List.getElem?_eq_some_iff.1 hk).1;have hm:=List.mem_of_getElem? hk;have hin:s1∈TR.slotss kids:=zx.2 ⟨_,hm,by rw [TR.row_slots];simp⟩
 have hsl:=a.dr.slot s1 hin;have hok:=qJ.1 (qY.1 a.dr.ok _ hm);have epv:(TR.row s1 cap1 y).pv=(TR.row s1 cap1 x).pv:=by rw [TR.row_pv,TR.row_pv,hy]
 have esl:(TR.row s1 cap1 y).slots=(TR.row s1 cap1 x).slots:=by rw [TR.row_slots,TR.row_slots]
 have hpv:TR.pvs (kids.set i (TR.row s1 cap1 y))=TR.pvs kids:=by rw [qK,qK];exact Zm TR.pv hk epv
 have hss:TR.slotss (kids.set i (TR.row s1 cap1 y))=TR.slotss kids:=by
  have fm:∀ts:List TR,TR.slotss ts=(ts.map TR.slots).flatten:=fun ts=>by
   induction ts with
   | nil=>rfl
   | cons t ts ih=>simp only [TR.slotss,List.map_cons,List.flatten_cons,ih]
  rw [fm,fm,Zm TR.slots hk esl]
 have nd1:∀j u,j≠i→kids[j]? = some u→s1∉u.slots:=fun j u hj hu hm1=>by
  have fm:∀(ts:List TR) (i j:Nat) (a b:TR),i≠j→ts[i]? = some a→ts[j]? = some b→(TR.slotss ts).Nodup→s1∈a.slots→s1∉b.slots:=by
   intro ts
   induction ts with
   | nil=>intro i j a b _ h;simp at h
   | cons t ts ih=>
    intro i j a b hij ha hb nd h1 h2;simp only [TR.slotss,List.nodup_append]at nd
    cases i with
    | zero=>
     cases j with
     | zero=>exact hij rfl
     | succ j=>
      simp only [List.getElem?_cons_zero,Option.some.injEq]at ha
      simp only [List.getElem?_cons_succ]at hb
      exact nd.2.2 s1 (ha ▸ h1) s1 (zx.2 ⟨b,List.mem_of_getElem? hb,h2⟩) rfl
    | succ i=>
     cases j with
     | zero=>
      simp only [List.getElem?_cons_zero,Option.some.injEq]at hb
      simp only [List.getElem?_cons_succ]at ha
      exact nd.2.2 s1 (hb ▸ h2) s1 (zx.2 ⟨a,List.mem_of_getElem? ha,h1⟩) rfl
     | succ j=>
      simp only [List.getElem?_cons_succ]at ha hb
      exact ih i j a b (fun e=>hij (by rw [e])) ha hb nd.2.1 h1 h2
  exact fm kids i j _ u (Ne.symm hj) hk hu a.dr.nd (by rw [TR.row_slots];simp) hm1
 refine⟨a.km.set (by omega) _,a.so.set (by omega) _,by rw [zL,if_neg fun e:tb=s1=>a.nt.1 (e ▸ hin)];exact a.ob,by rw [zL,if_neg fun e:tb+1=s1=>a.nr.1 (e ▸ hin)];exact a.or,a.lt,hge,⟨?_,qY.2 fun u hu=>?_,by rw [hss];exact a.dr.nd,?_⟩,⟨by rw [hss];exact a.nt.1,a.nt.2⟩,by rw [hss];exact a.nr.1,a.nr.2⟩
 ·refine⟨by rw [List.length_set,List.length_set];exact a.dr.row.1,fun j u z hu hz=>?_⟩
  rw [List.getElem?_set]at hu hz
  by_cases e:i=j
  ·subst e
   rw [if_pos rfl,if_pos hik]at hu
   rw [if_pos rfl,if_pos (by rw [←a.dr.len];exact hik)]at hz
   cases hu;cases hz;exact .inl ⟨s1,cap1,rfl⟩
  ·rw [if_neg e]at hu hz
   exact a.dr.row.2 j u z hu hz
 ·obtain⟨j,hj⟩:=List.getElem?_of_mem hu
  rw [List.getElem?_set]at hj
  by_cases e:i=j
  ·subst e
   rw [if_pos rfl,if_pos hik]at hj
   cases hj;exact qJ.2 ⟨by rw [hy];exact hok.1,by rw [zL,if_pos rfl],hok.2.2⟩
  ·rw [if_neg e]at hj
   have hjl:=(List.getElem?_eq_some_iff.1 hj).1;obtain⟨u',h1,h2,h3⟩:=a.dr.get (i:=j) (by rw [←a.dr.len];exact hjl)
   rw [hj]at h1
   cases h1;exact h2.move h3 (Nat.le_refl _) fun s' hs'=>by rw [zL,if_neg fun e2:s'=s1=>nd1 j u (Ne.symm e) hj (e2 ▸ hs')]
 ·rcases a.dr.out with ⟨e,_⟩ | ⟨s0,cap,q1,q2,q3,q4,q5,q6⟩
  ·rw [e]at hik;simp at hik
  ·exact .inr ⟨s0,cap,by rw [List.length_set];exact q1,by rw [List.length_set];exact q2,by rw [zL,if_neg fun e:s0=s1=>q6 (e ▸ hin),hpv];exact q3,q4,q5,by rw [hss];exact q6⟩
end Go.Proofs
namespace Go.Grp
end Go.Grp
namespace Go.Proofs
open Go.Ab Go.Lie Go.Grp Go.Mx
variable {σ σ0 h h' h2:PHeap} {K:PV→PHeap→Prop} {p c:Int} {n m s t b tb:Nat} {x y w bs xs:List Int} {A B:List (List Int)} {v vC:PV} {kids:List TR}
set_option maxHeartbeats 1600000 in
theorem zCz (km:KM σ0 s σ) (so:So σ s vC bs) (hs:s<σ0.next) (hp:isP p) (hn:n≤8) (dr:DR σ0.next σ v kids A) (hAl:A.length≤8) (hA:Ma p n A) (h00:∀t x,kids[0]? = some t→A[0]? = some x→∃s cap,t=TR.row s cap x)
  (hk:∀p' c' v' kids' A' h,KM σ0 s h→So h s vC bs→DR σ0.next h v' kids' A'→DM p' c' A'→K (.agg [.int .i64 p',.int .i64 c',v']) h):
  zB Try.prog 44 [.ptr s 0,.agg [.int .i64 p,.int .i64 n,v]] σ K:=by
 have hpb:=hp.bd;have h1:=dr.one.1;have hσ:=km.next;generalize hT:(σ.new [.int .i64 p,.int .i64 n,v]).new [.int .i64 0,.int .i64 0,.fz true .nils 0 []]=T;have hkT:Keep σ T:=by rw [←hT];exact(zF σ _).new _
 have B:BX σ0 T s σ.next vC bs p n v kids A:=⟨km.keep hkT,so.keep hkT,by rw [←hT];simp only [pwA,seval,-iQ0],by rw [←hT];simp only [pwA,seval,-iQ0],by rw [←hT];exact Nat.le_refl _,hσ,dr.keep hkT,dr.fresh (Nat.le_refl _),dr.fresh (by omega)⟩
 have dm0:DM p n A:=⟨by omega,by omega,by omega,fun x hx=>by rw [(hA x hx).len];omega⟩
 refine Qa mix Try.func44 cf44 rfl ?_;dsimp only [if44,eI,qD,eD,mI0,kI0,lI0,LI0,fI0,bI0,cI0,sI0,C2,mD0,lD0,fD0,xD0,I0,G0,aI0,vI0,wD0,R0,S0];simp only [pwA,seval,-iQ0,h1];rw [hT];refine z8 B.so (by omega) fun a H ha m1 so1=>?_
 have B:=B.mv hs m1 so1;have ha2:=ha.lt (by omega)
 clear so1 m1 hkT hT;have fin:∀{h:PHeap} {p' c':Int} {v':PV} {kids':List TR} {A':List (List Int)},BX σ0 h s σ.next vC bs p' c' v' kids' A'→DM p' c' A'→∃h2,h.rd σ.next 0 3=some [.int .i64 p',.int .i64 c',v']∧h.wr (σ.next+1) 0 [.int .i64 p',.int .i64 c',v']=some h2∧h2.rd (σ.next+1) 0 3=some [.int .i64 p',.int .i64 c',v']∧K (.agg [.int .i64 p',.int .i64 c',v']) h2:=fun b dm=>by
  obtain⟨h9,f1,f2,f3,f4,f5,f6⟩:=b.fin hs;exact⟨h9,f1,f2,f3,hk _ _ _ _ _ _ f4 f5 f6 dm⟩
 have hnt:s≠σ.next:=by have:=B.ge;omega
 have hlt:=B.lt
 by_cases a0:a=0
 ·subst a0
  simp only [pwA,seval,-iQ0];refine Ze (xs:=[1,4,11,0,-3]) (B.so.keep (zF _ _)) (by omega) (by rw [zN,if_pos rfl];rfl) (by decide) fun x h2 hx m2 so2=>?_
  have B2:=(B.keep (zF _ _)).mv hs m2 so2;obtain⟨h9,f1,f2,f3,f4⟩:=fin (B2.set hs x n) ⟨by simp at hx;omega,dm0.c,dm0.l,dm0.r⟩
  simp only [pwA,seval,-iQ0,B2.w0,f1,f2,f3];exact f4
 by_cases a1:a=1
 ·subst a1
  have ew:IntKind.i64.wrap ((n:Int)+1)=(n:Int)+1:=wrap64 (by omega) (by omega)
  have r1:=B.r1;simp only [pwA,seval,-iQ0,r1,ew];refine Ze (xs:=[-1,(n:Int)+1,9]) (B.so.keep (zF _ _)) (by omega) (by rw [zN,if_pos rfl];rfl) (by simp) fun x h2 hx m2 so2=>?_
  have B2:=(B.keep (zF _ _)).mv hs m2 so2;obtain⟨h9,f1,f2,f3,f4⟩:=fin (B2.set hs p x) ⟨dm0.p,by simp at hx;omega,dm0.l,dm0.r⟩
  simp only [pwA,seval,-iQ0,B2.w1,f1,f2,f3];exact f4
 by_cases a4:a=4
 ·subst a4
  have r2:=B.r2;have hlen:=B.dr.one.2.2
  by_cases hA0:A.length=0
  ·have hA0':¬(0:Int)<(A.length:Int):=by omega
   obtain⟨h9,f1,f2,f3,f4⟩:=fin B dm0;simp only [pwA,seval,-iQ0,r2,hlen,hA0',decide_false,f1,f2,f3];exact f4
  have hA0':(0:Int)<(A.length:Int):=by omega
  obtain⟨u,hu,hru,huk⟩:=B.dr.get (i:=0) (by omega)
  obtain⟨s1,cap1,rfl⟩:=h00 u A[0] hu (List.getElem?_eq_getElem (by omega))
  have hx0:=(hA _ (List.getElem_mem (show 0<A.length by omega))).len
  rcases B.dr.out with ⟨e,_⟩|⟨s0,cap0,e0,q2,q3,q4,q5,q6⟩
  ·rw [e]at hu;simp at hu
  have hkl:=B.dr.len;have r0:H.rd1 s0 0=some (.sl s1 0 n cap1):=by rw [zG q3,qK,List.getElem?_map,hu,←hx0,←TR.row_pv];rfl
  have hk0:0<A.length:=by omega
  rw [hkl]at e0
  by_cases hn0:n=0
  ·have hn0':¬(0:Int)<(n:Int):=by omega
   obtain⟨h9,f1,f2,f3,f4⟩:=fin B dm0;subst e0;simp only [pwA,seval,-iQ0,r2,hA0',hk0,r0,hn0',decide_true,decide_false,f1,f2,f3];exact f4
  have hn0':(0:Int)<(n:Int):=by omega
  have hn0n:0<n:=by omega
  have r00:=B.r0;subst e0;simp only [pwA,seval,-iQ0,r2,hA0',hk0,r0,r00,hn0',decide_true];have ne1:¬s0=H.next:=by omega
  have ne2:¬σ.next=H.next:=by omega
  simp only [pwA,seval,-iQ0,ne1,ne2,decide_true,and_self,true_and];refine Ze (xs:=[p,-1]) (B.so.keep (zF _ _)) (by omega) (by rw [zN,if_pos rfl];rfl) (by simp) fun x h2 hx m2 so2=>?_
  have B2:=(B.keep (zF H [.int .i64 p,.int .i64 (-1)])).mv hs m2 so2;have e2:h2.obj s0=some (TR.pvs kids):=by rw [m2.obj (by omega),zN,if_neg ne1];exact q3
  have r0':h2.rd1 s0 0=some (.sl s1 0 n cap1):=by rw [zG e2,qK,List.getElem?_map,hu,←hx0,←TR.row_pv];rfl
  have r2':=B2.r2;rw [qJ]at huk
  have e3:h2.obj s1=some (pis A[0]):=by rw [m2.obj (by omega),zN,if_neg (by omega)];exact huk.2.1
  have hw:h2.wr s1 0 [.int .i64 x]=some (h2.set s1 (pis (A[0].set 0 x))):=by
   rw [ql e3 (by rw [zJ];omega) rfl,zAB]
  have B3:=B2.cell hs hu (List.getElem?_eq_getElem (by omega)) (y:=A[0].set 0 x) (by simp)
  obtain⟨h9,f1,f2,f3,f4⟩:=fin B3 ⟨dm0.p,dm0.c,by simp;exact dm0.l,fun y hy=>by
   rcases List.mem_or_eq_of_mem_set hy with e|e
   ·exact dm0.r y e
   ·rw [e];simp;omega⟩
  simp only [pwA,seval,-iQ0,r0',r2',hn0',hn0n,hw,f1,f2,f3];exact f4
 by_cases a2:a=2
 ·subst a2
  have hkl:=B.dr.len;rcases B.dr.out with ⟨e,e1⟩|⟨s0,cap0,e0,q2,q3,q4,q5,q6⟩
  ·have hA0:A.length=0:=by rw [←hkl,e];rfl
   have hA0':¬(0:Int)<(A.length:Int):=by omega
   have hlen:=B.dr.one.2.2;obtain⟨h9,f1,f2,f3,f4⟩:=fin B dm0;have r2:=B.r2;simp only [pwA,seval,-iQ0];refine zM (fun k us h=>k=0∧us=[.ptr σ.next 0,.ptr (σ.next+1) 0,.int .i64 0]∧h=H) 0 ⟨rfl,rfl,rfl⟩ ?_
   rintro k us h ⟨rfl,rfl,rfl⟩
   simp only [pwA,seval,-iQ0,r2,hlen,hA0',decide_false,f1,f2,f3];exact f4
  rw [hkl]at e0
  subst e0;simp only [pwA,seval,-iQ0];refine zM (fun k us h=>∃(i:Nat) (kids':List TR),i≤A.length∧k=A.length-i∧us=[.ptr σ.next 0,.ptr (σ.next+1) 0,.int .i64 i]∧BX σ0 h s σ.next vC bs p n (.sl s0 0 A.length cap0) kids' ((A.take i).map (·++[0])++A.drop i)) A.length ⟨0,kids,by omega,by omega,rfl,by rw [List.take_zero,List.map_nil,List.nil_append,List.drop_zero];exact B⟩ ?_
  rintro k us h ⟨i,kids',hi,rfl,rfl,B1⟩
  have r2:=B1.r2;have hl1:((A.take i).map (·++[0])++A.drop i).length=A.length:=by simp;omega
  by_cases hlt':i<A.length
  rotate_left
  ·have hie:i=A.length:=by omega
   subst hie;rw [List.take_length,List.drop_length,List.append_nil]at B1
   obtain⟨h9,f1,f2,f3,f4⟩:=fin B1 ⟨dm0.p,dm0.c,by simp;exact dm0.l,fun y hy=>by
    obtain⟨z,hz,rfl⟩:=List.mem_map.1 hy;rw [List.length_append,(hA z hz).len];simp;omega⟩
   simp only [pwA,seval,-iQ0,r2,Nat.lt_irrefl,decide_false,f1,f2,f3];exact f4
  obtain⟨u,hu,hru,huk⟩:=B1.dr.get (i:=i) (by rw [hl1];exact hlt')
  have hAi:((A.take i).map (·++[0])++A.drop i)[i]'(by rw [hl1];exact hlt')=A[i]:=by
   rw [List.getElem_append_right (by simp;omega)]
   simp [Nat.min_eq_left hi]
  rw [hAi]at hru
  have hxl:=(hA _ (List.getElem_mem hlt')).len;rcases B1.dr.out with ⟨e,_⟩|⟨s1,cap1,e1,p2,p3,p4,p5,p6⟩
  ·rw [e]at hu;simp at hu
  have e1':=e1;simp only [PV.sl.injEq]at e1'
  obtain⟨rfl,_,hkl',rfl⟩:=e1';have r0:h.rd1 s0 i=some u.pv:=by rw [zG p3,qK,List.getElem?_map,hu];rfl
  have own:∀{hX:PHeap},Keep h hX→zB Try.prog 86 [u.pv] hX fun v h'=>∃cap,full 1 cap A[i].length∧v=.sl hX.next 0 A[i].length cap∧h'=hX.new (pis A[i]):=fun {hX} kX=>by
   rcases hru with ⟨s',cap',rfl⟩|⟨v',rfl,w,av,rfl⟩
   ·rw [qJ]at huk
    rw [TR.row_pv];exact zC0 (by rw [kX.obj _ huk.2.2.2];exact huk.2.1) (by have:=kX.next;omega) (by omega) fun cap hc=>⟨cap,hc,rfl,rfl⟩
   ·exact Zf rfl (by omega) fun cap hc=>⟨cap,hc,rfl,rfl⟩
  have wi1:=wrapS hlt' (by omega:A.length≤4611686018427387904)
  have ne1:¬s0=h.next:=by omega
  have hge:=B1.ge;have hlt1:=B1.lt;have ne2:¬σ.next=h.next:=by omega
  simp only [pwA,seval,-iQ0,r2,hlt',decide_true,r0,ne1,ne2,zBM,List.nil_append,and_self,true_and];refine(own (zF _ _)).mono ?_
  rintro z h9 ⟨cap2,hc2,rfl,rfl⟩
  have hY:∀t,((h.new [.int .i64 0]).new (pis A[i])).obj t=if t=h.next+1 then some (pis A[i])else if t=h.next then some [.int .i64 0]else h.obj t:=fun t=>by
   rw [zN,zN];rfl
  have kY:Keep h ((h.new [.int .i64 0]).new (pis A[i])):=(zF _ _).new _;have nY:((h.new [.int .i64 0]).new (pis A[i])).next=h.next+2:=rfl;have nX:(h.new [.int .i64 0]).next=h.next+1:=rfl;rw [nX];have r2':((h.new [.int .i64 0]).new (pis A[i])).rd1 σ.next 2=some (.sl s0 0 A.length cap0):=(B1.keep kY).r2;generalize (h.new [.int .i64 0]).new (pis A[i])=Y at *
  simp only [pwA,seval,-iQ0,r2'];refine PAcc.appS (σb:=h) (m:=1) (news:=[.int .i64 0]) (rows:=pis A[i]) kY (.inr (PSl.own hc2 (by rw [hY,if_pos rfl]) (by rw [zJ,Nat.mul_one]) (by omega) (by omega))) rfl (by omega) ?_ rfl (by omega) (by omega) fun v' h3 k3 a3 o3 n3 l3=>?_
  ·rw [QA,if_neg (by omega),if_pos (Nat.le_refl _),zm (by rw [hY,if_neg (by omega),if_pos rfl]),if_pos (by simp)]
   rfl
  obtain⟨t,cap3,rfl,c1,c2,c3,c4,c5⟩:=a3;rw [show pis A[i]++[PV.int .i64 0]=pis (A[i]++[0]) by simp [pis]]at c2
  have r2'':=(B1.keep k3).r2;have hl2:A[i].length+1=(A[i]++[0]).length:=by simp
  obtain⟨s9,cap9,h4,e9,w9,B4⟩:=(B1.keep k3).put hs (i:=i) (u:=TR.row t cap3 (A[i]++[0])) (y:=A[i]++[0]) (by rw [hl1];exact hlt') (.inl ⟨t,cap3,rfl⟩) (qJ.2 ⟨by rw [←hl2];exact c1,c2,by omega,c5⟩) (fun s' hs'=>by
   rw [TR.row_slots,List.mem_singleton]at hs'
   subst hs';exact⟨B1.dr.fresh c4,by omega,by omega⟩)
  rw [TR.row_pv,←hl2]at w9
  simp only [PV.sl.injEq]at e9
  obtain⟨rfl,_,_,_⟩:=e9;have hset:((A.take i).map (·++[0])++A.drop i).set i (A[i]++[0])=(A.take (i+1)).map (·++[0])++A.drop (i+1):=by
   have:=QS (a:=A.map (·++[0])) (b:=A) (i:=i) (by simp) (by simpa using hlt')
   rw [List.getElem_map,←List.map_take,←List.map_take]at this
   exact this
  rw [hset]at B4
  simp only [pwA,seval,-iQ0,hlt',r2'',w9,wi1];exact⟨A.length-(i+1),by omega,i+1,_,by omega,rfl,rfl,B4⟩
 by_cases a3:a=3
 ·subst a3
  simp only [pwA,seval,-iQ0];refine zM (fun k us h=>∃(i:Nat) (v':PV) (kids':List TR),i≤9∧k=9-i∧us=[.ptr σ.next 0,.ptr (σ.next+1) 0,.int .i64 i]∧BX σ0 h s σ.next vC bs p n v' kids' (A++List.replicate i (List.replicate n 0))) 9 ⟨0,v,kids,by omega,by omega,rfl,by rw [List.replicate_zero,List.append_nil];exact B⟩ ?_
  rintro k us h ⟨i,v',kids',hi,rfl,rfl,B1⟩
  have r2:=B1.r2;have r1:=B1.r1
  by_cases hlt':i<9
  rotate_left
  ·have hie:i=9:=by omega
   subst hie;obtain⟨h9,f1,f2,f3,f4⟩:=fin B1 ⟨dm0.p,dm0.c,by simp;omega,fun y hy=>by
    rcases List.mem_append.1 hy with e|e
    ·exact dm0.r y e
    ·rw [(List.mem_replicate.1 e).2];simp;omega⟩
   simp only [pwA,seval,-iQ0,f1,f2,f3];exact f4
  have hle:(i:Int)≤8:=by omega
  have wi1:IntKind.i64.wrap ((i:Int)+1)=((i+1:Nat):Int):=by rw [wrap64 (by omega) (by omega)];omega
  have hge:=B1.ge;have hlt1:=B1.lt;have ne2:¬σ.next=h.next:=by omega
  have ne3:¬σ.next=h.next+1:=by omega
  have hmx:max (0:Int) (n:Int)=(n:Int):=by omega
  simp only [pwA,seval,-iQ0,hle,r1,r2,ne2,ne3,hmx,ZP,mk8 (n:=n) (by omega),mkL (n:=n) (by omega),decide_true]
  have ez:PV.sl h.next 0 n (.known n)=(TR.row h.next (.known n) (List.replicate n 0)).pv:=by rw [TR.row_pv];simp
  rw [ez];refine BX.push (B1.keep (zF h (pis (List.replicate n 0)))) hs (x:=List.replicate n 0) (.inl ⟨_,_,rfl⟩) (qJ.2 ⟨by rw [List.length_replicate];exact .inr rfl,by rw [zN,if_pos rfl],by omega,Nat.lt_succ_self _⟩) (fun s' hs'=>by
   rw [TR.row_slots,List.mem_singleton]at hs'
   subst hs';exact⟨B1.dr.fresh (Nat.le_refl _),by omega,by omega⟩) (by simp;omega) fun v2 h3 h4 w9 hc B4=>?_
  rw [List.append_assoc,←List.replicate_succ']at B4
  simp only [pwA,seval,-iQ0,w9,hc,wi1];exact⟨9-(i+1),by omega,i+1,v2,_,by omega,rfl,rfl,B4⟩
 obtain⟨h9,f1,f2,f3,f4⟩:=fin B dm0;simp only [pwA,seval,-iQ0,a0,a1,a2,a3,a4,f1,f2,f3];exact f4
end Go.Proofs
namespace Go.Grp
end Go.Grp
namespace Go.Proofs
open Go.Ab Go.Lie Go.Grp Go.Mx
variable {σ σ0 h h' h2:PHeap} {K:PV→PHeap→Prop} {p c:Int} {n m s t b tb:Nat} {x y w bs xs:List Int} {A B:List (List Int)} {v vC:PV} {kids:List TR}
theorem zAE {a:Int} (h:0≤a):∃k:Nat,a=(k:Int):=⟨a.toNat,by omega⟩
theorem zHY (so:So σ s vC bs) (hk:∀p c z A h,FII z A→DM p c A→Mv σ s h→So h s vC bs→K (.agg [.int .i64 p,.int .i64 c,z]) h):zB Try.prog 41 [.ptr s 0] σ K:=by
 have hs:=so.lt;refine zB.gh ?_;generalize hT:σ.new [.int .i64 0,.int .i64 0,.fz true .nils 0 []]=T;have hTn:T.next=σ.next+1:=by rw [←hT];rfl
 have hkT:Keep σ T:=by rw [←hT];exact zF σ _
 have obT:T.obj σ.next=some [.int .i64 0,.int .i64 0,.fz true .nils 0 []]:=by rw [←hT];simp only [pwA,seval,-iQ0]
 refine zC mix Try.func41 ?_
 conv=>arg 2;cbv
 refine zD rfl ?_;simp only [pwA,seval,-iQ0];rw [hT];refine zCi (so.keep hkT) fun p h1 hp km1 so1=>?_
 have hpb:=hp.bd;have hsT:s<T.next:=by omega
 simp only [pwA,seval,-iQ0];refine z8 so1 (by omega) fun m h2 hm m2 so2=>?_
 simp only [pwA,seval,-iQ0];refine z8 so2 (by omega) fun n h3 hn m3 so3=>?_
 simp only [pwA,seval,-iQ0];refine z8 so3 (by omega) fun a h4 ha m4 so4=>?_
 have km4:=((km1.mv hsT m2).mv hsT m3).mv hsT m4;have hm2:=hm.lt (by omega)
 have hn2:=hn.lt (by omega)
 obtain⟨m,rfl⟩:=zAE hm.1;obtain⟨n,rfl⟩:=zAE hn.1
 -- the end
 have rest:∀{h5 h7:PHeap} {p' c':Int} {v':PV} {kids':List TR} {A':List (List Int)},KM T s h5→So h5 s vC bs→KM h5 s h7→So h7 s vC bs→DR h5.next h7 v' kids' A'→DM p' c' A'→∃h8,v'.one=true∧v'.cells=[v']∧h7.wr σ.next 0 [.int .i64 p',.int .i64 c',v']=some h8∧h8.rd σ.next 0 3=some [.int .i64 p',.int .i64 c',v']∧Gh σ K (.agg [.int .i64 p',.int .i64 c',v']) h8:=fun {h5 h7 p' c' v' kids' A'} km5 so5 km57 so7 dr7 dm=>by
  have hn5:=km5.next;have km7:=km5.trans hsT km57;have ob7:h7.obj σ.next=some [.int .i64 0,.int .i64 0,.fz true .nils 0 []]:=by rw [km7.obj (by omega) (by omega)];exact obT
  obtain⟨w1,r1⟩:=res3 (a:=p') (b:=c') ob7 dr7.one.1;refine⟨_,dr7.one.1,dr7.one.2.1,w1,r1,?_⟩;have kmS:KM σ s h7:=(so.kmK hkT).trans hs km7;refine Gh.km (kmS.set (Nat.le_refl _) _) (so7.set (by omega) _) hs fun σ' m' so' kp=>?_
  exact DR.fin (b:=h5.next) (dr7.move (Nat.le_refl _) fun t ht _=>by rw [zL,if_neg (by omega)]) kp (by rw [m'.next];omega) fun z hz=>hk p' c' z A' σ' hz dm m' so'
 by_cases a0:a=0
 ·subst a0
  simp only [pwA,seval,-iQ0];refine Ze (xs:=[8,7,6]) (so4.keep (zF _ _)) (by have:=km4.next;omega) (by rw [zN,if_pos rfl];rfl) (by decide) fun m' h5 hm' m5 so5=>?_
  have km5:=(km4.new [.int .i64 8,.int .i64 7,.int .i64 6]).mv hsT m5;simp only [pwA,seval,-iQ0];refine Ze (xs:=[8,7,6]) (so5.keep (zF _ _)) (by have:=km5.next;omega) (by rw [zN,if_pos rfl];rfl) (by decide) fun n' h6 hn' m6 so6=>?_
  have km6:=(km5.new [.int .i64 8,.int .i64 7,.int .i64 6]).mv hsT m6;have hm8:0≤m'∧m'≤8:=by simp at hm';omega
  have hn8:0≤n'∧n'≤8:=by simp at hn';omega
  obtain⟨m',rfl⟩:=zAE hm8.1;obtain⟨n',rfl⟩:=zAE hn8.1;simp only [pwA,seval,-iQ0];refine zAW so6 hp (by omega) (by omega) fun v kids A h7 km7 so7 dr hAl hA h00=>?_
  have o1:=dr.one.1;have o2:=dr.one.2.1;simp only [pwA,seval,-iQ0,o1,o2];refine zCz km7 so7 so6.lt hp (by omega) dr (by omega) hA h00 fun p' c' v' kids' A' h9 km9 so9 dr9 dm=>?_
  obtain⟨h8,g1,g2,w1,r1,gg⟩:=rest km6 so6 km9 so9 dr9 dm;simp only [pwA,seval,-iQ0,g1,g2,w1,r1];exact gg
 ·simp only [pwA,seval,-iQ0,a0]
  refine zAW so4 hp (by omega) (by omega) fun v kids A h7 km7 so7 dr hAl hA h00=>?_
  have o1:=dr.one.1;have o2:=dr.one.2.1;simp only [pwA,seval,-iQ0,o1,o2];refine zCz km7 so7 so4.lt hp (by omega) dr (by omega) hA h00 fun p' c' v' kids' A' h9 km9 so9 dr9 dm=>?_
  obtain⟨h8,g1,g2,w1,r1,gg⟩:=rest km4 so4 km9 so9 dr9 dm;simp only [pwA,seval,-iQ0,g1,g2,w1,r1];exact gg
end Go.Proofs
namespace Go.Grp
end Go.Grp
namespace Go.Proofs
open Go.Ab Go.Lie Go.Grp Go.Mx
variable {σ σ0 h h' h2 T:PHeap} {K:PV→PHeap→Prop} {p c p0 c0:Int} {n m s t b tb:Nat} {x y w bs xs:List Int} {A A0 B:List (List Int)} {v v0 z0 vC:PV} {kids:List TR}
theorem KM.keepN (km:KM T s h) (kT:Keep σ T) (hs:σ.next≤s):Keep σ h:=by
 obtain⟨T',m,q⟩:=km;refine⟨Nat.le_trans kT.next (by rw [←m.next];exact q.next),Nat.le_trans kT.top (by rw [←m.top];exact q.top),fun t ht=>?_⟩
 have:=kT.next
 rw [q.obj t (by rw [m.next];omega),m.obj (by omega),kT.obj t ht]
end Go.Proofs
namespace Go.Grp
end Go.Grp
namespace Go.Proofs
open Go.Ab Go.Lie Go.Grp Go.Mx
variable {σ σ0 h h' h2:PHeap} {K:PV→PHeap→Prop} {p c:Int} {n m s t b tb:Nat} {x y w bs xs:List Int} {A B:List (List Int)} {v vC:PV} {kids:List TR}
theorem zHx {w:Bool} {a:AV} {l:Nat} (hl:l=xs.length) (hb:xs.length≤1048576) (hz:isZ xs) (hk:K (.int .i64 0) σ):zB Try.prog 38 [.fz w a l (pis xs)] σ K:=by
 subst hl;refine zC mix Try.func38 ?_
 conv=>arg 2;cbv
 refine zD rfl ?_;simp only [pwA,seval,-iQ0];refine zM (fun m vs h'=>∃i:Nat,i≤xs.length∧m=xs.length-i∧vs=[.fz w a xs.length (pis xs),.int .i64 0,.int .i64 i]∧h'=σ) xs.length ?_ ?_
 ·exact⟨0,by omega,by omega,rfl,rfl⟩
 rintro m vs h' ⟨i,hi,rfl,rfl,rfl⟩
 by_cases hlt:i<xs.length
 ·have h0:=hz _ (List.getElem_mem hlt)
  have ew:IntKind.i64.wrap (0+0)=0:=rfl;simp only [pwA,seval,-iQ0,hlt,zQ,gi hlt,h0,ew,wrapS hlt (by omega:xs.length≤4611686018427387904)]
  exact⟨_,by omega,i+1,by omega,rfl,rfl⟩
 ·simp only [pwA,seval,-iQ0,hlt]
  exact hk
theorem ZF (so:So σ s vC bs) (hp:1≤p∧p≤1000) (hn:n≤1000) (hk:∀v x h,FI v x→Ve p n x→Mv σ s h→So h s vC bs→K v h):zB Try.prog 75 [.ptr s 0,.int .i64 p,.int .i64 n] σ K:=
 zB.gh (Qo so hp hn fun t cap x h km so1 h1 h2 ho hc hx=>Gh.km km so1 so.lt fun σ' m so' kp=>Gh.finF kp ho (by rw [m.next];exact h1) (zi _ _) hc.ok fun o=>hk _ x σ' ⟨true,.sl o 0 n cap,by rw [hx.len]⟩ hx m so')
theorem zBq (hb:FB vC bs) (hB:Byt bs) (hk:∀p c z A v x,FII z A→DM p c A→FI v x→x.length≤64→K (.tup [.agg [.int .i64 p,.int .i64 c,z],v]) σ):
  zB Try.prog 32 [vC] σ K:=by
 have hb1:=hb.one;refine zB.gh ?_;generalize hS:σ.new [.int .i64 0,.int .i64 0,.fz true .nils 0 []]=S;have hSn:S.next=σ.next+1:=by rw [←hS];rfl
 have hkS:Keep σ S:=by rw [←hS];exact zF σ _
 have obS:S.obj σ.next=some [.int .i64 0,.int .i64 0,.fz true .nils 0 []]:=by rw [←hS];simp only [pwA,seval,-iQ0]
 refine zC mix Try.func32 ?_
 conv=>arg 2;cbv
 refine zD rfl ?_;simp only [pwA,seval,-iQ0];rw [hS];refine zGH hb hB fun sd hsd=>?_
 have so:So (S.new (srcC vC 0 sd)) S.next vC bs:=⟨0,sd,by rw [zN,if_pos rfl],Nat.lt_succ_self _,hb,hB,Nat.zero_le _,hsd⟩
 have hkT:Keep σ (S.new (srcC vC 0 sd)):=hkS.new _;have obT:(S.new (srcC vC 0 sd)).obj σ.next=some [.int .i64 0,.int .i64 0,.fz true .nils 0 []]:=by rw [zN,if_neg (by omega)];exact obS
 have hTn:(S.new (srcC vC 0 sd)).next=S.next+1:=rfl;generalize S.new (srcC vC 0 sd)=T at *
 simp only [pwA,seval,-iQ0];refine zHY so fun p c z A h1 hz dm m1 so1=>?_
 have z1:=hz.one;have z2:=hz.cells;simp only [pwA,seval,-iQ0,z1,z2];have km2:=(so.km.mv so.lt m1).new [.int .i64 p,.int .i64 c,z];have so2:So (h1.new [.int .i64 p,.int .i64 c,z]) S.next vC bs:=so1.keep (zF _ _);have hn1:=m1.next;have obA:(h1.new [.int .i64 p,.int .i64 c,z]).obj h1.next=some [.int .i64 p,.int .i64 c,z]:=by rw [zN,if_pos rfl]
 have hn2:(h1.new [.int .i64 p,.int .i64 c,z]).next=h1.next+1:=rfl;generalize h1.new [.int .i64 p,.int .i64 c,z]=H2 at *
 have hsH:S.next<H2.next:=by omega
 have st:∀{h:PHeap},KM H2 S.next h→h.obj σ.next=some [.int .i64 0,.int .i64 0,.fz true .nils 0 []]∧h.obj h1.next=some [.int .i64 p,.int .i64 c,z]∧KM T S.next h:=fun {h} k=>by
  have kT:=km2.trans so.lt k;exact⟨by rw [kT.obj (by omega) (by omega)];exact obT,by rw [k.obj (by omega) (by omega)];exact obA,kT⟩
 -- the end
 have fin:∀{h:PHeap} {v:PV} {x:List Int},KM H2 S.next h→FI v x→x.length≤64→∃h8,h.rd h1.next 0 3=some [.int .i64 p,.int .i64 c,z]∧h.wr σ.next 0 [.int .i64 p,.int .i64 c,z]=some h8∧h8.rd σ.next 0 3=some [.int .i64 p,.int .i64 c,z]∧Gh σ K (.tup [.agg [.int .i64 p,.int .i64 c,z],v]) h8:=fun {h v x} km hv hx=>by
  obtain⟨o1,o2,kT⟩:=st km;obtain⟨w1,r1⟩:=res3 (a:=p) (b:=c) o1 z1;exact⟨_,by rw [zm o2];rfl,w1,r1,Gh.fin0 ((kT.keepN hkT (by omega)).set (Nat.le_refl _) _) ⟨⟨trivial,trivial,hz.bel _,trivial⟩,hv.bel _,trivial⟩ (hk p c z A v x hz dm hv hx)⟩
 have l2:H2.rd h1.next 0 3=some [.int .i64 p,.int .i64 c,z]:=by rw [zm obA];rfl
 simp only [pwA,seval,-iQ0,l2];refine Qe dm.sz hz fun t ht=>?_
 -- a vector of no use
 have odd:∀{h:PHeap},KM H2 S.next h→So h S.next vC bs→True:=fun _ _=>trivial
 cases t with
 | false=>
  simp only [pwA,seval,-iQ0,l2];refine z8 so2 (by omega) fun a h3 ha m3 so3=>?_
  have ha4:=ha.lt (by omega)
  obtain⟨a,rfl⟩:=zAE ha.1;have km3:KM H2 S.next h3:=so2.km.mv hsH m3;have l3:h3.rd h1.next 0 3=some [.int .i64 p,.int .i64 c,z]:=by rw [zm (st km3).2.1];rfl
  simp only [pwA,seval,-iQ0,l3];refine ZF so3 (by omega) (by omega) fun v x h4 hv hx m4 so4=>?_
  obtain⟨h8,g1,g2,g3,gg⟩:=fin (km3.mv hsH m4) hv (by rw [hx.len];omega)
  simp only [pwA,seval,-iQ0,g1,g2,g3];exact gg
 | true=>
 have hm:=ht.1 rfl;obtain⟨n,rfl,hn,hp,hl,hA⟩:=mx_n hm;have hpb:=hp.bd;simp only [pwA,seval,-iQ0,l2];refine z8 so2 (by omega) fun a h3 ha m3 so3=>?_
 have km3:KM H2 S.next h3:=so2.km.mv hsH m3;have l3:h3.rd h1.next 0 3=some [.int .i64 p,.int .i64 n,z]:=by rw [zm (st km3).2.1];rfl
 by_cases a0:a=0
 ·subst a0
  simp only [pwA,seval,-iQ0,l3];refine z8 so3 (by omega) fun a h5 ha m5 so5=>?_
  have ha4:=ha.lt (by omega)
  obtain⟨a,rfl⟩:=zAE ha.1;have km5:=km3.mv hsH m5;have l5:h5.rd h1.next 0 3=some [.int .i64 p,.int .i64 n,z]:=by rw [zm (st km5).2.1];rfl
  simp only [pwA,seval,-iQ0,l5];refine ZF so5 (by omega) (by omega) fun v x h4 hv hx m4 so4=>?_
  obtain⟨h8,g1,g2,g3,gg⟩:=fin (km5.mv hsH m4) hv (by rw [hx.len];omega)
  simp only [pwA,seval,-iQ0,g1,g2,g3];exact gg
 simp only [pwA,seval,-iQ0,a0];refine z8 so3 (by omega) fun a h5 ha m5 so5=>?_
 have km5:=km3.mv hsH m5;have l5:h5.rd h1.next 0 3=some [.int .i64 p,.int .i64 n,z]:=by rw [zm (st km5).2.1];rfl
 have l50:h5.rd1 h1.next 0=some (.int .i64 p):=by rw [zG (st km5).2.1];rfl
 have l51:h5.rd1 h1.next 1=some (.int .i64 n):=by rw [zG (st km5).2.1];rfl
 have l52:h5.rd1 h1.next 2=some z:=by rw [zG (st km5).2.1];rfl
 have zl:pLen z=some (.int .i64 A.length):=by obtain⟨w,a,r,rfl,_⟩:=hz;rfl
 by_cases a0:a=0
 ·subst a0
  simp only [pwA,seval,-iQ0,l5,l50,l51];refine ZF so5 (by omega) (by omega) fun v x h4 hv hx m4 so4=>?_
  obtain⟨h8,g1,g2,g3,gg⟩:=fin (km5.mv hsH m4) hv (by rw [hx.len];omega)
  simp only [pwA,seval,-iQ0,g1,g2,g3];exact gg
 simp only [pwA,seval,-iQ0,a0,l5,l50,l51,l52,zl];refine ZF so5 (by omega) (by omega) fun v x h4 hv hx m4 so4=>?_
 have km4:=km5.mv hsH m4;have l40:h4.rd1 h1.next 0=some (.int .i64 p):=by rw [zG (st km4).2.1];rfl
 have l41:h4.rd1 h1.next 1=some (.int .i64 n):=by rw [zG (st km4).2.1];rfl
 have l42:h4.rd1 h1.next 2=some z:=by rw [zG (st km4).2.1];rfl
 have l43:h4.rd h1.next 0 3=some [.int .i64 p,.int .i64 n,z]:=by rw [zm (st km4).2.1];rfl
 simp only [pwA,seval,-iQ0,l40,l41,l42,l43,zl];refine zE4 hpb hA hx hn hl hz hv fun z' hz'=>?_
 obtain⟨h8,g1,g2,g3,gg⟩:=fin km4 hz' (by rw [(vt_ve (by omega:0<p) hA hx.len).len];omega)
 simp only [pwA,seval,-iQ0,l40,l41,l42,l43,g1,g2,g3];exact gg
end Go.Proofs
