/- Direct products of presentations. -/
import Derived.Test.YtfoidnlodahfjaaGreatBP42
import Derived.Test.YtfoidnlodahfjaaGreatBP32
open Int renaming reduceNatCast'→iQ0
set_option maxRecDepth 100000
namespace Go.Grp
end Go.Grp
set_option linter.unusedSimpArgs false
set_option linter.unusedVariables false
set_option linter.unusedSectionVars false
namespace Go.Proofs
open Go.Ab Go.Lie Go.Grp
variable {σ σ0 h h':PHeap} {K:PV→PHeap→Prop} {b s t n k nP nC:Nat} {L L':Nat→Nat} {Q Q':Nat→Prop} {len:Nat→Nat} {v vO vP vC c vX:PV} {x O xs:List Int} {P M:List (List Int)} {C:List (List (List Int))} {cs:List PV}
structure TvI (σ h:PHeap) (Q:Nat→Prop) (O:List Int) (L:Nat→Nat) (nP nC:Nat) (len:Nat→Nat) (r s:Nat) (vO vP vC:PV):Prop where
 keep:Keep σ h
 res:h.obj r=some [.fz true .nils 0 [],.fz true .nils 0 [],.fz true .nils 0 []]
 ob:h.obj s=some [vO,vP,vC]
 pw:PW L σ.next h Q O nP nC len vO vP vC
 lr:L r=7
 ls:L s=7
 ne:r≠s
 nr:σ.next≤r∧r<h.next
 ns:σ.next≤s∧s<h.next
variable {r:Nat}
theorem TvI.r1 (a:TvI σ h Q O L nP nC len r s vO vP vC):h.rd1 s 1=some vP:=by rw [zH a.ob];rfl
theorem TvI.r2 (a:TvI σ h Q O L nP nC len r s vO vP vC):h.rd1 s 2=some vC:=by rw [zH a.ob];rfl
theorem TvI.r3 (a:TvI σ h Q O L nP nC len r s vO vP vC):h.rd s 0 3=some [vO,vP,vC]:=by rw [zb a.ob];rfl
theorem TvI.fin (a:TvI σ h Q O L nP nC len r s vO vP vC):h.wr r 0 [vO,vP,vC]=some (h.set r [vO,vP,vC])∧(h.set r [vO,vP,vC]).rd r 0 3=some [vO,vP,vC]∧Keep σ (h.set r [vO,vP,vC])∧PW L σ.next (h.set r [vO,vP,vC]) Q O nP nC len vO vP vC:=by
 refine⟨by rw [zX a.res,if_pos ⟨by simp,by simp [a.pw.hO.one,a.pw.hP.one,a.pw.hC.one]⟩];rfl,by rw [qZ,if_pos rfl];rfl,a.keep.set a.nr.1 _,a.pw.set7 (by rw [a.lr];exact Nat.le_refl _) _⟩
theorem TvI.keepL (a:TvI σ h Q O L nP nC len r s vO vP vC) (hk:Keep σ h') (hn:h.next≤h'.next) (ho:∀t,σ.next≤t→t<h.next→h'.obj t=h.obj t) (hL:∀t,t<h.next→L' t=L t):TvI σ h' Q O L' nP nC len r s vO vP vC:=
 ⟨hk,by rw [ho r a.nr.1 a.nr.2];exact a.res,by rw [ho s a.ns.1 a.ns.2];exact a.ob,a.pw.keepL hn ho hL,by rw [hL r a.nr.2];exact a.lr,by rw [hL s a.ns.2];exact a.ls,a.ne,⟨a.nr.1,by have:=a.nr.2;omega⟩,⟨a.ns.1,by have:=a.ns.2;omega⟩⟩
theorem TvI.fresh (a:TvI σ h Q O L nP nC len r s vO vP vC) (cs:List PV) (k:Nat):TvI σ (h.new cs) Q O (mkM L h.next k) nP nC len r s vO vP vC:=a.keepL (a.keep.new cs) (Nat.le_succ _) (fun t _ ht=>by rw [zD,if_neg (by omega)]) (qG (Nat.le_refl _))
theorem TvI.step (a:TvI σ h Q O L nP nC len r s vO vP vC) {nP' nC':Nat} {uO uP uC:PV} (hk:Keep σ h') (hp:PW L' σ.next h' Q O nP' nC' len uO uP uC) (hn:h.next≤h'.next) (h7:∀t,t<h.next→7≤L t→h'.obj t=h.obj t∧L' t=L t):TvI σ (h'.set s [uO,uP,uC]) Q O L' nP' nC' len r s uO uP uC:=by
 have hs:=h7 s a.ns.2 (by rw [a.ls];exact Nat.le_refl _)
 have hr:=h7 r a.nr.2 (by rw [a.lr];exact Nat.le_refl _)
 have ls:L' s=7:=by rw [hs.2];exact a.ls
 have:=a.nr.2
 have:=a.ns.2
 exact⟨hk.set a.ns.1 _,by rw [zJ,if_neg a.ne,hr.1];exact a.res,by rw [zJ,if_pos rfl],hp.set7 (by rw [ls];exact Nat.le_refl _) _,by rw [hr.2];exact a.lr,ls,a.ne,⟨a.nr.1,by show r<h'.next;omega⟩,⟨a.ns.1,by show s<h'.next;omega⟩⟩
theorem TvI.old (a:TvI σ h Q O L nP nC len r s vO vP vC) (h7:∀t,t<h.next→7≤L t→h'.obj t=h.obj t∧L' t=L t):h'.obj s=some [vO,vP,vC]:=by
 rw [(h7 s a.ns.2 (by rw [a.ls];exact Nat.le_refl _)).1];exact a.ob
theorem TvI.keepK (a:TvI σ h Q O L nP nC len r s vO vP vC) (hk:6≤k) (hk7:k≠7) (kp:Keep σ h') (hn:h.next≤h'.next) (ho:∀t,t<h.next→L t≠k→h'.obj t=h.obj t) (hL:∀t,t<h.next→L' t=L t):TvI σ h' Q O L' nP nC len r s vO vP vC:=
 ⟨kp,by rw [ho r a.nr.2 (by rw [a.lr];exact Ne.symm hk7)];exact a.res,by rw [ho s a.ns.2 (by rw [a.ls];exact Ne.symm hk7)];exact a.ob,a.pw.keepK hk hn (fun t _ ht hne=>ho t ht hne) fun t ht _=>hL t ht,by rw [hL r a.nr.2];exact a.lr,by rw [hL s a.ns.2];exact a.ls,a.ne,⟨a.nr.1,by have:=a.nr.2;omega⟩,⟨a.ns.1,by have:=a.ns.2;omega⟩⟩
theorem zBx (hlen:pLen vX=some (.int .i64 O.length)) (hb:O.length≤1000)
  (hcl:∀{g:PHeap} {K':PV→PHeap→Prop},Keep σ g→(∀cap,full 1 cap O.length→K' (.sl g.next 0 O.length cap) (g.new (pis O)))→zA Tryz.prog 63 [vX] g K')
  (hk:∀L h vO vP vC,Keep σ h→PW L σ.next h (fun m=>m=O.length) O O.length O.length (fun j=>O.length-1-j) vO vP vC→K (.agg [vO,vP,vC]) h):zA Tryz.prog 203 [vX] σ K:=by
 refine zC mix Tryz.func203 ?_
 conv=>arg 2;cbv
 refine zF rfl ?_;simp only [pwA,seval,-iQ0,hlen];refine hcl (zB _ _) fun cap hc=>?_
 simp only [pwA,seval,-iQ0];generalize hn:O.length=n at *
 refine zG (fun m vs h=>∃(i:Nat) (L:Nat→Nat) (vO vP vC:PV),i≤n∧m=n-i∧vs=[.ptr σ.next 0,.int .i64 n,.ptr (σ.next+2) 0,.int .i64 i]∧TvI σ h (fun m=>m=n) O L i i (fun j=>n-1-j) σ.next (σ.next+2) vO vP vC) n ?_ ?_
 ·refine⟨0,fun t=>if t=σ.next+1 then 5 else 7,.sl (σ.next+1) 0 n cap,_,_,Nat.zero_le _,rfl,rfl,((zB _ _).new _).new _,by simp only [pwA,seval,-iQ0],by simp only [pwA,seval,-iQ0],⟨⟨σ.next+1,cap,by rw [hn],by rw [hn];exact hc,by simp only [pwA,seval,-iQ0],by omega,by show σ.next+1<σ.next+3;omega,if_pos rfl⟩,.inl ⟨rfl,rfl⟩,.inl ⟨rfl,rfl⟩⟩,if_neg (by omega),if_neg (by omega),by omega,⟨Nat.le_refl _,by show σ.next<σ.next+3;omega⟩,⟨by omega,by show σ.next+2<σ.next+3;omega⟩⟩
 rintro m vs h ⟨i,L,vO,vP,vC,hi,rfl,rfl,a⟩
 have hnn:=a.ns.2;simp only [pwA,seval,-iQ0];refine iteI (fun hlt=>?_) fun hge=>?_
 rotate_left
 ·have e:i=n:=by omega
  subst e;obtain⟨e1,e2,e3,e4⟩:=a.fin;simp only [pwA,seval,-iQ0,a.r3,e1,e2];exact hk L _ vO vP vC e3 e4
 have n1:¬σ.next+2=h.next:=by omega
 have n2:¬σ.next+2=h.next+1:=by omega
 simp only [pwA,seval,-iQ0,a.r1,n1,n2,zi,mk8 (n:=n) (by omega),Go.Ab.mkL (n:=n) (by omega)]
 have a1:=a.fresh (pis (List.replicate n 0)) 1;have hrow:RowAt (mkM L h.next 1) (h.new (pis (List.replicate n 0))) σ.next (fun m=>m=n) (.sl h.next 0 n (.known n)):=by
  have:=RowAt.fresh (L:=L) (h:=h) (b:=σ.next) (Q:=fun m=>m=n) (x:=List.replicate n 0) (cap:=.known n) (by omega) (by simp) (by simp [full])
  simpa using this
 refine PW.pushP a1.pw hrow a1.keep (Nat.le_refl _) (by show σ.next≤h.next+1;omega) (by omega) fun v1 h1 L1 k1 p1 l1 o1 m1=>?_
 have hs1:=a1.old m1;have w1:h1.wr (σ.next+2) 1 [v1]=some (h1.set (σ.next+2) [vO,v1,vC]):=by rw [zX hs1,if_pos ⟨by simp,by simp [p1.hP.one]⟩];rfl
 have a2:=a1.step k1 p1 (Nat.le_of_lt l1) m1;simp only [pwA,seval,-iQ0,w1,p1.hP.cells];have l1':h.next+1<h1.next:=l1;have wi:IntKind.i64.wrap ((i:Int)+1)=((i+1:Nat):Int):=by rw [wrap64 (by omega) (by omega)];omega
 rw [wi];generalize hg2:h1.set (σ.next+2) [vO,v1,vC]=g2 at *
 rw [show h1.next=g2.next by rw [←hg2];rfl]
 have hb2:σ.next+2<g2.next:=by rw [←hg2];show _<h1.next;omega
 clear hs1 w1 m1 o1 p1 k1 hrow a1 a;have a3:=a2.fresh [] 6;have mR:MatAt (mkM L1 g2.next 6) (g2.new []) σ.next (fun m=>m=n) 6 0 (.sl g2.next 0 0 (.known 0)):=⟨g2.next,.known 0,[],rfl,.inr rfl,by rw [zD,if_pos rfl],rfl,by omega,Nat.lt_succ_self _,ZW,fun c hc=>by cases hc⟩
 refine zG (fun m vs h=>∃(j:Nat) (L:Nat→Nat) (vR:PV),i+1≤j∧j≤n∧m=n-j∧vs=[.ptr σ.next 0,.int .i64 n,.ptr (σ.next+2) 0,.int .i64 i,vR,.int .i64 j]∧TvI σ h (fun m=>m=n) O L (i+1) i (fun j=>n-1-j) σ.next (σ.next+2) vO v1 vC∧MatAt L h σ.next (fun m=>m=n) 6 (j-(i+1)) vR) (n-(i+1)) ?_ ?_
 ·exact⟨i+1,_,_,Nat.le_refl _,hlt,rfl,rfl,a3,by rw [Nat.sub_self];exact mR⟩
 clear a3 mR a2 hg2 l1 l1'
 rintro m vs h ⟨j,L,vR,hij,hj,rfl,rfl,a,mR⟩
 have hnn:=a.ns.2;have n1:¬σ.next+2=h.next:=by omega
 simp only [pwA,seval,-iQ0];refine iteI (fun hjt=>?_) fun hge=>?_
 rotate_left
 ·have e:j=n:=by omega
  subst e;simp only [pwA,seval,-iQ0,a.r2,mR.one,mR.cells];refine PW.pushC (m:=j-(i+1)) a.pw mR (by omega) a.keep (Nat.le_refl _) (by omega) (by omega) fun v2 h2 L2 k2 p2 l2 o2 m2=>?_
  have w2:h2.wr (σ.next+2) 2 [v2]=some (h2.set (σ.next+2) [vO,v1,v2]):=by rw [zX (a.old m2),if_pos ⟨by simp,by simp [p2.hC.one]⟩];rfl
  have a2:=a.step k2 p2 (Nat.le_of_lt l2) m2;simp only [pwA,seval,-iQ0,w2,p2.hC.cells,wi];exact⟨_,by omega,i+1,L2,vO,v1,v2,by omega,rfl,rfl,a2⟩
 simp only [pwA,seval,-iQ0];refine Qy (by omega) hjt fun cap2 hc2=>?_
 have a1:=a.fresh (pis (unitL n j)) 1;have hrow:RowAt (mkM L h.next 1) (h.new (pis (unitL n j))) σ.next (fun m=>m=n) (.sl h.next 0 n cap2):=by
  have:=RowAt.fresh (L:=L) (h:=h) (b:=σ.next) (Q:=fun m=>m=n) (x:=unitL n j) (cap:=cap2) (by omega) (zh n j) (by rw [zh];exact hc2)
  rw [zh]at this;exact this
 simp only [pwA,seval,-iQ0];refine MatN.push (k:=6) (.inr (mR.keep (L':=mkM L h.next 1) (h':=h.new (pis (unitL n j))) (Nat.le_succ _) (fun t _ ht=>by rw [zD,if_neg (by omega)]) (qG (Nat.le_refl _)))) (by decide) hrow a1.keep (Nat.le_refl _) (by show σ.next≤h.next+1;omega) (by omega) fun v2 h2 L2 k2 p2 l2 hL2 ho2 _=>?_
 have wj:IntKind.i64.wrap ((j:Int)+1)=((j+1:Nat):Int):=by rw [wrap64 (by omega) (by omega)];omega
 simp only [pwA,seval,-iQ0,wj];refine⟨_,by omega,j+1,L2,v2,by omega,by omega,rfl,rfl,a1.keepK (k:=6) (Nat.le_refl _) (by decide) k2 (Nat.le_of_lt l2) ho2 hL2,?_⟩
 rw [show j+1-(i+1)=j-(i+1)+1 by omega];exact p2
end Go.Proofs
namespace Go.Grp
end Go.Grp
namespace Go.Proofs
open Go.Ab Go.Lie Go.Grp
variable {σ σ0 h h':PHeap} {K:PV→PHeap→Prop} {b s t n k nP nC r s0 i j:Nat} {L L':Nat→Nat} {Q Q':Nat→Prop} {len:Nat→Nat} {v vO vP vC c vX vS:PV} {x O xs bs:List Int} {P M:List (List Int)} {C:List (List (List Int))} {cs:List PV}
structure TB (b:Nat) (h:PHeap) (Q:Nat→Prop) (O:List Int) (L:Nat→Nat) (nP nC:Nat) (len:Nat→Nat) (r s:Nat) (vO vP vC:PV):Prop where
 res:h.obj r=some [.fz true .nils 0 [],.fz true .nils 0 [],.fz true .nils 0 []]
 hr:r<b
 ob:h.obj s=some [vO,vP,vC]
 pw:PW L b h Q O nP nC len vO vP vC
 ls:L s=7
 ns:b≤s∧s<h.next
theorem TB.r0 (a:TB b h Q O L nP nC len r s vO vP vC):h.rd1 s 0=some vO:=by rw [zH a.ob];rfl
theorem TB.r1 (a:TB b h Q O L nP nC len r s vO vP vC):h.rd1 s 1=some vP:=by rw [zH a.ob];rfl
theorem TB.r2 (a:TB b h Q O L nP nC len r s vO vP vC):h.rd1 s 2=some vC:=by rw [zH a.ob];rfl
theorem TB.r3 (a:TB b h Q O L nP nC len r s vO vP vC):h.rd s 0 3=some [vO,vP,vC]:=by rw [zb a.ob];rfl
theorem TB.fin (a:TB b h Q O L nP nC len r s vO vP vC):h.wr r 0 [vO,vP,vC]=some (h.set r [vO,vP,vC])∧(h.set r [vO,vP,vC]).rd r 0 3=some [vO,vP,vC]∧PW L b (h.set r [vO,vP,vC]) Q O nP nC len vO vP vC:=
 ⟨by rw [zX a.res,if_pos ⟨by simp,by simp [a.pw.hO.one,a.pw.hP.one,a.pw.hC.one]⟩];rfl,by rw [qZ,if_pos rfl];rfl,a.pw.set a.hr _⟩
theorem TB.start (a:PW L b h Q O nP nC len vO vP vC) (hr:r<b) (hres:h.obj r=some [.fz true .nils 0 [],.fz true .nils 0 [],.fz true .nils 0 []]) (hb:b≤h.next):TB b (h.new [vO,vP,vC]) Q O (mkM L h.next 7) nP nC len r h.next vO vP vC:=
 ⟨by rw [zD,if_neg (by omega)];exact hres,hr,by rw [zD,if_pos rfl],a.fresh _ _,ZW,⟨hb,Nat.lt_succ_self _⟩⟩
theorem TB.keepL (a:TB b h Q O L nP nC len r s vO vP vC) (hn:h.next≤h'.next) (hr:h'.obj r=h.obj r) (ho:∀t,b≤t→t<h.next→h'.obj t=h.obj t) (hL:∀t,t<h.next→L' t=L t):TB b h' Q O L' nP nC len r s vO vP vC:=
 ⟨by rw [hr];exact a.res,a.hr,by rw [ho s a.ns.1 a.ns.2];exact a.ob,a.pw.keepL hn ho hL,by rw [hL s a.ns.2];exact a.ls,⟨a.ns.1,by have:=a.ns.2;omega⟩⟩
theorem TB.rlt (a:TB b h Q O L nP nC len r s vO vP vC):r<h.next:=by have:=a.hr;have:=a.ns;omega
theorem TB.keep (a:TB b h Q O L nP nC len r s vO vP vC) (kk:Keep h h'):TB b h' Q O L nP nC len r s vO vP vC:=a.keepL kk.next (kk.obj r a.rlt) (fun t _ ht=>kk.obj t ht) fun _ _=>rfl
theorem TB.new (a:TB b h Q O L nP nC len r s vO vP vC) (xs:List PV):TB b (h.new xs) Q O L nP nC len r s vO vP vC:=a.keep (zB h xs)
theorem TB.fresh (a:TB b h Q O L nP nC len r s vO vP vC) (cs:List PV) (k:Nat):TB b (h.new cs) Q O (mkM L h.next k) nP nC len r s vO vP vC:=
 a.keepL (Nat.le_succ _) (by rw [zD,if_neg (by have:=a.rlt;omega)]) (fun t _ ht=>by rw [zD,if_neg (by omega)]) (qG (Nat.le_refl _))
theorem TB.mv (a:TB b h Q O L nP nC len r s vO vP vC) (hs:s0<b) (hne:s0≠r) (m:Mv h s0 h'):TB b h' Q O L nP nC len r s vO vP vC:=
 a.keepL (by rw [m.next];exact Nat.le_refl _) (m.obj (Ne.symm hne)) (fun t hb _=>m.obj (by omega)) fun _ _=>rfl
theorem TB.wrote (a:TB b h Q O L nP nC len r s vO vP vC) (ht:b≤t) (hL:L t≠7) {cs:List PV} (p:PW L b (h.set t cs) Q O nP nC len vO vP vC):TB b (h.set t cs) Q O L nP nC len r s vO vP vC:=
 ⟨by rw [zJ,if_neg (by have:=a.hr;omega)];exact a.res,a.hr,by rw [zJ,if_neg (fun e=>hL (by rw [←e];exact a.ls))];exact a.ob,p,a.ls,a.ns⟩
theorem TB.putP (a:TB b h Q O L nP nC len r s vO vP vC) (hi:i<nP) (hc:RowAt L h b Q c):
  ∃sP cap ds,vP=.sl sP 0 nP cap∧b≤sP∧sP<h.next∧h.wr sP i [c]=some (h.set sP ds)∧TB b (h.set sP ds) Q O L nP nC len r s vO vP vC:=by
 obtain⟨sP,cap,cs,e,h1,h2,h3,h4,h5,_⟩:=a.pw.powers (by omega)
 obtain⟨w,p⟩:=a.pw.putRow (i:=i) h1 (by omega) (.inl h3) hc
 exact⟨sP,cap,_,e,h4,h5,w,a.wrote h4 (by omega) p⟩
theorem TB.putC (a:TB b h Q O L nP nC len r s vO vP vC) (hi:i<nC) (hj:j<len i) (hc:RowAt L h b Q c):
  ∃sC cap t cap' ds,vC=.sl sC 0 nC cap∧h.rd1 sC i=some (.sl t 0 (len i) cap')∧b≤sC∧sC<h.next∧b≤t∧t<h.next∧h.wr t j [c]=some (h.set t ds)∧TB b (h.set t ds) Q O L nP nC len r s vO vP vC:=by
 obtain⟨sC,cap,t,cap',e,h1,h2,h3,cs,h4,h5,h6,h7,h8,_⟩:=a.pw.conj hi;obtain⟨w,p⟩:=a.pw.putRow (i:=j) h4 (by omega) (.inr h6) hc
 exact⟨sC,cap,t,cap',_,e,h1,h2,h3,h7,h8,w,a.wrote h7 (by omega) p⟩
theorem TB.setP (a:TB b h Q O L nP nC len r s vO vP vC) (hi:i<nP) (hj:∀m,Q m→j<m):
  ∃sP cap t m cap',vP=.sl sP 0 nP cap∧h.rd1 sP i=some (.sl t 0 m cap')∧Q m∧b≤sP∧sP<h.next∧b≤t∧t<h.next∧∀y,∃ds,h.wr t j [.int .i64 y]=some (h.set t ds)∧TB b (h.set t ds) Q O L nP nC len r s vO vP vC:=by
 obtain⟨sP,cap,cs,e,h1,h2,h3,h4,h5,h6⟩:=a.pw.powers (by omega)
 obtain⟨x,q,t,cap',e2,g1,g2,g3,g4,g5⟩:=h6 _ (List.getElem_mem (by omega:i<cs.length))
 refine⟨sP,cap,t,x.length,cap',e,by rw [zH h1,List.getElem?_eq_getElem (by omega),e2],q,h4,h5,g3,g4,fun y=>?_⟩
 obtain⟨w,p⟩:=a.pw.setRow (y:=y) g2 (hj _ q) g5;exact⟨_,w,a.wrote g3 (by omega) p⟩
theorem TB.setC (a:TB b h Q O L nP nC len r s vO vP vC) {l:Nat} (hi:i<nC) (hl:l<len i) (hj:∀m,Q m→j<m):
  ∃sC cap u cap'' t m cap',vC=.sl sC 0 nC cap∧h.rd1 sC i=some (.sl u 0 (len i) cap'')∧h.rd1 u l=some (.sl t 0 m cap')∧Q m∧b≤sC∧sC<h.next∧b≤u∧u<h.next∧b≤t∧t<h.next∧∀y,∃ds,h.wr t j [.int .i64 y]=some (h.set t ds)∧TB b (h.set t ds) Q O L nP nC len r s vO vP vC:=by
 obtain⟨sC,cap,u,cap'',e,h1,h2,h3,cs,h4,h5,h6,h7,h8,h9⟩:=a.pw.conj hi;obtain⟨x,q,t,cap',e2,g1,g2,g3,g4,g5⟩:=h9 _ (List.getElem_mem (by omega:l<cs.length))
 refine⟨sC,cap,u,cap'',t,x.length,cap',e,h1,by rw [zH h4,List.getElem?_eq_getElem (by omega),e2],q,h2,h3,h7,h8,g3,g4,fun y=>?_⟩
 obtain⟨w,p⟩:=a.pw.setRow (y:=y) g2 (hj _ q) g5;exact⟨_,w,a.wrote g3 (by omega) p⟩
theorem RowX.rd (a:RowX L h b k x v) (hi:i<x.length):∃s cap,v=.sl s 0 x.length cap∧h.rd1 s i=some (.int .i64 (at_ x i))∧b≤s∧s<h.next∧h.obj s=some (pis x):=by
 obtain⟨s,cap,e,h1,h2,h3,h4,h5⟩:=a;exact⟨s,cap,e,by rw [zH h2,zM,gi hi,at_eq hi];rfl,h3,h4,h2⟩
theorem PW.finKM (a:PW L b h Q O nP nC len vO vP vC) (km:KM σ s0 h) (so:So h s0 vS bs) (hs0:s0<σ.next) (hb:σ.next≤b)
  (k:∀wO wP wC P C σ',IsPr wO wP wC O P C→PQ3 Q P C nP nC len→Mv σ s0 σ'→So σ' s0 vS bs→K (.agg [wO,wP,wC]) σ'):Gh σ K (.agg [vO,vP,vC]) h:=
 Gh.km km so hs0 fun σ' m' so' kp=>a.fin kp (by rw [m'.next];exact hb) fun wO wP wC P C hR hq=>k wO wP wC P C σ' hR hq m' so'
theorem zBa (hX:FI vX O) (hb:O.length≤1000) (hk:∀L h vO vP vC,Keep σ h→PW L σ.next h (fun m=>m=O.length) O O.length O.length (fun j=>O.length-1-j) vO vP vC→K (.agg [vO,vP,vC]) h):zA Tryz.prog 203 [vX] σ K:=by
 obtain⟨w,a,rfl⟩:=hX;exact zBx rfl hb (fun _ hk'=>qw rfl (by omega) hk') hk
theorem qh {cap:Cap} (ho:σ.obj s=some (pis O)) (hs:s<σ.next) (hb:O.length≤1000) (hk:∀L h vO vP vC,Keep σ h→PW L σ.next h (fun m=>m=O.length) O O.length O.length (fun j=>O.length-1-j) vO vP vC→K (.agg [vO,vP,vC]) h):zA Tryz.prog 203 [.sl s 0 O.length cap] σ K:=
 zBx rfl hb (fun kk hk'=>zA6 (by rw [kk.obj s hs];exact ho) (by have:=kk.next;omega) (by omega) hk') hk
theorem zBy {cap:Cap} (ho:σ.obj s=some (pis O)) (hs:s<σ.next) (hb:O.length≤1000) (hk:∀wO wP wC P C,IsPr wO wP wC O P C→PQ3 (fun m=>m=O.length) P C O.length O.length (fun j=>O.length-1-j)→K (.agg [wO,wP,wC]) σ):zA Tryz.prog 203 [.sl s 0 O.length cap] σ K:=
 zA.gh (qh ho hs hb fun L h vO vP vC kk a=>a.fin kk (Nat.le_refl _) fun wO wP wC P C hR hq=>hk wO wP wC P C hR hq)
end Go.Proofs
namespace Go.Grp
end Go.Grp
namespace Go.Proofs
open Go.Ab Go.Lie Go.Grp
variable {σ σ0 h h':PHeap} {K:PV→PHeap→Prop} {b s t n k nP nC r s0 i j:Nat} {L L':Nat→Nat} {Q Q':Nat→Prop} {len:Nat→Nat} {v vO vP vC c vX vS vL:PV} {x O xs bs:List Int} {P M:List (List Int)} {C:List (List (List Int))} {cs:List PV}
theorem RowAt.low (a:RowAt L h n Q v) (hb:b≤n):RowAt L h b Q v:=by
 obtain⟨x,q,s,cap,e,h1,h2,h3,h4,h5⟩:=a;exact⟨x,q,s,cap,e,h1,h2,by omega,h4,h5⟩
theorem MatAt.low {m:Nat} (a:MatAt L h m Q k n v) (hb:b≤m):MatAt L h b Q k n v:=by
 obtain⟨s,cap,cs,e,h1,h2,h3,h4,h5,h6,h7⟩:=a;exact⟨s,cap,cs,e,h1,h2,h3,by omega,h5,h6,fun c hc=>(h7 c hc).low hb⟩
theorem zEZ (hL:FII vL M) (hm:M.length≤1000) (hq:∀r∈M,Q r.length) (hr:∀r∈M,r.length≤1048576) (hk1:k≠1) (hb:b≤σ.next)
  (hk:∀L' h v,Keep σ h→(∀t,t<σ.next→L' t=L t)→MatAt L' h b Q k M.length v→K v h):zA Tryz.prog 64 [vL] σ K:=by
 obtain⟨w,a,rows,rfl,hall⟩:=hL;refine zC mix Tryz.func64 ?_
 conv=>arg 2;cbv
 refine zF rfl ?_;simp only [pwA,seval,-iQ0];refine zG (fun m vs h=>∃(i:Nat) (L':Nat→Nat) (v:PV),i≤M.length∧m=M.length-i∧vs=[.fz w a M.length rows,v,.int .i64 i]∧Keep σ h∧(∀t,t<σ.next→L' t=L t)∧MatAt L' h σ.next Q k i v) M.length ?_ ?_
 ·exact⟨0,mkM L σ.next k,.sl σ.next 0 0 (.known 0),Nat.zero_le _,rfl,rfl,zB _ _,qG (Nat.le_refl _),σ.next,.known 0,[],rfl,.inr rfl,by rw [zD,if_pos rfl],rfl,Nat.le_refl _,Nat.lt_succ_self _,ZW,fun c hc=>by cases hc⟩
 rintro m vs h ⟨i,L',v,hi,rfl,rfl,kk,hL',mR⟩
 have hnx:=kk.next;simp only [pwA,seval,-iQ0];refine iteI (fun hlt=>?_) fun hge=>?_
 rotate_left
 ·have e:i=M.length:=by omega
  subst e;exact hk L' h v kk hL' (mR.low hb)
 obtain⟨w1,a1,hr1⟩:=hall.rowI hlt;have hlt':(i:Int)<(M.length:Int):=by omega
 simp only [pwA,seval,-iQ0,hlt,hlt',hr1];refine qw rfl (by have:=hr _ (List.getElem_mem hlt);omega) fun cap hc=>?_
 have hrow:RowAt (mkM L' h.next 1) (h.new (pis M[i])) σ.next Q (.sl h.next 0 M[i].length cap):=RowAt.fresh (by omega) (hq _ (List.getElem_mem hlt)) hc
 simp only [pwA,seval,-iQ0];refine MatN.push (σ:=σ) (b:=σ.next) (k:=k) (.inr (mR.keep (L':=mkM L' h.next 1) (h':=h.new (pis M[i])) (Nat.le_succ _) (fun t _ ht=>by rw [zD,if_neg (by omega)]) (qG (Nat.le_refl _)))) hk1 hrow (kk.new _) (Nat.le_refl _) (by show σ.next≤h.next+1;omega) (by omega) fun v2 h2 L2 k2 p2 l2 hL2 ho2 _=>?_
 have l2':h.next+1<h2.next:=l2;simp only [pwA,seval,-iQ0,wrapS hlt (by omega:M.length≤4611686018427387904)]
 exact⟨_,by omega,i+1,L2,v2,by omega,rfl,rfl,k2,fun t ht=>by rw [hL2 t (by show t<h.next+1;omega),qG (Nat.le_refl _) t (by omega)];exact hL' t ht,p2⟩
theorem zCx (hR:IsPr vO vP vC O P C) (hO:O.length≤1000) (hP:P.length≤1000) (hC:C.length≤1000) (hCl:∀q∈C,q.length≤1000) (hqP:∀r∈P,Q r.length) (hqC:∀q∈C,∀r∈q,Q r.length) (hQ:∀m,Q m→m≤1048576)
  (hk:∀L h wO wP wC,Keep σ h→PW L σ.next h Q O P.length C.length (fun i=>(C.getD i []).length) wO wP wC→K (.agg [wO,wP,wC]) h):zA Tryz.prog 65 [.agg [vO,vP,vC]] σ K:=by
 have g0:=hR.O.one;have g1:=hR.P.one;have g2:=hR.C.one;obtain⟨⟨wO,aO,rfl⟩,hRP,hRC⟩:=hR;obtain⟨w2,a2,rC,rfl,hrC⟩:=hRC;refine zC mix Tryz.func65 ?_
 conv=>arg 2;cbv
 refine zF rfl ?_;simp only [pwA,seval,-iQ0,g0,g1];refine qw rfl (by omega) fun cap hc=>?_
 simp only [pwA,seval,-iQ0,g0,g1];generalize hH:(((((σ.new [PV.fz wO aO O.length (pis O),vP,PV.fz w2 a2 C.length rC]).new [PV.fz true AV.nils 0 [],PV.fz true AV.nils 0 [],PV.fz true AV.nils 0 []]).new [PV.fz true AV.nils 0 [],PV.fz true AV.nils 0 [],PV.fz true AV.nils 0 []]).new (pis O)))=H;have hHn:H.next=σ.next+4:=by rw [←hH];rfl
 have kH:Keep σ H:=by rw [←hH];exact(((zB _ _).new _).new _).new _
 have ob0:H.obj σ.next=some [PV.fz wO aO O.length (pis O),vP,PV.fz w2 a2 C.length rC]:=by rw [←hH];simp only [pwA,seval,-iQ0]
 have ob1:H.obj (σ.next+1)=some [PV.fz true AV.nils 0 [],PV.fz true AV.nils 0 [],PV.fz true AV.nils 0 []]:=by rw [←hH];simp only [pwA,seval,-iQ0]
 have ob2:H.obj (σ.next+2)=some [PV.fz true AV.nils 0 [],PV.fz true AV.nils 0 [],PV.fz true AV.nils 0 []]:=by rw [←hH];simp only [pwA,seval,-iQ0]
 have ob3:H.obj (σ.next+3)=some (pis O):=by rw [←hH];simp only [pwA,seval,-iQ0]
 clear hH;obtain⟨L0,hL0⟩:∃L0:Nat→Nat,L0=fun t=>if t=σ.next+3 then 5 else 7:=⟨_,rfl⟩
 have l5:L0 (σ.next+3)=5:=by rw [hL0];simp
 have l7:∀t,t≠σ.next+3→L0 t=7:=fun t ht=>by rw [hL0];simp [ht]
 clear hL0;refine zEZ (L:=L0) (Q:=Q) (k:=2) (b:=σ.next) hRP hP hqP (fun r hr=>hQ _ (hqP r hr)) (by decide) (by omega) fun L1 h1 v1 k1 e1 m1=>?_
 have hn1:=k1.next;have r2:h1.rd1 σ.next 1=some vP:=by rw [zH (by rw [k1.obj _ (by omega)];exact ob0)];rfl
 have o2:h1.obj (σ.next+2)=some [PV.fz true AV.nils 0 [],PV.fz true AV.nils 0 [],PV.fz true AV.nils 0 []]:=by rw [k1.obj _ (by omega)];exact ob2
 have w2':h1.wr (σ.next+2) 0 [.sl (σ.next+3) 0 O.length cap,v1,.fz true .nils 0 []]=some (h1.set (σ.next+2) [.sl (σ.next+3) 0 O.length cap,v1,.fz true .nils 0 []]):=by
  rw [zX o2,if_pos ⟨by simp,by simp [m1.one];exact⟨rfl,rfl⟩⟩];rfl
 simp only [pwA,seval,-iQ0,m1.one,m1.cells,w2'];have pw1:PW L1 σ.next h1 Q O P.length 0 (fun i=>(C.getD i []).length) (.sl (σ.next+3) 0 O.length cap) v1 (.fz true .nils 0 []):=
  ⟨⟨σ.next+3,cap,rfl,hc,by rw [k1.obj _ (by omega)];exact ob3,by omega,by omega,by rw [e1 _ (by omega)];exact l5⟩,.inr m1,.inl ⟨rfl,rfl⟩⟩
 have t1:TvI σ (h1.set (σ.next+2) [.sl (σ.next+3) 0 O.length cap,v1,.fz true .nils 0 []]) Q O L1 P.length 0 (fun i=>(C.getD i []).length) (σ.next+1) (σ.next+2) (.sl (σ.next+3) 0 O.length cap) v1 (.fz true .nils 0 []):=
  ⟨(kH.trans k1).set (by omega) _,by rw [zJ,if_neg (by omega),k1.obj _ (by omega)];exact ob1,by rw [zJ,if_pos rfl],pw1.set7 (by rw [e1 _ (by omega),l7 _ (by omega)];exact Nat.le_refl _) _,by rw [e1 _ (by omega),l7 _ (by omega)],by rw [e1 _ (by omega),l7 _ (by omega)],by omega,⟨by omega,by show _<h1.next;omega⟩,⟨by omega,by show _<h1.next;omega⟩⟩
 refine zG (fun m vs h=>∃(i:Nat) (L:Nat→Nat) (vC:PV),i≤C.length∧m=C.length-i∧vs=[.ptr σ.next 0,.ptr (σ.next+1) 0,.ptr (σ.next+2) 0,.int .i64 i]∧TvI σ h Q O L P.length i (fun i=>(C.getD i []).length) (σ.next+1) (σ.next+2) (.sl (σ.next+3) 0 O.length cap) v1 vC∧
  h.obj σ.next=some [PV.fz wO aO O.length (pis O),vP,PV.fz w2 a2 C.length rC]∧L σ.next=7) C.length ?_ ?_
 ·exact⟨0,L1,_,Nat.zero_le _,rfl,rfl,t1,by rw [zJ,if_neg (by omega),k1.obj _ (by omega)];exact ob0,by rw [e1 _ (by omega),l7 _ (by omega)]⟩
 clear t1 pw1 w2' o2 r2 hn1 m1 e1 k1 ob0 ob1 ob2 ob3 kH hHn l5 l7
 rintro m vs h ⟨i,L,vC,hi,rfl,rfl,a,oB,lB⟩
 have hnn:=a.ns.2;have rB:h.rd1 σ.next 2=some (.fz w2 a2 C.length rC):=by rw [zH oB];rfl
 simp only [pwA,seval,-iQ0,rB];refine iteI (fun hlt=>?_) fun hge=>?_
 rotate_left
 ·have e:i=C.length:=by omega
  subst e;obtain⟨e1,e2,e3,e4⟩:=a.fin;simp only [pwA,seval,-iQ0,a.r3,e1,e2];exact hk L _ _ _ vC e3 e4
 have hlt':(i:Int)<(C.length:Int):=by omega
 obtain⟨w4,a4,rs4,hr,hrs⟩:=hrC.rowL hlt;simp only [pwA,seval,-iQ0,hlt,hlt',hr,rB,a.r2];refine zEZ (L:=L) (Q:=Q) (k:=6) (b:=σ.next) ⟨w4,a4,rs4,rfl,hrs⟩ (hCl _ (List.getElem_mem hlt)) (hqC _ (List.getElem_mem hlt)) (fun r hr=>hQ _ (hqC _ (List.getElem_mem hlt) r hr)) (by decide) (by omega) fun L2 h2 v2 k2 e2 m2=>?_
 have a2:=a.keepL (a.keep.trans k2) k2.next (fun t _ ht=>k2.obj t ht) e2
 have hnn2:=a2.ns.2;have n2:¬σ.next+2=h2.next:=by omega
 simp only [pwA,seval,-iQ0,a2.r2,n2,m2.one,m2.cells];refine PW.pushC (m:=C[i].length) a2.pw m2 (by show(C.getD i []).length=_;rw [List.getD_eq_getElem?_getD,List.getElem?_eq_getElem hlt];rfl) a2.keep (Nat.le_refl _) (by omega) (by omega) fun v3 h3 L3 k3 p3 l3 o3 m3=>?_
 have w3:h3.wr (σ.next+2) 2 [v3]=some (h3.set (σ.next+2) [.sl (σ.next+3) 0 O.length cap,v1,v3]):=by rw [zX (a2.old m3),if_pos ⟨by simp,by simp [p3.hC.one]⟩];rfl
 have a3:=a2.step k3 p3 (Nat.le_of_lt l3) m3;have q7:=m3 σ.next (by omega) (by rw [e2 _ (by omega),lB];exact Nat.le_refl _)
 simp only [pwA,seval,-iQ0,w3,p3.hC.cells,wrapS hlt (by omega:C.length≤4611686018427387904)]
 refine⟨_,by omega,i+1,L3,v3,by omega,rfl,rfl,a3,?_,by rw [q7.2,e2 _ (by omega)];exact lB⟩
 first | (rw [zJ,if_neg (by omega),q7.1,k2.obj _ (by omega)];exact oB) | (rw [q7.1,k2.obj _ (by omega)];exact oB)
end Go.Proofs
namespace Go.Grp
end Go.Grp
namespace Go.Proofs
open Go.Ab Go.Lie Go.Grp
variable {σ σ0 h h':PHeap} {K:PV→PHeap→Prop} {b s t n k nP nC r s0 i j:Nat} {L L':Nat→Nat} {Q Q':Nat→Prop} {len:Nat→Nat} {v vO vP vC c vX vS vL:PV} {x O xs bs:List Int} {P M:List (List Int)} {C:List (List (List Int))} {cs:List PV}
theorem PW.lenE {len':Nat→Nat} (a:PW L b h Q O nP nC len vO vP vC) (he:∀i,i<nC→len i=len' i):PW L b h Q O nP nC len' vO vP vC:=by
 refine⟨a.hO,a.hP,a.hC.imp id fun⟨s,cap,cs,e,q1,q2,q3,q4,q5,q6,q7⟩=>⟨s,cap,cs,e,q1,q2,q3,q4,q5,q6,fun i c hc=>?_⟩⟩
 have hi:=(List.getElem?_eq_some_iff.1 hc).1;rw [←he i (by omega)]
 exact q7 i c hc
theorem TB.putPx (a:TB b h Q O L nP nC len r s vO vP vC) (hi:i<nP):∃sP cap,vP=.sl sP 0 nP cap∧b≤sP∧sP<h.next∧∀{xs:List Int} {cp:Cap},Q xs.length→full 1 cp xs.length→
  ∃ds L',(h.new (pis xs)).wr sP i [.sl h.next 0 xs.length cp]=some ((h.new (pis xs)).set sP ds)∧TB b ((h.new (pis xs)).set sP ds) Q O L' nP nC len r s vO vP vC:=by
 obtain⟨sP,cap,cs,e,h1,h2,h3,h4,h5,_⟩:=a.pw.powers (by omega)
 refine⟨sP,cap,e,h4,h5,fun {xs cp} hq hc=>?_⟩
 obtain⟨sP',cap',ds,e',g1,g2,w,a'⟩:=(a.fresh (pis xs) 1).putP hi (RowAt.fresh (L:=L) (b:=b) (by have:=a.ns;omega) hq hc)
 rw [e]at e'
 simp only [PV.sl.injEq]at e'
 obtain⟨rfl,_⟩:=e';exact⟨ds,_,w,a'⟩
theorem TB.putCx (a:TB b h Q O L nP nC len r s vO vP vC) (hi:i<nC) (hj:j<len i):∃sC cap t cap',vC=.sl sC 0 nC cap∧h.rd1 sC i=some (.sl t 0 (len i) cap')∧b≤sC∧sC<h.next∧b≤t∧t<h.next∧∀{xs:List Int} {cp:Cap},Q xs.length→full 1 cp xs.length→
  ∃ds L',(h.new (pis xs)).rd1 sC i=some (.sl t 0 (len i) cap')∧(h.new (pis xs)).wr t j [.sl h.next 0 xs.length cp]=some ((h.new (pis xs)).set t ds)∧TB b ((h.new (pis xs)).set t ds) Q O L' nP nC len r s vO vP vC:=by
 obtain⟨sC,cap,t,cap',e,h1,h2,h3,cs,h4,h5,h6,h7,h8,_⟩:=a.pw.conj hi;refine⟨sC,cap,t,cap',e,h1,h2,h3,h7,h8,fun {xs cp} hq hc=>?_⟩
 obtain⟨sC',cap2,t',cap2',ds,e',f1,g1,g2,g3,g4,w,a'⟩:=(a.fresh (pis xs) 1).putC hi hj (RowAt.fresh (L:=L) (b:=b) (by have:=a.ns;omega) hq hc)
 rw [e]at e'
 simp only [PV.sl.injEq]at e'
 obtain⟨rfl,_⟩:=e';have q:(h.new (pis xs)).rd1 sC i=some (.sl t 0 (len i) cap'):=by rw [zFM,if_neg (by omega)];exact h1
 rw [q]at f1
 simp only [Option.some.injEq,PV.sl.injEq]at f1
 obtain⟨rfl,_⟩:=f1;exact⟨ds,_,q,w,a'⟩
theorem TB.setPm (a:TB b h Q O L nP nC len r s vO vP vC) (hs:s0<b) (hne:s0≠r) (hi:i<nP) (hj:∀m,Q m→j<m):
  ∃sP cap t m cap',vP=.sl sP 0 nP cap∧h.rd1 sP i=some (.sl t 0 m cap')∧Q m∧∀h',Mv h s0 h'→h'.rd1 sP i=some (.sl t 0 m cap')∧∀y,∃ds,h'.wr t j [.int .i64 y]=some (h'.set t ds)∧b≤t∧TB b (h'.set t ds) Q O L nP nC len r s vO vP vC:=by
 obtain⟨sP,cap,t,m,cap',e,h1,q,h2,h3,h4,h5,_⟩:=a.setP hi hj;refine⟨sP,cap,t,m,cap',e,h1,q,fun h' mv=>?_⟩
 obtain⟨sP',cap2,t',m',cap2',e',g1,q',g2,g3,g4,g5,w⟩:=(a.mv hs hne mv).setP hi hj;rw [e]at e'
 simp only [PV.sl.injEq]at e'
 obtain⟨rfl,_⟩:=e';have r':h'.rd1 sP i=some (.sl t 0 m cap'):=by unfold PHeap.rd1 at h1 ⊢;rw [mv.obj (by omega)];exact h1
 rw [r']at g1
 simp only [Option.some.injEq,PV.sl.injEq]at g1
 obtain⟨rfl,_⟩:=g1;exact⟨r',fun y=>by obtain⟨ds,w1,a1⟩:=w y;exact⟨ds,w1,h4,a1⟩⟩
theorem TB.setCm (a:TB b h Q O L nP nC len r s vO vP vC) {l:Nat} (hs:s0<b) (hne:s0≠r) (hi:i<nC) (hl:l<len i) (hj:∀m,Q m→j<m):
  ∃sC cap u cap'' t m cap',vC=.sl sC 0 nC cap∧h.rd1 sC i=some (.sl u 0 (len i) cap'')∧h.rd1 u l=some (.sl t 0 m cap')∧Q m∧∀h',Mv h s0 h'→h'.rd1 sC i=some (.sl u 0 (len i) cap'')∧h'.rd1 u l=some (.sl t 0 m cap')∧
   ∀y,∃ds,h'.wr t j [.int .i64 y]=some (h'.set t ds)∧b≤t∧TB b (h'.set t ds) Q O L nP nC len r s vO vP vC:=by
 obtain⟨sC,cap,u,cap'',t,m,cap',e,h1,h2,q,f1,f2,f3,f4,f5,f6,_⟩:=a.setC hi hl hj;refine⟨sC,cap,u,cap'',t,m,cap',e,h1,h2,q,fun h' mv=>?_⟩
 obtain⟨sC',c1,u',c2,t',m',c3,e',g1,g2,q',k1,k2,k3,k4,k5,k6,w⟩:=(a.mv hs hne mv).setC hi hl hj;rw [e]at e'
 simp only [PV.sl.injEq]at e'
 obtain⟨rfl,_⟩:=e';have r1:h'.rd1 sC i=some (.sl u 0 (len i) cap''):=by unfold PHeap.rd1 at h1 ⊢;rw [mv.obj (by omega)];exact h1
 rw [r1]at g1
 simp only [Option.some.injEq,PV.sl.injEq]at g1
 obtain⟨rfl,_⟩:=g1;have r2:h'.rd1 u l=some (.sl t 0 m cap'):=by unfold PHeap.rd1 at h2 ⊢;rw [mv.obj (by omega)];exact h2
 rw [r2]at g2
 simp only [Option.some.injEq,PV.sl.injEq]at g2
 obtain⟨rfl,_⟩:=g2;exact⟨r1,r2,fun y=>by obtain⟨ds,w1,a1⟩:=w y;exact⟨ds,w1,f5,a1⟩⟩
theorem zDf (so:So σ s0 vS bs) (hR:IsPr vO vP vC O P C) (hp:zQ O P C)
  (hk:∀wO wP wC P' C' σ',IsPr wO wP wC O P' C'→PQ3 (fun m=>m=O.length) P' C' O.length O.length (fun i=>O.length-1-i)→Mv σ s0 σ'→So σ' s0 vS bs→K (.agg [wO,wP,wC]) σ'):zA Tryz.prog 84 [.ptr s0 0,.agg [vO,vP,vC]] σ K:=by
 have sh:=hp.shp;have hn6:=sh.le;have g0:=hR.O.one;have g1:=hR.P.one;have g2:=hR.C.one;have hlt:=so.lt;have hCr:∀q∈C,q.length≤1000∧∀r∈q,r.length=O.length:=fun q hq=>by
  obtain⟨i,hi,rfl⟩:=List.mem_iff_getElem.1 hq;have hi':i<O.length:=by rw [←sh.cl];exact hi
  have e1:C.getD i []=C[i]:=by rw [List.getD_eq_getElem?_getD,List.getElem?_eq_getElem hi];rfl
  have hl:=sh.row i hi';rw [e1]at hl
  refine⟨by omega,fun r hr=>?_⟩
  obtain⟨k,hk',rfl⟩:=List.mem_iff_getElem.1 hr
  have:=(sh.cj i (i+1+k) (by omega) (by omega)).len
  unfold cvec at this
  rw [e1,show i+1+k-i-1=k by omega,List.getD_eq_getElem?_getD,List.getElem?_eq_getElem hk']at this
  exact this
 have hPr:∀r∈P,r.length=O.length:=fun r hr=>by
  obtain⟨i,hi,rfl⟩:=List.mem_iff_getElem.1 hr
  have:=(sh.pw i (by rw [←sh.pl];exact hi)).len
  unfold pvec at this
  rw [List.getD_eq_getElem?_getD,List.getElem?_eq_getElem hi]at this
  exact this
 refine zA.gh ?_;refine zR mix Tryz.func84 cf84 rfl ?_;dsimp only [if84,eI,qD,eD,mI0,lI0,LI0,fI0,bI0,cI0,sI0,C1,C2,mD0,lD0,fD0,xD0,I0,vI0,wD0,R0,S0];simp only [pwA,seval,-iQ0,g0,g1,g2];generalize hH:((σ.new [vO,vP,vC]).new [PV.fz true AV.nils 0 [],PV.fz true AV.nils 0 [],PV.fz true AV.nils 0 []])=H;have hHn:H.next=σ.next+2:=by rw [←hH];rfl
 have kH:Keep σ H:=by rw [←hH];exact(zB _ _).new _
 have ob1:H.obj (σ.next+1)=some [PV.fz true AV.nils 0 [],PV.fz true AV.nils 0 [],PV.fz true AV.nils 0 []]:=by rw [←hH];simp only [pwA,seval,-iQ0]
 clear hH;refine zCx (Q:=fun m=>m=O.length) hR (by omega) (by rw [sh.pl];omega) (by rw [sh.cl];omega) (fun q hq=>(hCr q hq).1) hPr (fun q hq=>(hCr q hq).2) (fun m hm=>by omega) fun L h uO uP uC k1 p1=>?_
 have hn1:=k1.next;have p2:PW L H.next h (fun m=>m=O.length) O O.length O.length (fun i=>O.length-1-i) uO uP uC:=by
  rw [sh.pl,sh.cl]at p1
  exact p1.lenE fun i hi=>sh.row i hi
 have a:=TB.start p2 (r:=σ.next+1) (by omega) (by rw [k1.obj _ (by omega)];exact ob1) hn1
 obtain⟨so_,capO,eO,qO1,qO2,qO3,qO4,qO5⟩:=p2.hO;subst eO;have km1:KM σ s0 (h.new [.sl so_ 0 O.length capO,uP,uC]):=so.kmK ((kH.trans k1).new _);have so1:So (h.new [.sl so_ 0 O.length capO,uP,uC]) s0 vS bs:=so.keep ((kH.trans k1).new _);simp only [pwA,seval,-iQ0,p2.hP.one,p2.hC.one];have hr1:s0≠σ.next+1:=by omega
 have hs0:s0<H.next:=by omega
 have fin:∀{g:PHeap} {L':Nat→Nat},KM σ s0 g→So g s0 vS bs→TB H.next g (fun m=>m=O.length) O L' O.length O.length (fun i=>O.length-1-i) (σ.next+1) h.next (.sl so_ 0 O.length capO) uP uC→
   g.wr (σ.next+1) 0 [.sl so_ 0 O.length capO,uP,uC]=some (g.set (σ.next+1) [.sl so_ 0 O.length capO,uP,uC])∧(g.set (σ.next+1) [.sl so_ 0 O.length capO,uP,uC]).rd (σ.next+1) 0 3=some [.sl so_ 0 O.length capO,uP,uC]∧Gh σ K (.agg [.sl so_ 0 O.length capO,uP,uC]) (g.set (σ.next+1) [.sl so_ 0 O.length capO,uP,uC]):=fun {g L'} km so' a=>by
  obtain⟨e1,e2,e3⟩:=a.fin;exact⟨e1,e2,e3.finKM (km.set (by omega) _) (so'.set (by omega) _) hlt (by omega) fun wO wP wC P C σ' x1 x2 x3 x4=>hk wO wP wC P C σ' x1 x2 x3 x4⟩
 generalize h.new [PV.sl so_ 0 O.length capO,uP,uC]=g at *
 have hnb:O.length≤6:=hn6;refine zl so1 (by omega) fun x1 g1 hx1 m1 so2=>?_
 have a1:=a.mv hs0 hr1 m1;have km2:=km1.mv hlt m1;have x10:=hx1.1;have wi1:IntKind.i64.wrap ((O.length:Int)-1)=(O.length:Int)-1:=wrap64 (by omega) (by omega)
 have x1b:x1≤6:=by
  rcases Int.lt_or_le 1 (O.length:Int)with q|q
  ·have:=hx1.2.2 q;omega
  ·have:=hx1.2.1 q;omega
 have wi2:IntKind.i64.wrap ((O.length:Int)-1-x1)=(O.length:Int)-1-x1:=wrap64 (by omega) (by omega)
 have wi3:IntKind.i64.wrap (x1+1)=x1+1:=wrap64 (by omega) (by omega)
 simp only [pwA,seval,-iQ0,wi1,wi2,wi3];refine zl so2 (by omega) fun x2 g2 hx2 m2 so3=>?_
 have a2:=a1.mv hs0 hr1 m2;have km3:=km2.mv hlt m2;have x20:=hx2.1;have x2b:x2≤6:=by
  rcases Int.lt_or_le 1 ((O.length:Int)-1-x1)with q|q
  ·have:=hx2.2.2 q;omega
  ·have:=hx2.2.1 q;omega
 have wi4:IntKind.i64.wrap (x1+1+x2)=x1+1+x2:=wrap64 (by omega) (by omega)
 simp only [pwA,seval,-iQ0,wi4];refine iteI (fun hge=>?_) fun hlt2=>?_
 ·obtain⟨e1,e2,e3⟩:=fin km3 so3 a2
  simp only [pwA,seval,-iQ0,a2.r3,e1,e2];exact e3
 obtain⟨i,rfl⟩:∃i:Nat,x1=i:=⟨x1.toNat,by omega⟩
 obtain⟨j,hj⟩:∃j:Nat,(i:Int)+1+x2=j:=⟨((i:Int)+1+x2).toNat,by omega⟩
 rw [hj];have hin:i<O.length:=by omega
 have hjn:j<O.length:=by omega
 have hin':(i:Int)<(O.length:Int):=by omega
 have hjn':(j:Int)<(O.length:Int):=by omega
 simp only [pwA,seval,-iQ0];refine zl so3 (by decide) fun x3 g3 hx3 m3 so4=>?_
 have a3:=a2.mv hs0 hr1 m3;have km4:=km3.mv hlt m3;have hOb:∀{g:PHeap} {L':Nat→Nat},TB H.next g (fun m=>m=O.length) O L' O.length O.length (fun i=>O.length-1-i) (σ.next+1) h.next (.sl so_ 0 O.length capO) uP uC→g.rd1 so_ j=some (.int .i64 (at_ O j)):=fun {g L'} a=>by
  obtain⟨s',c',e,q,_⟩:=a.pw.hO.rd hjn;simp only [PV.sl.injEq]at e
  obtain⟨rfl,_⟩:=e;exact q
 have oj:=(sh.pr j hjn);simp only [pwA,seval,-iQ0];refine iteI (fun h0=>?_) fun hn0=>?_
 ·obtain⟨sP,capP,t,m,capt,rfl,q1,q2,q3⟩:=a3.setPm (j:=j) hs0 hr1 hin (fun m hm=>by rw [hm];exact hjn)
  subst q2;simp only [pwA,seval,-iQ0,a3.r1,a3.r0,hin,hin',q1,hjn,hjn',hOb a3];refine zl so4 (by omega) fun y g4 hy m4 so5=>?_
  obtain⟨q4,q5⟩:=q3 g4 m4;have a4:=a3.mv hs0 hr1 m4;obtain⟨ds,w,hbt,a5⟩:=q5 y;have km6:=(km4.mv hlt m4).set (t:=t) (by omega) ds
  have so6:=so5.set (t:=t) (by omega) ds
  generalize g4.set t ds=g5 at *
  simp only [pwA,seval,-iQ0,a4.r1,q4,hjn,hjn',w];obtain⟨e1,e2,e3⟩:=fin km6 so6 a5;simp only [pwA,seval,-iQ0,a5.r3,e1,e2];exact e3
 have wi5:IntKind.i64.wrap ((O.length:Int)-1-(i:Int))=(O.length:Int)-1-(i:Int):=wrap64 (by omega) (by omega)
 simp only [pwA,seval,-iQ0,wi1,wi3,wi5];refine zl so4 (by omega) fun x4 g4 hx4 m4 so5=>?_
 have a4:=a3.mv hs0 hr1 m4;have km5:=km4.mv hlt m4;have x40:=hx4.1;have x4b:x4<(O.length:Int)-1-(i:Int):=hx4.lt (by omega)
 have wi6:IntKind.i64.wrap ((i:Int)+1+x4)=(i:Int)+1+x4:=wrap64 (by omega) (by omega)
 have wi7:IntKind.i64.wrap ((i:Int)+1+x4-(i:Int))=x4+1:=by rw [wrap64 (by omega) (by omega)];omega
 have wi8:IntKind.i64.wrap (x4+1-1)=x4:=by rw [wrap64 (by omega) (by omega)];omega
 obtain⟨l,rfl⟩:∃l:Nat,x4=l:=⟨x4.toNat,by omega⟩
 have hl:l<O.length-1-i:=by omega
 have hl1:l<O.length-(1+i):=by omega
 have hl2:(l:Int)<((O.length-1-i:Nat):Int):=by omega
 have hl':(l:Int)<((O.length-(1+i):Nat):Int):=by omega
 obtain⟨sC,capC,u,capu,t,m,capt,rfl,q1,q1',q2,q3⟩:=a4.setCm (j:=j) hs0 hr1 hin hl (fun m hm=>by rw [hm];exact hjn)
 subst q2;simp only [pwA,seval,-iQ0,wi3,wi6,wi7,wi8,a4.r2,a4.r0,hin,hin',q1,q1',hl,hl1,hl2,hl',hjn,hjn',hOb a4];refine zl so5 (by omega) fun y g5 hy m5 so6=>?_
 obtain⟨q4,q4',q5⟩:=q3 g5 m5;have a5:=a4.mv hs0 hr1 m5;obtain⟨ds,w,hbt,a6⟩:=q5 y;have km6:=(km5.mv hlt m5).set (t:=t) (by omega) ds
 have so7:=so6.set (t:=t) (by omega) ds
 generalize g5.set t ds=g6 at *
 simp only [pwA,seval,-iQ0,a5.r2,q4,q4',hl,hl1,hl2,hl',hjn,hjn',w];obtain⟨e1,e2,e3⟩:=fin km6 so7 a6;simp only [pwA,seval,-iQ0,a6.r3,e1,e2];exact e3
end Go.Proofs
namespace Go.Grp
end Go.Grp
namespace Go.Proofs
open Go.Ab Go.Lie Go.Grp
variable {σ σ0 h h':PHeap} {K:PV→PHeap→Prop} {b s t n k nP nC r s0 i j:Nat} {L L':Nat→Nat} {Q Q':Nat→Prop} {len:Nat→Nat} {v vO vP vC c vX vS vL:PV} {x O xs bs:List Int} {P M:List (List Int)} {C:List (List (List Int))} {cs:List PV}
theorem zB0 {k0:Nat} (hM:MatAt L σ b Q k0 n v) (hm:n≤1000) (hr:∀m,Q m→m≤1048576) (hk1:k≠1) (hb:b≤σ.next)
  (hk:∀L' h v,Keep σ h→(∀t,t<σ.next→L' t=L t)→MatAt L' h b Q k n v→K v h):zA Tryz.prog 64 [v] σ K:=by
 obtain⟨s,cap,cs,rfl,h1,h2,h3,h4,h5,h6,h7⟩:=hM;refine zC mix Tryz.func64 ?_
 conv=>arg 2;cbv
 refine zF rfl ?_;simp only [pwA,seval,-iQ0];refine zG (fun m vs h=>∃(i:Nat) (L':Nat→Nat) (v:PV),i≤n∧m=n-i∧vs=[.sl s 0 n cap,v,.int .i64 i]∧Keep σ h∧(∀t,t<σ.next→L' t=L t)∧MatAt L' h σ.next Q k i v) n ?_ ?_
 ·exact⟨0,mkM L σ.next k,.sl σ.next 0 0 (.known 0),Nat.zero_le _,rfl,rfl,zB _ _,qG (Nat.le_refl _),σ.next,.known 0,[],rfl,.inr rfl,by rw [zD,if_pos rfl],rfl,Nat.le_refl _,Nat.lt_succ_self _,ZW,fun c hc=>by cases hc⟩
 rintro m vs h ⟨i,L',v,hi,rfl,rfl,kk,hL',mR⟩
 have hnx:=kk.next;simp only [pwA,seval,-iQ0];refine iteI (fun hlt=>?_) fun hge=>?_
 rotate_left
 ·have e:i=n:=by omega
  subst e;exact hk L' h v kk hL' (mR.low hb)
 obtain⟨x,q,t,capt,e,g1,g2,g3,g4,g5⟩:=h7 _ (List.getElem_mem (by omega:i<cs.length))
 have hlt':(i:Int)<(n:Int):=by omega
 have rd:h.rd1 s i=some (.sl t 0 x.length capt):=by unfold PHeap.rd1;rw [kk.obj s h5,h2,←e];exact List.getElem?_eq_getElem (by omega)
 simp only [pwA,seval,-iQ0,hlt,hlt',rd];refine zA6 (by rw [kk.obj t g4];exact g2) (by omega) (hr _ q) fun cap2 hc=>?_
 have hrow:RowAt (mkM L' h.next 1) (h.new (pis x)) σ.next Q (.sl h.next 0 x.length cap2):=RowAt.fresh (by omega) q hc
 simp only [pwA,seval,-iQ0];refine MatN.push (σ:=σ) (b:=σ.next) (k:=k) (.inr (mR.keep (L':=mkM L' h.next 1) (h':=h.new (pis x)) (Nat.le_succ _) (fun t _ ht=>by rw [zD,if_neg (by omega)]) (qG (Nat.le_refl _)))) hk1 hrow (kk.new _) (Nat.le_refl _) (by show σ.next≤h.next+1;omega) (by omega) fun v2 h2 L2 k2 p2 l2 hL2 ho2 _=>?_
 have l2':h.next+1<h2.next:=l2;simp only [pwA,seval,-iQ0,wrapS hlt (by omega:n≤4611686018427387904)]
 exact⟨_,by omega,i+1,L2,v2,by omega,rfl,rfl,k2,fun t ht=>by rw [hL2 t (by show t<h.next+1;omega),qG (Nat.le_refl _) t (by omega)];exact hL' t ht,p2⟩
theorem MatN.pushG {KA:PV×PHeap→Prop} {x:PV} (a:MatN L h b Q k n v) (hk1:k≠1) (hc:RowAt L h b Q c) (hx:plen x=some 1) (hf:qf 1 h x 1=some [c]) (hk:Keep σ h) (hb:σ.next≤b) (hbn:b≤h.next) (hn:n≤1048576)
  (kk:∀v' h' L',Keep σ h'→MatAt L' h' b Q k (n+1) v'→h.next<h'.next→(∀t,t<h.next→L' t=L t)→(∀t,t<h.next→L t≠k→h'.obj t=h.obj t)→(∀t,t<b→h'.obj t=h.obj t)→KA (v',h')):optK (zZ 1 24 h v x) KA:=by
 obtain⟨cs,acc,hcs,hL⟩:=a.acc;refine PAcc.appS (m:=1) (news:=[c]) hk (acc.low hb) hx (by decide) hf rfl (by omega) (by omega) fun v' h' k1 a1 o1 n1 l1=>?_
 obtain⟨s',cap',rfl,g1,g2,g3,g4,g5⟩:=a1;have hs':h.next≤s':=by
  rcases Nat.lt_or_ge s' h.next with q|q
  ·exact absurd rfl (n1 s' q 0 _ cap')
  ·exact q
 have ob:∀t,t<h.next→L t≠k→h'.obj t=h.obj t:=fun t ht hne=>o1 t ht fun off l c e=>hne (hL t off l c e)
 have hnx:h.next≤h'.next:=by omega
 have keepR:∀{d:PV},RowAt L h b Q d→RowAt (mkM L s' k) h' b Q d:=fun {d} hd=>hd.keepK (k:=k) (Ne.symm hk1) hnx (fun t _ ht hne=>ob t ht hne) fun t ht _=>qG hs' t ht
 refine kk _ h' (mkM L s' k) k1 ⟨s',cap',cs++[c],rfl,g1,g2,by simpa using g3,by omega,g5,ZW,fun d hd=>?_⟩ l1 (qG hs') ob fun t ht=>?_
 ·rcases List.mem_append.1 hd with hd | hd
  ·exact keepR (hcs d hd)
  ·rw [List.mem_singleton.1 hd];exact keepR hc
 ·refine o1 t (by omega) fun off l c e=>?_
  rcases acc with ⟨rfl,_,_⟩|⟨s,cap,rfl,q1,q2,q3,q4,q5⟩
  ·cases e
  ·simp only [PV.sl.injEq]at e;omega
theorem TB.keepK (a:TB b h Q O L nP nC len r s vO vP vC) (hk:6≤k) (hk7:k≠7) (hn:h.next≤h'.next) (hlo:∀t,t<b→h'.obj t=h.obj t) (ho:∀t,t<h.next→L t≠k→h'.obj t=h.obj t) (hL:∀t,t<h.next→L' t=L t):TB b h' Q O L' nP nC len r s vO vP vC:=
 ⟨by rw [hlo r a.hr];exact a.res,a.hr,by rw [ho s a.ns.2 (by rw [a.ls];exact Ne.symm hk7)];exact a.ob,a.pw.keepK hk hn (fun t _ ht hne=>ho t ht hne) fun t ht _=>hL t ht,by rw [hL s a.ns.2];exact a.ls,⟨a.ns.1,by have:=a.ns.2;omega⟩⟩
theorem zBK {u:Nat} {cap:Cap} (ho:h.obj u=some [c]):qf 1 h (.sl u 0 1 cap) 1=some [c]:=by
 rw [qM,if_neg (by decide),if_pos (Nat.le_refl _),zb ho];rfl
theorem PW.pushO {KA:PV×PHeap→Prop} {y:Int} (a:PW L b h Q O nP nC len vO vP vC) (hk:Keep σ h) (hb:σ.next≤b) (hbn:b≤h.next) (hn:O.length≤1048576)
  (kk:∀v' h' L',Keep σ h'→PW L' b h' Q (O++[y]) nP nC len v' vP vC→h.next<h'.next→(∀t,t<b→h'.obj t=h.obj t)→(∀t,t<h.next→7≤L t→h'.obj t=h.obj t∧L' t=L t)→KA (v',h')):optK (zZ 1 8 (h.new [.int .i64 y]) vO (.sl h.next 0 1 (.known 1))) KA:=by
 obtain⟨s,cap,rfl,h1,h2,h3,h4,h5⟩:=a.hO;have acc:PAcc b 1 h (.sl s 0 O.length cap) O.length (pis O):=.inr ⟨s,cap,rfl,h1,h2,by rw [zI,Nat.mul_one],h3,h4⟩
 refine PAcc.pushS hk (acc.low hb) rfl (by omega) (by omega) fun v' h' k1 a1 o1 n1 l1=>?_
 obtain⟨s',cap',rfl,g1,g2,g3,g4,g5⟩:=a1;have hs':h.next≤s':=by
  rcases Nat.lt_or_ge s' h.next with q|q
  ·exact absurd rfl (n1 s' q 0 _ cap')
  ·exact q
 have ob:∀t,t<h.next→L t≠5→h'.obj t=h.obj t:=fun t ht hne=>o1 t ht fun off l c e=>hne (by simp only [PV.sl.injEq]at e;rw [←e.1];exact h5)
 have ho:∀t,b≤t→t<h.next→L t≠5→h'.obj t=h.obj t:=fun t _ ht hne=>ob t ht hne
 have hL:∀t,t<h.next→L t≠5→mkM L s' 5 t=L t:=fun t ht _=>qG hs' t ht
 have hx:pis O++[.int .i64 y]=pis (O++[y]):=by simp [pis]
 refine kk _ h' (mkM L s' 5) k1 ⟨⟨s',cap',by simp,by simpa using g1,by rw [g2,hx],by omega,g5,ZW⟩,a.hP.imp id fun a=>a.keepK (k:=5) (by decide) (by decide) (by omega) ho hL,a.hC.imp id fun a=>a.keepK (k:=5) (by decide) (by decide) (by decide) (by omega) ho hL⟩ l1 (fun t ht=>?_) fun t ht h7=>⟨ob t ht (by omega),hL t ht (by omega)⟩
 exact o1 t (by omega) fun off l c e=>by simp only [PV.sl.injEq]at e;omega
theorem PW.setO {y:Int} (a:PW L b h Q O nP nC len vO vP vC) (hi:i<O.length):∃so cap,vO=.sl so 0 O.length cap∧b≤so∧so<h.next∧L so=5∧h.wr so i [.int .i64 y]=some (h.set so (pis (O.set i y)))∧PW L b (h.set so (pis (O.set i y))) Q (O.set i y) nP nC len vO vP vC:=by
 obtain⟨s,cap,rfl,h1,h2,h3,h4,h5⟩:=a.hO;have ho:∀t,b≤t→t<h.next→L t≠5→(h.set s (pis (O.set i y))).obj t=h.obj t:=fun t _ ht hne=>by rw [zJ,if_neg fun e=>hne (by rw [e];exact h5)]
 refine⟨s,cap,rfl,h3,h4,h5,zDD h2 hi,⟨s,cap,by rw [List.length_set],by rw [List.length_set];exact h1,by rw [zJ,if_pos rfl],h3,h4,h5⟩,a.hP.imp id fun a=>a.keepK (k:=5) (by decide) (by decide) (Nat.le_refl _) ho fun _ _ _=>rfl,a.hC.imp id fun a=>a.keepK (k:=5) (by decide) (by decide) (by decide) (Nat.le_refl _) ho fun _ _ _=>rfl⟩
theorem PW.putMat {m:Nat} (a:PW L b h Q O nP nC len vO vP vC) (hi:i<nC) (hc:MatAt L h b Q 6 m c):∃sC cap ds L' len',vC=.sl sC 0 nC cap∧b≤sC∧sC<h.next∧L sC=4∧h.wr sC i [c]=some (h.set sC ds)∧
  PW L' b (h.set sC ds) Q O nP nC len' vO vP vC∧(∀t,7≤L t→L' t=L t)∧∀j,len' j=if j=i then m else len j:=by
 obtain⟨s0,cap0,cs0,rfl,z1,z2,z3,z4,z5,z6,z7⟩:=hc;rcases a.hC with ⟨e,_⟩|⟨s,cap,cs,rfl,h1,h2,h3,h4,h5,h6,h7⟩
 ·omega
 have e1:∀t,L t≠6→mkM L s0 3 t=L t:=fun t hne=>if_neg fun e=>hne (by rw [e];exact z6)
 have ob:∀t,L t≠4→(h.set s (cs.set i (.sl s0 0 m cap0))).obj t=h.obj t:=fun t hne=>by rw [zJ,if_neg fun e=>hne (by rw [e];exact h6)]
 have kR:∀{d:PV},RowAt L h b Q d→RowAt (mkM L s0 3) (h.set s (cs.set i (.sl s0 0 m cap0))) b Q d:=fun {d} ⟨x,q,s,cap,e,r1,r2,r3,r4,r5⟩=>
  ⟨x,q,s,cap,e,r1,by rw [ob s (by rw [r5];decide)];exact r2,r3,r4,by rw [e1 s (by rw [r5];decide)];exact r5⟩
 have kM:∀{j m:Nat} {d:PV},j≠4→j≠6→MatAt L h b Q j m d→MatAt (mkM L s0 3) (h.set s (cs.set i (.sl s0 0 _ cap0))) b Q j m d:=fun {j m d} hj4 hj6 ⟨s,cap,cs,e,r1,r2,r3,r4,r5,r6,r7⟩=>
  ⟨s,cap,cs,e,r1,by rw [ob s (by rw [r6];exact hj4)];exact r2,r3,r4,r5,by rw [e1 s (by rw [r6];exact hj6)];exact r6,fun c hc=>kR (r7 c hc)⟩
 refine⟨s,cap,_,mkM L s0 3,fun j=>if j=i then m else len j,rfl,h4,h5,h6,zE0 h2 (by omega) rfl,⟨?_,a.hP.imp id (kM (by decide) (by decide)),.inr ⟨s,cap,_,rfl,h1,by rw [zJ,if_pos rfl],by rw [List.length_set];exact h3,h4,h5,by rw [e1 s (by rw [h6];decide)];exact h6,fun j d hd=>?_⟩⟩,fun t ht=>e1 t (by omega),fun j=>rfl⟩
 ·obtain⟨s,cap,e,r1,r2,r3,r4,r5⟩:=a.hO
  exact⟨s,cap,e,r1,by rw [ob s (by rw [r5];decide)];exact r2,r3,r4,by rw [e1 s (by rw [r5];decide)];exact r5⟩
 ·rw [List.getElem?_set]at hd
  by_cases e:i=j
  ·subst e
   rw [if_pos rfl,if_pos (by omega)]at hd
   cases hd;simp only [if_true];exact⟨s0,cap0,cs0,rfl,z1,by rw [ob s0 (by rw [z6];decide)];exact z2,z3,z4,z5,ZW,fun c hc=>kR (z7 c hc)⟩
  ·rw [if_neg e]at hd
   simp only [if_neg (Ne.symm e)];exact kM (by decide) (by decide) (h7 j d hd)
theorem RowAt.weak (a:RowAt L h b Q v) (hq:∀m,Q m→Q' m):RowAt L h b Q' v:=by
 obtain⟨x,q,a⟩:=a;exact⟨x,hq _ q,a⟩
theorem MatAt.weak (a:MatAt L h b Q k n v) (hq:∀m,Q m→Q' m):MatAt L h b Q' k n v:=by
 obtain⟨s,cap,cs,e,h1,h2,h3,h4,h5,h6,h7⟩:=a;exact⟨s,cap,cs,e,h1,h2,h3,h4,h5,h6,fun c hc=>(h7 c hc).weak hq⟩
theorem PW.weak (a:PW L b h Q O nP nC len vO vP vC) (hq:∀m,Q m→Q' m):PW L b h Q' O nP nC len vO vP vC:=
 ⟨a.hO,a.hP.imp id fun a=>a.weak hq,a.hC.imp id fun⟨s,cap,cs,e,h1,h2,h3,h4,h5,h6,h7⟩=>⟨s,cap,cs,e,h1,h2,h3,h4,h5,h6,fun i c hc=>(h7 i c hc).weak hq⟩⟩
theorem TB.weak (a:TB b h Q O L nP nC len r s vO vP vC) (hq:∀m,Q m→Q' m):TB b h Q' O L nP nC len r s vO vP vC:=⟨a.res,a.hr,a.ob,a.pw.weak hq,a.ls,a.ns⟩
theorem TB.wroteO {O':List Int} {L':Nat→Nat} {nP' nC':Nat} {len':Nat→Nat} (a:TB b h Q O L nP nC len r s vO vP vC) (ht:b≤t) (hL:L t≠7) (hL':L' s=L s) {cs:List PV} (p:PW L' b (h.set t cs) Q O' nP' nC' len' vO vP vC):TB b (h.set t cs) Q O' L' nP' nC' len' r s vO vP vC:=
 ⟨by rw [zJ,if_neg (by have:=a.hr;omega)];exact a.res,a.hr,by rw [zJ,if_neg (fun e=>hL (by rw [←e];exact a.ls))];exact a.ob,p,by rw [hL'];exact a.ls,a.ns⟩
structure SmP (O:List Int) (P:List (List Int)) (C:List (List (List Int))):Prop where
 o:O.length≤64
 ob:∀a∈O,-1000≤a∧a≤1000
 p:P.length≤64
 pr:∀r∈P,r.length≤64
 c:C.length≤64
 q:∀q∈C,q.length≤64
 r:∀q∈C,∀r∈q,r.length≤64
theorem PQ3.sm {N:Nat} (a:PQ3 (fun m=>m≤N) P C nP nC len) (hN:N≤64) (hO:O.length≤64) (ob:∀a∈O,-1000≤a∧a≤1000) (hP:nP≤64) (hC:nC≤64) (hl:∀i,i<nC→len i≤64):SmP O P C:=
 ⟨hO,ob,by rw [a.pl];exact hP,fun r hr=>by have:r.length≤N:=a.pq r hr;omega,by rw [a.cl];exact hC,fun q hq=>by
  obtain⟨i,hi,rfl⟩:=List.mem_iff_getElem.1 hq
  have:=a.row i (by rw [←a.cl];exact hi)
  rw [List.getD_eq_getElem?_getD,List.getElem?_eq_getElem hi]at this
  have e:C[i].length=len i:=this;rw [e];exact hl i (by rw [←a.cl];exact hi),fun q hq r hr=>by have:r.length≤N:=a.cq q hq r hr;omega⟩
end Go.Proofs
namespace Go.Grp
end Go.Grp
namespace Go.Proofs
open Go.Ab Go.Lie Go.Grp
variable {σ σ0 h h':PHeap} {K:PV→PHeap→Prop} {b s t n k nP nC r s0 i j:Nat} {L L':Nat→Nat} {Q Q':Nat→Prop} {len:Nat→Nat} {v vO vP vC c vX vS vL:PV} {x O xs bs:List Int} {P M:List (List Int)} {C:List (List (List Int))} {cs:List PV}
theorem TB.step {nP' nC':Nat} {len':Nat→Nat} {O':List Int} {uO uP uC:PV} (a:TB b h Q O L nP nC len r s vO vP vC) (hp:PW L' b h' Q O' nP' nC' len' uO uP uC) (hn:h.next≤h'.next) (hlo:∀t,t<b→h'.obj t=h.obj t) (h7:∀t,t<h.next→7≤L t→h'.obj t=h.obj t∧L' t=L t):
  h'.obj s=some [vO,vP,vC]∧TB b (h'.set s [uO,uP,uC]) Q O' L' nP' nC' len' r s uO uP uC:=by
 have hs:=h7 s a.ns.2 (by rw [a.ls];exact Nat.le_refl _)
 have ls:L' s=7:=by rw [hs.2];exact a.ls
 have hr:=a.hr;have hns:=a.ns;exact⟨by rw [hs.1];exact a.ob,⟨by rw [zJ,if_neg (by omega),hlo r hr];exact a.res,hr,by rw [zJ,if_pos rfl],hp.set7 (by rw [ls];exact Nat.le_refl _) _,ls,⟨hns.1,by show s<h'.next;omega⟩⟩⟩
theorem zER (sh:Shp O P C):(∀q∈C,q.length≤6∧∀r∈q,r.length=O.length)∧∀r∈P,r.length=O.length:=by
 have hn6:=sh.le;refine⟨fun q hq=>?_,fun r hr=>?_⟩
 ·obtain⟨i,hi,rfl⟩:=List.mem_iff_getElem.1 hq
  have hi':i<O.length:=by rw [←sh.cl];exact hi
  have e1:C.getD i []=C[i]:=by rw [List.getD_eq_getElem?_getD,List.getElem?_eq_getElem hi];rfl
  have hl:=sh.row i hi';rw [e1]at hl
  refine⟨by omega,fun r hr=>?_⟩
  obtain⟨k,hk',rfl⟩:=List.mem_iff_getElem.1 hr
  have:=(sh.cj i (i+1+k) (by omega) (by omega)).len
  unfold cvec at this
  rw [e1,show i+1+k-i-1=k by omega,List.getD_eq_getElem?_getD,List.getElem?_eq_getElem hk']at this
  exact this
 ·obtain⟨i,hi,rfl⟩:=List.mem_iff_getElem.1 hr
  have:=(sh.pw i (by rw [←sh.pl];exact hi)).len
  unfold pvec at this
  rw [List.getD_eq_getElem?_getD,List.getElem?_eq_getElem hi]at this
  exact this
theorem zH8 (so:So σ s0 vS bs) (hR:IsPr vO vP vC O P C) (hp:zQ O P C)
  (hk:∀wO wP wC O' P' C' σ',IsPr wO wP wC O' P' C'→SmP O' P' C'→Mv σ s0 σ'→So σ' s0 vS bs→K (.agg [wO,wP,wC]) σ'):zA Tryz.prog 151 [.ptr s0 0,.agg [vO,vP,vC]] σ K:=by
 have sh:=hp.shp;have hn6:=sh.le;have g0:=hR.O.one;have g1:=hR.P.one;have g2:=hR.C.one;have hlt:=so.lt;obtain⟨hCr,hPr⟩:=zER sh;have hOb:∀a∈O,-1000≤a∧a≤1000:=fun a ha=>by
  have:=hp.2.2.2.1 a ha
  rcases this with h|h|h|h<;>omega
 refine zA.gh ?_;refine zR mix Tryz.func151 cf151 rfl ?_;dsimp only [if151,eI,nI,qD,eD,mI0,lI0,LI0,fI0,cI0,sI0,C1,mD0,lD0,fD0,I0,G0,aI0,yI0,vI0,wD0,R0,S0];simp only [pwA,seval,-iQ0,g0,g1,g2];generalize hH:((σ.new [vO,vP,vC]).new [PV.fz true AV.nils 0 [],PV.fz true AV.nils 0 [],PV.fz true AV.nils 0 []])=H;have hHn:H.next=σ.next+2:=by rw [←hH];rfl
 have kH:Keep σ H:=by rw [←hH];exact(zB _ _).new _
 have ob1:H.obj (σ.next+1)=some [PV.fz true AV.nils 0 [],PV.fz true AV.nils 0 [],PV.fz true AV.nils 0 []]:=by rw [←hH];simp only [pwA,seval,-iQ0]
 clear hH;refine zCx (Q:=fun m=>m≤6) hR (by omega) (by rw [sh.pl];omega) (by rw [sh.cl];omega) (fun q hq=>by have:=(hCr q hq).1;omega) (fun r hr=>by rw [hPr r hr];omega) (fun q hq r hr=>by rw [(hCr q hq).2 r hr];omega) (fun m hm=>by omega) fun L h uO uP uC k1 p1=>?_
 have hn1:=k1.next;have p2:PW L H.next h (fun m=>m≤6) O O.length O.length (fun i=>O.length-1-i) uO uP uC:=by
  rw [sh.pl,sh.cl]at p1
  exact p1.lenE fun i hi=>sh.row i hi
 clear p1;obtain⟨so_,capO,eO,-⟩:=p2.hO;subst eO;have a:=TB.start p2 (r:=σ.next+1) (by omega) (by rw [k1.obj _ (by omega)];exact ob1) hn1
 have km1:KM σ s0 (h.new [.sl so_ 0 O.length capO,uP,uC]):=so.kmK ((kH.trans k1).new _);have so1:So (h.new [.sl so_ 0 O.length capO,uP,uC]) s0 vS bs:=so.keep ((kH.trans k1).new _);simp only [pwA,seval,-iQ0,p2.hP.one,p2.hC.one];have hr1:s0≠σ.next+1:=by omega
 have hs0:s0<H.next:=by omega
 have hsh:h.next<(h.new [.sl so_ 0 O.length capO,uP,uC]).next:=Nat.lt_succ_self _;have fin:∀{g:PHeap} {L':Nat→Nat} {b':Nat} {Q':Nat→Prop} {O':List Int} {nP nC:Nat} {len:Nat→Nat} {wO wP wC:PV},σ.next+1<b'→KM σ s0 g→So g s0 vS bs→g.obj (σ.next+1)=some [PV.fz true AV.nils 0 [],PV.fz true AV.nils 0 [],PV.fz true AV.nils 0 []]→g.obj h.next=some [wO,wP,wC]→
   PW L' b' g Q' O' nP nC len wO wP wC→(∀P' C',PQ3 Q' P' C' nP nC len→SmP O' P' C')→g.rd h.next 0 3=some [wO,wP,wC]∧g.wr (σ.next+1) 0 [wO,wP,wC]=some (g.set (σ.next+1) [wO,wP,wC])∧(g.set (σ.next+1) [wO,wP,wC]).rd (σ.next+1) 0 3=some [wO,wP,wC]∧Gh σ K (.agg [wO,wP,wC]) (g.set (σ.next+1) [wO,wP,wC]):=fun {g L' b' Q' O' nP nC len wO wP wC} hb km so' hr hs p sm=>
  ⟨by rw [zb hs];rfl,by rw [zX hr,if_pos ⟨by simp,by simp [p.hO.one,p.hP.one,p.hC.one]⟩];rfl,by rw [qZ,if_pos rfl];rfl,(p.set (by omega) _).finKM (km.set (by omega) _) (so'.set (by omega) _) hlt (by omega) fun wO wP wC P C σ' x1 x2 x3 x4=>hk wO wP wC O' P C σ' x1 (sm P C x2) x3 x4⟩
 have finT:∀{g:PHeap} {L':Nat→Nat} {O':List Int} {len:Nat→Nat} {wO wP wC:PV},KM σ s0 g→So g s0 vS bs→TB H.next g (fun m=>m≤7) O' L' O.length O.length len (σ.next+1) h.next wO wP wC→O'.length≤64→(∀a∈O',-1000≤a∧a≤1000)→(∀i,i<O.length→len i≤64)→g.rd h.next 0 3=some [wO,wP,wC]∧g.wr (σ.next+1) 0 [wO,wP,wC]=some (g.set (σ.next+1) [wO,wP,wC])∧(g.set (σ.next+1) [wO,wP,wC]).rd (σ.next+1) 0 3=some [wO,wP,wC]∧Gh σ K (.agg [wO,wP,wC]) (g.set (σ.next+1) [wO,wP,wC]):=fun {g L' O' len wO wP wC} km so' a h1 h2 h3=>
  fin (by omega) km so' a.res a.ob a.pw fun P' C' q=>q.sm (by omega) h1 h2 (by omega) (by omega) h3
 generalize h.new [PV.sl so_ 0 O.length capO,uP,uC]=g at *
 generalize mkM L h.next 7=L1 at *
 refine zl so1 (by decide) fun x1 g1 hx1 m1 so2=>?_
 have a1:=a.mv hs0 hr1 m1;have km2:=km1.mv hlt m1;have x10:=hx1.1;have x1b:x1<6:=hx1.2.2 (by decide)
 have hsh1:h.next<g1.next:=by rw [m1.next];exact hsh
 clear a km1 so1 m1 hx1;have w67:∀m,m≤6→m≤7:=fun m hm=>by omega
 obtain⟨σ',m',so',kp,hn'⟩:=kmSo km2 so2 hlt;have lenB:∀i,i<O.length→(fun i=>O.length-1-i) i≤64:=fun i hi=>by show O.length-1-i≤64;omega
 by_cases e0:x1=0
 ·subst e0
  have n1:¬h.next=g1.next:=by omega
  simp only [pwA,seval,-iQ0,a1.r0,n1];refine PW.pushO (σ:=σ') (a1.weak w67).pw kp (by omega) (by omega) (by omega) fun v2 h2 L2 k2 p2' l2 o2 q2=>?_
  obtain⟨e1,a2⟩:=(a1.weak w67).step p2' (Nat.le_of_lt l2) o2 q2;have w:h2.wr h.next 0 [v2]=some (h2.set h.next [v2,uP,uC]):=by rw [zX e1,if_pos ⟨by simp,by simp [p2'.hO.one]⟩];rfl
  have km3:KM σ s0 (h2.set h.next [v2,uP,uC]):=KM.set ⟨σ',m',k2⟩ (by omega) _
  have so3:So (h2.set h.next [v2,uP,uC]) s0 vS bs:=(so'.keep k2).set (by omega) _
  generalize h2.set h.next [v2,uP,uC]=g2 at *
  obtain⟨f1,f2,f3,f4⟩:=finT km3 so3 a2 (by simp;omega) (fun a ha=>by
   rcases List.mem_append.1 ha with h|h
   ·exact hOb a h
   ·rw [List.mem_singleton.1 h];decide) lenB
  simp only [pwA,seval,-iQ0,w,p2'.hO.cells,f1,f2,f3];exact f4
 by_cases e1:x1=1
 ·subst e1
  by_cases hO0:0<O.length
  rotate_left
  ·have hO0':¬(0:Int)<(O.length:Int):=by omega
   obtain⟨f1,f2,f3,f4⟩:=finT km2 so2 (a1.weak w67) (by omega) hOb lenB
   simp only [pwA,seval,-iQ0,a1.r0,hO0',f1,f2,f3];exact f4
  have hO0':(0:Int)<(O.length:Int):=by omega
  have n1:¬h.next=g1.next:=by omega
  simp only [pwA,seval,-iQ0,a1.r0,hO0',hO0,n1];refine QZ (t:=g1.next) (xs:=[4,1,11,0,-2]) (so2.keep (zB _ _)) (by omega) (by rw [zD,if_pos rfl];rfl) (by decide) fun y g2 hy m2 so3=>?_
  have a2:=(a1.new _).mv hs0 hr1 m2;have km3:=(km2.new _).mv hlt m2;obtain⟨so',cap',e,hb,hl5,L5,w,p⟩:=(a2.weak w67).pw.setO (y:=y) hO0;simp only [PV.sl.injEq]at e
  obtain⟨rfl,-,-,rfl⟩:=e;have a3:=(a2.weak w67).wroteO hb (by omega) rfl p
  have km4:=km3.set (t:=so_) (by omega) (pis (O.set 0 y))
  have so4:=so3.set (t:=so_) (by omega) (pis (O.set 0 y))
  generalize g2.set so_ (pis (O.set 0 y))=g3 at *
  obtain⟨f1,f2,f3,f4⟩:=finT km4 so4 a3 (by simp;omega) (fun a ha=>by
   rcases List.mem_or_eq_of_mem_set ha with h|rfl
   ·exact hOb a h
   ·simp at hy;omega) lenB
  have o0:g3.rd1 h.next 0=some (.sl so_ 0 O.length capO):=a3.r0;simp only [pwA,seval,-iQ0,a2.r0,w,hO0,hO0',f1,f2,f3];exact f4
 by_cases e2:x1=2
 ·subst e2
  by_cases hO0:0<O.length
  rotate_left
  ·have hO0':¬(0:Int)<(O.length:Int):=by omega
   obtain⟨f1,f2,f3,f4⟩:=finT km2 so2 (a1.weak w67) (by omega) hOb lenB
   simp only [pwA,seval,-iQ0,a1.r1,a1.pw.hP.pLen,hO0',f1,f2,f3];exact f4
  have hO0':(0:Int)<(O.length:Int):=by omega
  obtain⟨sP,capP,cs,eP,h1,h2,h3,h4,h5,h6⟩:=a1.pw.powers hO0;subst eP;obtain⟨x,q,t,capt,e,q1,q2,q3,q4,q5⟩:=h6 _ (List.getElem_mem (by omega:0<cs.length))
  have rd:g1.rd1 sP 0=some (.sl t 0 x.length capt):=by rw [zH h1,List.getElem?_eq_getElem (by omega),e]
  have n1:¬h.next=g1.next:=by omega
  have n2:¬sP=g1.next:=by omega
  simp only [pwA,seval,-iQ0,a1.r1,hO0',hO0,n1,n2,rd];refine zA6 (by rw [zD,if_neg (by omega)];exact q2) (by show t<g1.next+1;omega) (by omega) fun cap2 hc2=>?_
  have n3:¬h.next=g1.next+1:=by omega
  simp only [pwA,seval,-iQ0,a1.r1,n1,n3];have hf:qf 1 ((g1.new [PV.int IntKind.i64 0]).new (pis x)) (.sl g1.next 0 1 (.known 1)) 1=some [PV.int IntKind.i64 0]:=by
   have:((g1.new [PV.int IntKind.i64 0]).new (pis x)).obj g1.next=some [PV.int IntKind.i64 0]:=by rw [zD,if_neg (show ¬g1.next=(g1.new [PV.int IntKind.i64 0]).next from fun e=>by have:g1.next=g1.next+1:=e;omega),zD,if_pos rfl]
   rw [qM,if_neg (by decide),if_pos (Nat.le_refl _),zb this];rfl
  refine PAcc.app (σb:=g1.new [.int .i64 0]) (b:=0) (n:=x.length) (m:=1) (cs:=pis x) (news:=[.int .i64 0]) (zB _ _) (Nat.zero_le _) (.inr ⟨g1.next+1,cap2,rfl,hc2,by rw [zD];exact if_pos rfl,by rw [zI];omega,Nat.le_refl _,Nat.lt_succ_self _⟩) rfl (fun _=>hf) rfl (by omega) (by omega) fun v2 h2' k2 _ aS=>?_
  obtain⟨s',cap',rfl,z1,z2,z3,z4,z5⟩:=aS (by omega)
  have z4':g1.next+1≤s':=z4;have kk:=(zB g1 [PV.int .i64 0]).trans k2;have a2:TB H.next h2' (fun m=>m≤7) O (mkM L1 s' 1) O.length O.length (fun i=>O.length-1-i) (σ.next+1) h.next (.sl so_ 0 O.length capO) (.sl sP 0 O.length capP) uC:=(a1.weak w67).keepL kk.next (kk.obj _ a1.rlt) (fun t _ ht=>kk.obj t ht) (qG (by omega))
  have hrow:RowAt (mkM L1 s' 1) h2' H.next (fun m=>m≤7) (.sl s' 0 (x.length+1) cap'):=⟨x++[0],by simp;omega,s',cap',by simp,by simpa using z1,by rw [z2];simp [pis],by omega,z5,ZW⟩
  obtain⟨sP',capP',ds,e',b1,b2,w,a3⟩:=a2.putP hO0 hrow;simp only [PV.sl.injEq]at e'
  obtain⟨rfl,-,-,rfl⟩:=e';have km3:KM σ s0 (h2'.set sP ds):=KM.set (km2.keep kk) (by omega) ds
  have so3:So (h2'.set sP ds) s0 vS bs:=(so2.keep kk).set (by omega) ds
  have r1':h2'.rd1 h.next 1=some (.sl sP 0 O.length capP):=a2.r1;generalize h2'.set sP ds=g3 at *
  obtain⟨f1,f2,f3,f4⟩:=finT km3 so3 a3 (by omega) hOb lenB
  simp only [pwA,seval,-iQ0,r1',w,hO0,hO0',f1,f2,f3];exact f4
 by_cases e3:x1=3
 ·subst e3
  by_cases hO0:0<O.length
  rotate_left
  ·have hO0':¬(0:Int)<(O.length:Int):=by omega
   obtain⟨f1,f2,f3,f4⟩:=finT km2 so2 (a1.weak w67) (by omega) hOb lenB
   simp only [pwA,seval,-iQ0,a1.r1,a1.pw.hP.pLen,hO0',f1,f2,f3];exact f4
  have hO0':(0:Int)<(O.length:Int):=by omega
  obtain⟨sP,capP,cs,eP,h1,h2,h3,h4,h5,h6⟩:=a1.pw.powers hO0;subst eP;obtain⟨x,q,t,capt,e,q1,q2,q3,q4,q5⟩:=h6 _ (List.getElem_mem (by omega:0<cs.length))
  have rd:g1.rd1 sP 0=some (.sl t 0 x.length capt):=by rw [zH h1,List.getElem?_eq_getElem (by omega),e]
  by_cases hx0:0<x.length
  rotate_left
  ·have hx0':¬(0:Int)<(x.length:Int):=by omega
   obtain⟨f1,f2,f3,f4⟩:=finT km2 so2 (a1.weak w67) (by omega) hOb lenB
   simp only [pwA,seval,-iQ0,a1.r1,hO0',hO0,rd,hx0',f1,f2,f3];exact f4
  have hx0':(0:Int)<(x.length:Int):=by omega
  obtain⟨w,p⟩:=(a1.weak w67).pw.setRow (y:=1) q2 hx0 q5;have a3:=(a1.weak w67).wrote q3 (by omega) p
  have km3:=km2.set (t:=t) (by omega) (pis (x.set 0 1))
  have so3:=so2.set (t:=t) (by omega) (pis (x.set 0 1))
  generalize g1.set t (pis (x.set 0 1))=g3 at *
  obtain⟨f1,f2,f3,f4⟩:=finT km3 so3 a3 (by omega) hOb lenB
  simp only [pwA,seval,-iQ0,a1.r1,hO0',hO0,rd,hx0',hx0,w,f1,f2,f3];exact f4
 by_cases e4:x1=4
 ·subst e4
  by_cases hO0:0<O.length
  rotate_left
  ·have hO0':¬(0:Int)<(O.length:Int):=by omega
   obtain⟨f1,f2,f3,f4⟩:=finT km2 so2 (a1.weak w67) (by omega) hOb lenB
   simp only [pwA,seval,-iQ0,a1.r2,a1.pw.hC.pLen,hO0',f1,f2,f3];exact f4
  have hO0':(0:Int)<(O.length:Int):=by omega
  have aw:=a1.weak w67;obtain⟨ee,-⟩|⟨sC,capC,ms,eC,z1,z2,z3,z4,z5,z6,z7⟩:=aw.pw.hC
  ·omega
  subst eC;have hm0:=z7 0 _ (List.getElem?_eq_getElem (by omega:0<ms.length))
  have q1:g1.rd1 sC 0=some ms[0]:=by rw [zH z2,List.getElem?_eq_getElem (by omega)]
  obtain⟨t,capt,cs,et,y1,y2,y3,y4,y5,y6,y7⟩:=hm0;rw [et]at q1
  have hm0:MatAt L1 g1 H.next (fun m=>m≤7) 3 (O.length-1-0) (.sl t 0 (O.length-1-0) capt):=⟨t,capt,cs,rfl,y1,y2,y3,y4,y5,y6,y7⟩
  have hHg:H.next≤g1.next:=by omega
  have n1:¬h.next=g1.next:=by omega
  have n2:¬sC=g1.next:=by omega
  have n3:¬h.next=g1.next+1:=by omega
  have n4:¬sC=g1.next+1:=by omega
  have aZ:=aw.fresh (pis (List.replicate O.length 0)) 1;have kZ:=zB g1 (pis (List.replicate O.length 0));have rZ:RowAt (mkM L1 g1.next 1) (g1.new (pis (List.replicate O.length 0))) H.next (fun m=>m≤7) (.sl g1.next 0 O.length (.known O.length)):=by
   have:=RowAt.fresh (L:=L1) (h:=g1) (b:=H.next) (Q:=fun m=>m≤7) (x:=List.replicate O.length 0) (cap:=.known O.length) hHg (by simp;omega) (by simp [full])
   simpa using this
  have mZ:=hm0.keep (L':=mkM L1 g1.next 1) (h':=g1.new (pis (List.replicate O.length 0))) (Nat.le_succ _) (fun t _ ht=>by rw [zD,if_neg (by omega)]) (qG (Nat.le_refl _))
  simp only [pwA,seval,-iQ0,a1.r2,a1.r0,hO0',hO0,q1,n1,n2,n3,n4,zi,qx,TVp_e,TVp_q,zt,zq,mk8 (n:=O.length) (by omega),Go.Ab.mkL (n:=O.length) (by omega)]
  have lenC:∀len':Nat→Nat,(∀j,len' j=if j=0 then O.length-1-0+1 else O.length-1-j)→∀i,i<O.length→len' i≤64:=fun len' hl i hi=>by rw [hl i];split<;>omega
  refine⟨?_,?_,?_⟩
  ·refine zB0 (L:=L1) (k:=6) hm0 (by omega) (fun m hm=>by omega) (by decide) (by omega) fun L2 h2 v2 k2 e2 m2=>?_
   have hn2:=k2.next;have a2:=aw.keepL k2.next (k2.obj _ aw.rlt) (fun t _ ht=>k2.obj t ht) e2
   have q2:h2.rd1 sC 0=some (.sl t 0 (O.length-1-0) capt):=by unfold PHeap.rd1;rw [k2.obj sC z5];exact q1
   have n5:¬h.next=h2.next:=by omega
   have n6:¬sC=h2.next:=by omega
   have n7:¬h.next=h2.next+1:=by omega
   have n8:¬sC=h2.next+1:=by omega
   have aY:=(a2.fresh (pis (List.replicate O.length 0)) 1).new [PV.sl h2.next 0 O.length (.known O.length)];have rY:RowAt (mkM L2 h2.next 1) (h2.new (pis (List.replicate O.length 0))) H.next (fun m=>m≤7) (.sl h2.next 0 O.length (.known O.length)):=by
    have:=RowAt.fresh (L:=L2) (h:=h2) (b:=H.next) (Q:=fun m=>m≤7) (x:=List.replicate O.length 0) (cap:=.known O.length) (by omega) (by simp;omega) (by simp [full])
    simpa using this
   have kY:Keep g1 ((h2.new (pis (List.replicate O.length 0))).new [PV.sl h2.next 0 O.length (.known O.length)]):=(k2.new _).new _;have mY:=m2.keep (L':=mkM L2 h2.next 1) (h':=(h2.new (pis (List.replicate O.length 0))).new [PV.sl h2.next 0 O.length (.known O.length)]) (by show h2.next≤h2.next+1+1;omega) (fun t _ ht=>by rw [zD,if_neg (by show ¬t=h2.next+1;omega),zD,if_neg (by omega)]) (qG (Nat.le_refl _))
   have rY':=rY.keep (L':=mkM L2 h2.next 1) (h':=(h2.new (pis (List.replicate O.length 0))).new [PV.sl h2.next 0 O.length (.known O.length)]) (Nat.le_succ _) (fun t _ ht=>by rw [zD,if_neg (by show ¬t=h2.next+1;have:t<h2.next+1:=ht;omega)]) (fun _ _=>rfl)
   have oY:((h2.new (pis (List.replicate O.length 0))).new [PV.sl h2.next 0 O.length (.known O.length)]).obj (h2.next+1)=some [PV.sl h2.next 0 O.length (.known O.length)]:=by rw [zD];exact if_pos rfl
   simp only [pwA,seval,-iQ0,TVp_e,TVp_q,zt,zq,a2.r2,a2.r0,q2,n5,n6,n7,n8,hO0',hO0,zi,mk8 (n:=O.length) (by omega),Go.Ab.mkL (n:=O.length) (by omega)]
   have hYn:((h2.new (pis (List.replicate O.length 0))).new [PV.sl h2.next 0 O.length (.known O.length)]).next=h2.next+2:=rfl;generalize ((h2.new (pis (List.replicate O.length 0))).new [PV.sl h2.next 0 O.length (.known O.length)])=gY at *
   refine MatN.pushG (σ:=σ') (.inr mY) (by decide) rY' rfl (zBK oY) (kp.trans kY) (by omega) (by omega) (by omega) fun v3 h3 L3 k3 m3 l3 hL3 ho3 hlo3=>?_
   have a3:=aY.keepK (k:=6) (Nat.le_refl _) (by decide) (Nat.le_of_lt l3) hlo3 ho3 hL3
   obtain⟨sC',capC',ds,L4,len',e',b1,b2,l4,w,p4,f7,flen⟩:=a3.pw.putMat hO0 m3;simp only [PV.sl.injEq]at e'
   obtain⟨rfl,-,-,rfl⟩:=e';have a4:=a3.wroteO b1 (by omega) (by rw [f7 _ (by rw [a3.ls];exact Nat.le_refl _)]) p4
   have km3:KM σ s0 (h3.set sC ds):=KM.set ⟨σ',m',k3⟩ (by omega) _
   have so3:So (h3.set sC ds) s0 vS bs:=(so'.keep k3).set (by omega) _
   have r2':=a3.r2;generalize h3.set sC ds=g3 at *
   obtain⟨f1,f2,f3,f4⟩:=finT km3 so3 a4 (by omega) hOb (lenC len' flen)
   simp only [pwA,seval,-iQ0,TVp_e,TVp_q,zt,zq,r2',w,hO0,hO0',m3.cells,f1,f2,f3];exact f4
  ·generalize hZn:g1.new (pis (List.replicate O.length 0))=Z at *
   have hZ1:Z.next=g1.next+1:=by rw [←hZn];rfl
   refine zB0 (L:=mkM L1 g1.next 1) (k:=6) mZ (by omega) (fun m hm=>by omega) (by decide) (by omega) fun L2 h2 v2 k2 e2 m2=>?_
   have hn2:=k2.next;have a2:=aZ.keepL k2.next (k2.obj _ aZ.rlt) (fun t _ ht=>k2.obj t ht) e2
   have q2:h2.rd1 sC 0=some (.sl t 0 (O.length-1-0) capt):=by unfold PHeap.rd1;rw [k2.obj sC (by omega),←hZn,zD,if_neg n2];exact q1
   have n5:¬h.next=h2.next:=by omega
   have n6:¬sC=h2.next:=by omega
   have aY:=a2.new [PV.sl g1.next 0 O.length (.known O.length)];have kY:Keep g1 (h2.new [PV.sl g1.next 0 O.length (.known O.length)]):=(kZ.trans k2).new _;have mY:=m2.keep (L':=L2) (h':=h2.new [PV.sl g1.next 0 O.length (.known O.length)]) (Nat.le_succ _) (fun t _ ht=>by rw [zD,if_neg (by omega)]) (fun _ _=>rfl)
   have rY':=rZ.keep (L':=L2) (h':=h2.new [PV.sl g1.next 0 O.length (.known O.length)]) (by show Z.next≤h2.next+1;omega) (fun t _ ht=>by rw [zD,if_neg (by omega),k2.obj t ht]) e2
   have oY:(h2.new [PV.sl g1.next 0 O.length (.known O.length)]).obj h2.next=some [PV.sl g1.next 0 O.length (.known O.length)]:=by rw [zD,if_pos rfl]
   simp only [pwA,seval,-iQ0,TVp_e,TVp_q,zt,zq,a2.r2,a2.r0,q2,n5,n6,hO0',hO0];have hYn:(h2.new [PV.sl g1.next 0 O.length (.known O.length)]).next=h2.next+1:=rfl;generalize (h2.new [PV.sl g1.next 0 O.length (.known O.length)])=gY at *
   refine MatN.pushG (σ:=σ') (.inr mY) (by decide) rY' rfl (zBK oY) (kp.trans kY) (by omega) (by omega) (by omega) fun v3 h3 L3 k3 m3 l3 hL3 ho3 hlo3=>?_
   have a3:=aY.keepK (k:=6) (Nat.le_refl _) (by decide) (Nat.le_of_lt l3) hlo3 ho3 hL3
   obtain⟨sC',capC',ds,L4,len',e',b1,b2,l4,w,p4,f7,flen⟩:=a3.pw.putMat hO0 m3;simp only [PV.sl.injEq]at e'
   obtain⟨rfl,-,-,rfl⟩:=e';have a4:=a3.wroteO b1 (by omega) (by rw [f7 _ (by rw [a3.ls];exact Nat.le_refl _)]) p4
   have km3:KM σ s0 (h3.set sC ds):=KM.set ⟨σ',m',k3⟩ (by omega) _
   have so3:So (h3.set sC ds) s0 vS bs:=(so'.keep k3).set (by omega) _
   have r2':=a3.r2;generalize h3.set sC ds=g3 at *
   obtain⟨f1,f2,f3,f4⟩:=finT km3 so3 a4 (by omega) hOb (lenC len' flen)
   simp only [pwA,seval,-iQ0,TVp_e,TVp_q,zt,zq,r2',w,hO0,hO0',m3.cells,f1,f2,f3];exact f4
  ·generalize hZn:g1.new (pis (List.replicate O.length 0))=Z at *
   have hZ1:Z.next=g1.next+1:=by rw [←hZn];rfl
   have aW:=aZ.new [PV.sl g1.next 0 O.length (.known O.length)];have kW:=zB Z [PV.sl g1.next 0 O.length (.known O.length)];have mW:=mZ.keep (L':=mkM L1 g1.next 1) (h':=Z.new [PV.sl g1.next 0 O.length (.known O.length)]) (Nat.le_succ _) (fun t _ ht=>by rw [zD,if_neg (by omega)]) (fun _ _=>rfl)
   have rW:=rZ.keep (L':=mkM L1 g1.next 1) (h':=Z.new [PV.sl g1.next 0 O.length (.known O.length)]) (Nat.le_succ _) (fun t _ ht=>by rw [zD,if_neg (by omega)]) (fun _ _=>rfl)
   have oW:(Z.new [PV.sl g1.next 0 O.length (.known O.length)]).obj (g1.next+1)=some [PV.sl g1.next 0 O.length (.known O.length)]:=by rw [zD,if_pos hZ1.symm]
   have q0:(Z.new [PV.sl g1.next 0 O.length (.known O.length)]).rd1 sC 0=some (.sl t 0 (O.length-1-0) capt):=by unfold PHeap.rd1;rw [zD,if_neg (by omega),←hZn,zD,if_neg n2];exact q1
   have hWn:(Z.new [PV.sl g1.next 0 O.length (.known O.length)]).next=g1.next+2:=by show Z.next+1=_;omega
   generalize Z.new [PV.sl g1.next 0 O.length (.known O.length)]=W at *
   have hsW:sC<W.next:=by omega
   refine zB0 (L:=mkM L1 g1.next 1) (k:=6) mW (by omega) (fun m hm=>by omega) (by decide) (by omega) fun L2 gY v2 k2 e2 mY=>?_
   have hn2:=k2.next;have aY:=aW.keepL k2.next (k2.obj _ aW.rlt) (fun t _ ht=>k2.obj t ht) e2
   have q2:gY.rd1 sC 0=some (.sl t 0 (O.length-1-0) capt):=by unfold PHeap.rd1 at q0 ⊢;rw [k2.obj sC hsW];exact q0
   have kY:Keep g1 gY:=(kZ.trans kW).trans k2;have rY':=rW.keep (L':=L2) k2.next (fun t _ ht=>k2.obj t ht) e2
   have oY:gY.obj (g1.next+1)=some [PV.sl g1.next 0 O.length (.known O.length)]:=by rw [k2.obj _ (by omega)];exact oW
   simp only [pwA,seval,-iQ0,TVp_e,TVp_q,zt,zq,aY.r2,aY.r0,q2,hO0',hO0];refine MatN.pushG (σ:=σ') (.inr mY) (by decide) rY' rfl (zBK oY) (kp.trans kY) (by omega) (by omega) (by omega) fun v3 h3 L3 k3 m3 l3 hL3 ho3 hlo3=>?_
   have a3:=aY.keepK (k:=6) (Nat.le_refl _) (by decide) (Nat.le_of_lt l3) hlo3 ho3 hL3
   obtain⟨sC',capC',ds,L4,len',e',b1,b2,l4,w,p4,f7,flen⟩:=a3.pw.putMat hO0 m3;simp only [PV.sl.injEq]at e'
   obtain⟨rfl,-,-,rfl⟩:=e';have a4:=a3.wroteO b1 (by omega) (by rw [f7 _ (by rw [a3.ls];exact Nat.le_refl _)]) p4
   have km3:KM σ s0 (h3.set sC ds):=KM.set ⟨σ',m',k3⟩ (by omega) _
   have so3:So (h3.set sC ds) s0 vS bs:=(so'.keep k3).set (by omega) _
   have r2':=a3.r2;generalize h3.set sC ds=g3 at *
   obtain⟨f1,f2,f3,f4⟩:=finT km3 so3 a4 (by omega) hOb (lenC len' flen)
   simp only [pwA,seval,-iQ0,TVp_e,TVp_q,zt,zq,r2',w,hO0,hO0',m3.cells,f1,f2,f3];exact f4
 have wi:x1=5:=by omega
 subst wi;clear e0 e1 e2 e3 e4;have ores:=a1.res;have oold:=a1.ob;have trivQ:∀{n:Nat} {P':List (List Int)} {C':List (List (List Int))} {O':List Int},n≤7→O'.length=n→(∀a∈O',-1000≤a∧a≤1000)→PQ3 (fun m=>m=n) P' C' n n (fun j=>n-1-j)→SmP O' P' C':=fun {n P' C' O'} hn hl hb q=>
  (PQ3.sm (N:=n) ⟨q.pl,q.cl,fun r hr=>Nat.le_of_eq (q.pq r hr),q.row,fun a ha r hr=>Nat.le_of_eq (q.cq a ha r hr)⟩ (by omega) (by omega) hb (by omega) (by omega) fun i hi=>by omega)
 simp only [pwA,seval,-iQ0];refine qh (s:=g1.next) (O:=[7,7,7,7]) (by rw [zD,if_pos rfl];rfl) (Nat.lt_succ_self _) (by decide) fun L3 h3 wO wP wC k3 p3=>?_
 have hn3:=k3.next;have hn3':g1.next+1≤h3.next:=hn3;have kg:=(zB g1 (pis [7,7,7,7])).trans k3;have o3:h3.obj h.next=some [.sl so_ 0 O.length capO,uP,uC]:=by rw [kg.obj _ hsh1];exact oold
 have w3:h3.wr h.next 0 [wO,wP,wC]=some (h3.set h.next [wO,wP,wC]):=by rw [zX o3,if_pos ⟨by simp,by simp [p3.hO.one,p3.hP.one,p3.hC.one]⟩];rfl
 have p4:=p3.set (s:=h.next) (by show h.next<g1.next+1;omega) [wO,wP,wC]
 have km4:KM σ s0 (h3.set h.next [wO,wP,wC]):=(km2.keep kg).set (by omega) _
 have so4:So (h3.set h.next [wO,wP,wC]) s0 vS bs:=(so2.keep kg).set (by omega) _
 have r4:(h3.set h.next [wO,wP,wC]).obj (σ.next+1)=some [PV.fz true AV.nils 0 [],PV.fz true AV.nils 0 [],PV.fz true AV.nils 0 []]:=by rw [zJ,if_neg (by omega),kg.obj _ (by omega)];exact ores
 have o4:(h3.set h.next [wO,wP,wC]).obj h.next=some [wO,wP,wC]:=by rw [zJ,if_pos rfl]
 have hg4:(h3.set h.next [wO,wP,wC]).next=h3.next:=rfl;simp only [pwA,seval,-iQ0,p3.hO.one,p3.hP.one,p3.hC.one,w3];generalize h3.set h.next [wO,wP,wC]=g4 at *
 refine zl so4 (by decide) fun x2 g5 hx2 m5 so5=>?_
 have p5:PW L3 (g1.new (pis [7,7,7,7])).next g5 (fun m=>m=4) [7,7,7,7] 4 4 (fun j=>4-1-j) wO wP wC:=p4.mv (by show s0<g1.next+1;omega) m5
 have km5:=km4.mv hlt m5;have r5:g5.obj (σ.next+1)=some [PV.fz true AV.nils 0 [],PV.fz true AV.nils 0 [],PV.fz true AV.nils 0 []]:=by rw [m5.obj (Ne.symm hr1)];exact r4
 have o5:g5.obj h.next=some [wO,wP,wC]:=by rw [m5.obj (by omega)];exact o4
 have hg5:g5.next=g4.next:=m5.next
 by_cases e2:x2=0
 rotate_left
 ·obtain⟨f1,f2,f3,f4⟩:=fin (by show σ.next+1<g1.next+1;omega) km5 so5 r5 o5 p5 fun P' C' q=>trivQ (by decide) rfl (by decide) q
  simp only [pwA,seval,-iQ0,e2,f1,f2,f3];exact f4
 subst e2;simp only [pwA,seval,-iQ0];refine qh (s:=g5.next) (O:=[2,2,2,2,2,2,2]) (by rw [zD,if_pos rfl];rfl) (Nat.lt_succ_self _) (by decide) fun L6 h6 yO yP yC k6 p6=>?_
 have hn6':g5.next+1≤h6.next:=k6.next;have kg6:=(zB g5 (pis [2,2,2,2,2,2,2])).trans k6;have o6:h6.obj h.next=some [wO,wP,wC]:=by rw [kg6.obj _ (by omega)];exact o5
 have w6:h6.wr h.next 0 [yO,yP,yC]=some (h6.set h.next [yO,yP,yC]):=by rw [zX o6,if_pos ⟨by simp,by simp [p6.hO.one,p6.hP.one,p6.hC.one]⟩];rfl
 have p7:PW L6 (g5.new (pis [2,2,2,2,2,2,2])).next (h6.set h.next [yO,yP,yC]) (fun m=>m=7) [2,2,2,2,2,2,2] 7 7 (fun j=>7-1-j) yO yP yC:=p6.set (s:=h.next) (by show h.next<g5.next+1;omega) [yO,yP,yC]
 have km7:KM σ s0 (h6.set h.next [yO,yP,yC]):=(km5.keep kg6).set (by omega) _
 have so7:So (h6.set h.next [yO,yP,yC]) s0 vS bs:=(so5.keep kg6).set (by omega) _
 have r7:(h6.set h.next [yO,yP,yC]).obj (σ.next+1)=some [PV.fz true AV.nils 0 [],PV.fz true AV.nils 0 [],PV.fz true AV.nils 0 []]:=by rw [zJ,if_neg (by omega),kg6.obj _ (by omega)];exact r5
 have o7:(h6.set h.next [yO,yP,yC]).obj h.next=some [yO,yP,yC]:=by rw [zJ,if_pos rfl]
 simp only [pwA,seval,-iQ0,p6.hO.one,p6.hP.one,p6.hC.one,w6];generalize h6.set h.next [yO,yP,yC]=g7 at *
 obtain⟨f1,f2,f3,f4⟩:=fin (by show σ.next+1<g5.next+1;omega) km7 so7 r7 o7 p7 fun P' C' q=>trivQ (by decide) rfl (by decide) q
 simp only [pwA,seval,-iQ0,f1,f2,f3];exact f4
end Go.Proofs
namespace Go.Grp
end Go.Grp
namespace Go.Proofs
open Go.Ab Go.Lie Go.Grp
variable {σ σ0 h h':PHeap} {K:PV→PHeap→Prop} {b s t k nP nC r s0 i j:Nat} {L L':Nat→Nat} {Q Q':Nat→Prop} {len:Nat→Nat} {v vO vP vC c vX vS vL:PV} {x O xs bs:List Int} {P M:List (List Int)} {C:List (List (List Int))} {cs:List PV}
theorem QH {n:Int} (hn:1≤n∧n≤1000) (hk:∀v xs t,FI v xs→xs.length≤9→(∀x∈xs,isP x)→K (.tup [v,.bool t]) σ):zA Tryz.prog 236 [.int .i64 n] σ K:=by
 refine zA.gh ?_;refine zC mix Tryz.func236 ?_
 conv=>arg 2;cbv
 refine zF rfl ?_;simp only [pwA,seval,-iQ0];refine zG (fun m vs h=>∃(d n':Int) (v:PV) (xs:List Int),2≤d∧d≤8∧m=(8-d).toNat∧vs=[.int .i64 n',v,.int .i64 d]∧1≤n'∧2 ^ xs.length*n'≤1000∧(∀x∈xs,isP x)∧Keep σ h∧PSl σ.next 1 h v xs.length (pis xs)) 6 ?_ ?_
 ·exact⟨2,n,.sl σ.next 0 0 (.known 0),[],by decide,by decide,rfl,rfl,hn.1,by simpa using hn.2,fun x hx=>(by cases hx),zB _ _,σ.next,.known 0,rfl,.inr rfl,by rw [zD,if_pos rfl];rfl,rfl,Nat.le_refl _,Nat.lt_succ_self _⟩
 rintro m vs h ⟨d,n',v,xs,hd,hd8,rfl,rfl,hn1,hpow,hxs,kk,pa⟩
 have hlen:∀{xs:List Int} {n':Int},1≤n'→(2:Int) ^ xs.length*n'≤1000→xs.length≤9:=fun {xs n'} h1 h2=>by
  rcases Nat.lt_or_ge xs.length 10 with q|q
  ·omega
  ·exfalso
   have e:(2:Int) ^ xs.length ≥ 1024:=by
    obtain⟨r,hr⟩:∃r,xs.length=10+r:=⟨xs.length-10,by omega⟩
    rw [hr,Int.pow_add];have h2:(1:Int)≤2 ^ r:=Int.pow_pos (by decide)
    have:(2:Int) ^ 10=1024:=by decide
    rw [this];omega
   have:(1024:Int)*1≤2 ^ xs.length*n':=Int.mul_le_mul e h1 (by decide) (by omega)
   omega
 simp only [pwA,seval,-iQ0];refine iteI (fun h7=>?_) fun h8=>?_
 rotate_left
 ·have hl:=hlen hn1 hpow
  obtain⟨s,cap,rfl,q1,q2,q3,q4,q5⟩:=pa;have e:(TR.tup [TR.row s cap xs,.leaf (.bool (decide (n'=1)))]).pv=.tup [.sl s 0 xs.length cap,.bool (decide (n'=1))]:=by simp only [TR.pv,TR.pvs,TR.row_pv]
  rw [←e];refine Gh.treeF kk (q9 ⟨TR.row_ok q1 q2 q4 q5,trivial,trivial⟩) fun a=>?_
  have:=hk ((TR.row s cap xs).fz a) xs (decide (n'=1)) TR.row_FI hl hxs
  simpa only [TR.fz,TR.fzs]using this
 refine zG (fun m vs h=>∃(n':Int) (v:PV) (xs:List Int),m=n'.toNat∧vs=[.int .i64 n',v,.int .i64 d]∧1≤n'∧2 ^ xs.length*n'≤1000∧(∀x∈xs,isP x)∧Keep σ h∧PSl σ.next 1 h v xs.length (pis xs)) n'.toNat ?_ ?_
 ·exact⟨n',v,xs,rfl,rfl,hn1,hpow,hxs,kk,pa⟩
 clear hn1 hpow hxs kk pa
 rintro m vs h ⟨n',v,xs,rfl,rfl,hn1,hpow,hxs,kk,pa⟩
 have hl:=hlen hn1 hpow;have hd0:¬d=0:=by omega
 have out:∃n'',n''<(8-d).toNat∧∃(d' n₁:Int) (v₁:PV) (xs₁:List Int),2≤d'∧d'≤8∧n''=(8-d').toNat∧[PV.int .i64 n',v,PV.int .i64 (IntKind.i64.wrap (d+1))]=[PV.int .i64 n₁,v₁,PV.int .i64 d']∧1≤n₁∧2 ^ xs₁.length*n₁≤1000∧(∀x∈xs₁,isP x)∧Keep σ h∧PSl σ.next 1 h v₁ xs₁.length (pis xs₁):=
  ⟨_,by rw [show(8-d).toNat=(8-(d+1)).toNat+1 by omega];exact Nat.lt_succ_self _,d+1,n',v,xs,by omega,by omega,rfl,by rw [wrap64 (by omega) (by omega)],hn1,hpow,hxs,kk,pa⟩
 simp only [pwA,seval,-iQ0];refine zAq ?_
 by_cases hp:isP d
 rotate_left
 ·simp only [pwA,seval,-iQ0,hp,decide_false]
  exact out
 by_cases hm:n'.tmod d=0
 rotate_left
 ·simp only [pwA,seval,-iQ0,hp,decide_true,hd0,hm,decide_false]
  exact out
 simp only [pwA,seval,-iQ0,hp,decide_true,hd0,hm];refine PSl.push (σb:=σ) (bytes:=8) kk pa (by omega) (by omega) fun v2 h2 k2 a2=>?_
 have hdiv:n'=d*(n'.tdiv d):=by
  have:=Int.tmod_add_mul_tdiv n' d
  omega
 have hq0:1≤n'.tdiv d:=by
  rcases Int.lt_or_le (n'.tdiv d) 1 with q|q
  ·exfalso
   have:d*(n'.tdiv d)≤0:=Int.mul_nonpos_of_nonneg_of_nonpos (by omega) (by omega)
   omega
  ·exact q
 have hlt:n'.tdiv d<n':=by
  have:2*(n'.tdiv d)≤d*(n'.tdiv d):=Int.mul_le_mul_of_nonneg_right hd (by omega)
  omega
 have hb:n'≤1000:=by
  have h1:(1:Int)≤2 ^ xs.length:=Int.pow_pos (by decide)
  have:=Int.mul_le_mul_of_nonneg_right h1 (show(0:Int)≤n' by omega)
  omega
 have wi:IntKind.i64.wrap (n'.tdiv d)=n'.tdiv d:=wrap64 (by omega) (by omega)
 simp only [pwA,seval,-iQ0,hd0,wi];refine⟨_,by show(n'.tdiv d).toNat<n'.toNat;omega,n'.tdiv d,v2,xs++[d],rfl,rfl,hq0,?_,fun x hx=>?_,k2,?_⟩
 ·rw [List.length_append,List.length_singleton,Int.pow_succ,Int.mul_assoc]
  have h1:(0:Int)≤2 ^ xs.length:=Int.le_of_lt (Int.pow_pos (by decide))
  have h2:2*(n'.tdiv d)≤n':=by
   have:2*(n'.tdiv d)≤d*(n'.tdiv d):=Int.mul_le_mul_of_nonneg_right hd (by omega)
   omega
  exact Int.le_trans (Int.mul_le_mul_of_nonneg_left h2 h1) hpow
 ·rcases List.mem_append.1 hx with hx | hx
  ·exact hxs x hx
  ·rw [List.mem_singleton.1 hx];exact hp
 ·rw [List.length_append,List.length_singleton]
  have e:pis (xs++[d])=pis xs++[.int .i64 d]:=by simp [pis]
  rw [e];exact a2
theorem zFj {x:Int} {n:Nat} {cap:Cap} {from':Nat} (ho:σ.obj s=some (pis O)) (hs:s<σ.next) (hO:O.length=n) (hn:n≤1000) (hpos:∀a∈O,1≤a∧a≤1000) (hx:0≤x∧x≤1000000)
  (hk:∀ys cap,ys.length=n→full 1 cap n→K (.sl σ.next 0 n cap) (σ.new (pis ys))):zA Tryz.prog 237 [.sl s 0 n cap,.int .i64 from',.int .i64 x] σ K:=by
 refine zA.gh ?_;refine zC mix Tryz.func237 ?_
 conv=>arg 2;cbv
 refine zF rfl ?_;simp only [pwA,seval,-iQ0,zi,mk8 (n:=n) (by omega),Go.Ab.mkL (n:=n) (by omega)]
 refine zG (fun m vs h=>∃(i:Nat) (x:Int) (ys:List Int),m=n-i∧vs=[.sl s 0 n cap,.int .i64 x,.sl σ.next 0 n (.known n),.int .i64 i]∧0≤x∧x≤1000000∧ys.length=n∧h=σ.new (pis ys)) (n-from') ?_ ?_
 ·exact⟨from',x,List.replicate n 0,rfl,rfl,hx.1,hx.2,by simp,rfl⟩
 rintro m vs h ⟨i,x,ys,rfl,rfl,hx0,hx1,hys,rfl⟩
 simp only [pwA,seval,-iQ0];refine iteI (fun hlt=>?_) fun hge=>?_
 rotate_left
 ·exact Gh.finS (s:=σ.next) (zB σ _) (by rw [zD,if_pos rfl]) (Nat.le_refl _) (zO _ _) (hk ys _ hys (.inr rfl))
 have hlt':(i:Int)<(n:Int):=by omega
 have hi:i<O.length:=by omega
 have ob:=hpos _ (List.getElem_mem hi);have rd:(σ.new (pis ys)).rd1 s i=some (.int .i64 O[i]):=by
  unfold PHeap.rd1;rw [zD,if_neg (by omega),ho];simp only [Option.bind_some];rw [zM,gi hi];rfl
 have h0:¬O[i]=0:=by omega
 have w:(σ.new (pis ys)).wr σ.next i [.int .i64 (x.tmod O[i])]=some ((σ.new (pis ys)).set σ.next (pis (ys.set i (x.tmod O[i])))):=zDD (by rw [zD,if_pos rfl]) (by omega)
 have e2:(σ.new (pis ys)).set σ.next (pis (ys.set i (x.tmod O[i])))=σ.new (pis (ys.set i (x.tmod O[i]))):=by
  unfold PHeap.set PHeap.new
  congr 1
  funext q
  by_cases e:q=σ.next<;>simp [e]
 have rd2:(σ.new (pis (ys.set i (x.tmod O[i])))).rd1 s i=some (.int .i64 O[i]):=by
  unfold PHeap.rd1;rw [zD,if_neg (by omega),ho];simp only [Option.bind_some];rw [zM,gi hi];rfl
 have hq0:0≤x.tdiv O[i]:=Int.tdiv_nonneg hx0 (by omega)
 have hq1:x.tdiv O[i]≤x:=Int.tdiv_le_self _ hx0;have wi:IntKind.i64.wrap (x.tdiv O[i])=x.tdiv O[i]:=wrap64 (by omega) (by omega)
 rw [e2]at w
 generalize hg:σ.new (pis (ys.set i (x.tmod O[i])))=g at *
 simp only [pwA,seval,-iQ0,hlt,hlt',rd,h0,w,rd2,wi,wrapS hlt (by omega:n≤4611686018427387904)]
 exact⟨_,by omega,i+1,_,ys.set i (x.tmod O[i]),rfl,rfl,hq0,by omega,by rw [List.length_set];exact hys,hg.symm⟩
theorem zIC {base e m:Int} (hb:0≤base∧base≤1000) (he:0≤e∧e≤1000) (hm:1≤m∧m≤1000) (hk:∀y,0≤y∧y≤1000→K (.int .i64 y) σ):zA Tryz.prog 238 [.int .i64 base,.int .i64 e,.int .i64 m] σ K:=by
 have hm0:¬m=0:=by omega
 have rb:∀z:Int,0≤z→0≤z.tmod m∧z.tmod m≤1000:=fun z hz=>by
  have h1:=Int.tmod_nonneg m hz;have h2:=Int.tmod_lt_of_pos z (show 0<m by omega)
  omega
 refine zC mix Tryz.func238 ?_
 conv=>arg 2;cbv
 refine zF rfl ?_;simp only [pwA,seval,-iQ0,hm0];refine zG (fun k vs h=>∃(b e y:Int),k=e.toNat∧vs=[.int .i64 b,.int .i64 e,.int .i64 m,.int .i64 y]∧0≤b∧b≤1000∧0≤e∧e≤1000∧0≤y∧y≤1000∧σ=h) e.toNat ?_ ?_
 ·have:=rb 1 (by decide)
  exact⟨base,e,_,rfl,rfl,hb.1,hb.2,he.1,he.2,this.1,this.2,rfl⟩
 rintro k vs h ⟨b,e,y,rfl,rfl,b0,b1,e0,e1,y0,y1,rfl⟩
 simp only [pwA,seval,-iQ0];refine iteI (fun hpos=>?_) fun hz=>?_
 rotate_left
 ·exact hk y ⟨y0,y1⟩
 have hyb:y*b≤1000000∧0≤y*b:=⟨by have:=Int.mul_le_mul y1 b1 b0 (by decide:(0:Int)≤1000);omega,Int.mul_nonneg y0 b0⟩
 have hbb:b*b≤1000000∧0≤b*b:=⟨by have:=Int.mul_le_mul b1 b1 b0 (by decide:(0:Int)≤1000);omega,Int.mul_nonneg b0 b0⟩
 have w1:IntKind.i64.wrap (y*b)=y*b:=wrap64 (by omega) (by omega)
 have w2:IntKind.i64.wrap (b*b)=b*b:=wrap64 (by omega) (by omega)
 have hq0:0≤e.tdiv 2:=Int.tdiv_nonneg e0 (by decide)
 have hq1:e.tdiv 2<e:=by rw [Int.tdiv_eq_ediv_of_nonneg e0];omega
 have w3:IntKind.i64.wrap (e.tdiv 2)=e.tdiv 2:=wrap64 (by omega) (by omega)
 have r1:=rb _ hyb.2;have r2:=rb _ hbb.2;simp only [pwA,seval,-iQ0];refine iteI (fun h1=>?_) fun h1=>?_
 ·simp only [pwA,seval,-iQ0,w1,w2,w3,hm0]
  exact⟨_,by show(e.tdiv 2).toNat<e.toNat;omega,_,e.tdiv 2,_,rfl,rfl,r2.1,r2.2,hq0,by omega,r1.1,r1.2⟩
 ·simp only [pwA,seval,-iQ0,w1,w2,w3,hm0]
  exact⟨_,by show(e.tdiv 2).toNat<e.toNat;omega,_,e.tdiv 2,_,rfl,rfl,r2.1,r2.2,hq0,by omega,y0,y1⟩
def MatX (h:PHeap) (v:PV) (M:List (List Int)):Prop:=∃s cap cs,v=.sl s 0 M.length cap∧h.obj s=some cs∧s<h.next∧All2 (fun c x=>∃t cap,c=PV.sl t 0 x.length cap∧h.obj t=some (pis x)∧t<h.next) cs M
theorem MatX.keep (a:MatX h v M) (k:Keep h h'):MatX h' v M:=by
 obtain⟨s,cap,cs,e,h1,h2,h3⟩:=a;have hn:=k.next;exact⟨s,cap,cs,e,by rw [k.obj s h2];exact h1,by omega,h3.imp fun c x ⟨t,cap,e,g1,g2⟩=>⟨t,cap,e,by rw [k.obj t g2];exact g1,by omega⟩⟩
theorem MatX.pLen (a:MatX h v M):pLen v=some (.int .i64 M.length):=by obtain⟨s,cap,cs,rfl,_⟩:=a;rfl
theorem MatX.one (a:MatX h v M):v.one=true:=by obtain⟨s,cap,cs,rfl,_⟩:=a;rfl
theorem zJa (hM:MatX σ v M) (hm:M.length≤1000) (hr:∀r∈M,r.length≤1000) (hk:∀w,FII w M→K w σ):zA Tryz.prog 64 [v] σ K:=by
 obtain⟨s,cap,cs,rfl,h1,h2,h3⟩:=hM;refine zA.gh ?_;refine zC mix Tryz.func64 ?_
 conv=>arg 2;cbv
 refine zF rfl ?_;simp only [pwA,seval,-iQ0];refine zG (fun m vs h=>∃(i:Nat) (v:PV) (rows:List SR),i≤M.length∧m=M.length-i∧vs=[.sl s 0 M.length cap,v,.int .i64 i]∧Keep σ h∧PSl σ.next 1 h v i (rows.map SR.pv)∧(∀q∈rows,q.ok h σ.next)∧rows.map SR.x=M.take i∧∀q∈rows,∀off l c,v≠.sl q.s off l c) M.length ?_ ?_
 ·exact⟨0,.sl σ.next 0 0 (.known 0),[],Nat.zero_le _,rfl,rfl,zB _ _,⟨σ.next,.known 0,rfl,.inr rfl,by rw [zD,if_pos rfl];rfl,rfl,Nat.le_refl _,Nat.lt_succ_self _⟩,fun q hq=>(by cases hq),by simp,fun q hq=>by cases hq⟩
 rintro m vs h ⟨i,v,rows,hi,rfl,rfl,kk,pa,hq,hx,hne⟩
 have hnx:=kk.next;simp only [pwA,seval,-iQ0];refine iteI (fun hlt=>?_) fun hge=>?_
 rotate_left
 ·have e:i=M.length:=by omega
  subst e;obtain⟨s',cap',rfl,q1,q2,q3,q4,q5⟩:=pa;rw [List.take_length]at hx
  have hl:rows.length=M.length:=by rw [←List.length_map (f:=SR.x),hx]
  have e:(TR.rows s' cap' rows).pv=.sl s' 0 M.length cap':=by simp only [TR.rows,TR.pv,List.length_map,hl]
  rw [←e];refine Gh.treeF kk (q9 (TR.rows_ok (by rw [hl];exact q1) q2 q4 q5 hq)) fun a=>?_
  have e2:FII ((TR.rows s' cap' rows).fz a) M:=by rw [←hx];exact TR.rows_FII
  exact hk _ e2
 have hcl:cs.length=M.length:=h3.1;obtain⟨t,capt,e,g1,g2⟩:=h3.2 i _ _ (List.getElem?_eq_getElem (by omega)) (List.getElem?_eq_getElem hlt)
 have hlt':(i:Int)<(M.length:Int):=by omega
 have rd:h.rd1 s i=some (.sl t 0 M[i].length capt):=by unfold PHeap.rd1;rw [kk.obj s h2,h1,←e];exact List.getElem?_eq_getElem (by omega)
 simp only [pwA,seval,-iQ0,hlt,hlt',rd];refine zA6 (by rw [kk.obj t g2];exact g1) (by omega) (by have:=hr _ (List.getElem_mem hlt);omega) fun cap2 hc=>?_
 simp only [pwA,seval,-iQ0];refine PAcc.pushS (σb:=σ) (h:=h.new (pis M[i])) (e:=1) (kk.new _) (PSl.acc (pa.keep (zB _ _))) rfl (by omega) (by omega) fun v2 h2' k2 a2 o2 n2 l2=>?_
 have l2':h.next+1<h2'.next:=l2;have keepO:∀t,t<h.next+1→(∀off l c,v≠.sl t off l c)→h2'.obj t=(h.new (pis M[i])).obj t:=fun t ht hv=>o2 t ht hv
 obtain⟨sv,capv,ev,_,_,_,_,sv5⟩:=pa;simp only [pwA,seval,-iQ0,wrapS hlt (by omega:M.length≤4611686018427387904)]
 refine⟨_,by omega,i+1,v2,rows++[⟨h.next,cap2,M[i]⟩],by omega,rfl,rfl,k2,by simpa [SR.pv]using a2,fun q hq'=>?_,by rw [List.map_append,hx,List.take_succ_eq_append_getElem hlt];rfl,fun q hq' off l c e'=>?_⟩
 ·rcases List.mem_append.1 hq' with hq' | hq'
  ·obtain⟨y1,y2,y3,y4⟩:=hq q hq'
   exact⟨y1,by rw [keepO q.s (by omega) (hne q hq'),zD,if_neg (by omega)];exact y2,y3,by omega⟩
  ·rw [List.mem_singleton.1 hq']
   exact⟨hc,by rw [keepO h.next (by omega) (fun off l c e'=>by rw [ev]at e';simp only [PV.sl.injEq]at e';omega),zD,if_pos rfl],hnx,by show h.next<h2'.next;omega⟩
 ·rcases List.mem_append.1 hq' with hq' | hq'
  ·exact n2 q.s (by have:=(hq q hq').2.2.2;show q.s<h.next+1;omega) off l c e'
  ·rw [List.mem_singleton.1 hq']at e'
   exact n2 h.next (Nat.lt_succ_self _) off l c e'
theorem PSl.catO {σb h:PHeap} {n m:Nat} {v:PV} {xs:List Int} {k:IntKind} {K:PV→PHeap→Prop} (hk:Keep σb h) (a:PSl σb.next 1 h v n (pis xs)) (hb:n+m≤1000) (kk:∀v' h',Keep σb h'→PSl σb.next 1 h' v' (n+m) (pis (xs++List.replicate m 0))→K v' h'):zA3 1 8 [.int .i64 0] v (.int k m) h K:=by
 have A:=PSl.cat (bytes:=8) (w:=true) (av:=.nils) (m:=m) (news:=pis (List.replicate m 0)) (K:=fun q=>K q.1 q.2) hk a (by rw [zI,List.length_replicate]) (by omega) (by omega) fun v' h' k' a'=>kk v' h' k' (by rw [qP]at a';exact a')
 obtain⟨s,cap,rfl,_⟩:=a;rw [zJN];refine⟨⟨by omega,by omega,by omega⟩,?_⟩
 rw [qL]at A
 rw [Int.toNat_natCast]
 by_cases h0:m=0
 ·subst h0
  simp only [QY,Option.bind_some,if_true]at A
  rw [if_neg (by omega)]
  exact A
 ·simp only [QY,Option.bind_some,if_neg h0,Zi,Nat.mul_one]at A
  rw [if_pos ⟨Nat.le_refl _,by rw [zI,List.length_replicate];exact Nat.le_refl _,by omega⟩]at A
  rw [if_pos (by omega)]
  have e:ofAVs (zeros [.int .i64 0] m)=pis (List.replicate m 0):=by
   rw [zBh];rw [zG9];exact zi m 0
  rw [e];simp only [Option.bind_some]at A
  rw [List.take_of_length_le (by rw [zI,List.length_replicate];exact Nat.le_refl _)]at A
  exact A
theorem Zz {before behind:Nat} {v:PV} (hv:FI v x) (hb1:before≤300) (hb2:behind≤300) (hx:x.length≤300) (hk:∀cap ys,ys.length=before+x.length+behind→full 1 cap ys.length→K (.sl σ.next 0 ys.length cap) (σ.new (pis ys))):zA Tryz.prog 229 [.int .i64 before,v,.int .i64 behind] σ K:=by
 obtain⟨w,a,rfl⟩:=hv;refine zA.gh ?_;refine zC mix Tryz.func229 ?_
 conv=>arg 2;cbv
 refine zF rfl ?_;simp only [pwA,seval,-iQ0,zi,mk8 (n:=before) (by omega),Go.Ab.mkL (n:=before) (by omega)]
 refine PSl.cat (σb:=σ) (bytes:=8) (m:=x.length) (news:=pis x) (zB σ _) (PSl.own (n:=before) (.inr rfl) (by rw [zD,if_pos rfl]) (by rw [zI,List.length_replicate,Nat.mul_one]) (Nat.le_refl _) (Nat.lt_succ_self _)) (by rw [zI]) (by omega) (by omega) fun v1 h1 k1 a1=>?_
 rw [qP]at a1
 simp only [pwA,seval,-iQ0];refine PSl.catO (σb:=σ) (m:=behind) k1 a1 (by omega) fun v2 h2 k2 a2=>?_
 simp only [pwA,seval,-iQ0];have hl:(List.replicate before (0:Int)++x++List.replicate behind 0).length=before+x.length+behind:=by simp [Nat.add_assoc]
 refine a2.out k2 (zO _ _) fun cap hc=>?_
 have:=hk cap _ hl (by rw [hl];exact hc)
 rw [hl]at this
 exact this
end Go.Proofs
namespace Go.Grp
end Go.Grp
namespace Go.Proofs
open Go.Ab Go.Lie Go.Grp
variable {σ σ0 h h':PHeap} {K:PV→PHeap→Prop} {b s t k nP nC r s0 i j:Nat} {L L':Nat→Nat} {Q Q':Nat→Prop} {len:Nat→Nat} {v vO vP vC c vX vS vL:PV} {x O xs bs:List Int} {P M:List (List Int)} {C:List (List (List Int))} {cs:List PV}
structure Fm (N:Nat) (O:List Int) (P:List (List Int)) (C:List (List (List Int))):Prop where
 n:O.length≤N
 ob:∀a∈O,1≤a∧a≤1000
 q:PQ3 (fun m=>m=O.length) P C O.length O.length (fun i=>O.length-1-i)
theorem Fm.mono {N N':Nat} (a:Fm N O P C) (h:N≤N'):Fm N' O P C:=⟨Nat.le_trans a.n h,a.ob,a.q⟩
theorem Fm.nil (N:Nat):Fm N [] [] []:=⟨Nat.zero_le _,fun a h=>(by cases h),rfl,rfl,fun r h=>(by cases h),fun i h=>absurd h (Nat.not_lt_zero _),fun q h=>by cases h⟩
theorem isP.b1 {p:Int} (h:isP p):1≤p∧p≤1000:=by have:=h.bd;omega
theorem PW.fin2 {e:Int} (a:PW L b h Q O nP nC len vO vP vC) (hk:Keep σ h) (hb:σ.next≤b) (k:∀wO wP wC P C,IsPr wO wP wC O P C→PQ3 Q P C nP nC len→K (.tup [.agg [wO,wP,wC],.int .i64 e]) σ):Gh σ K (.tup [.agg [vO,vP,vC],.int .i64 e]) h:=by
 obtain⟨t1,a1,rfl,a3⟩:=a.hO.tree;obtain⟨t2,P,⟨b1,rfl,b3⟩,b4⟩:=a.hP.tree;obtain⟨t3,C,⟨c1,rfl,c3⟩,c4,c5,c6⟩:=a.hC.tree;have et:(TR.tup [TR.agg [t1,t2,t3],.leaf (.int .i64 e)]).pv=.tup [.agg [t1.pv,t2.pv,t3.pv],.int .i64 e]:=by simp only [TR.pv,TR.pvs]
 rw [←et];refine Gh.treeF hk (zAy (b:=b) hb ⟨⟨q9 a1,q9 b1,q9 c1,trivial⟩,trivial,trivial⟩) fun aa=>?_
 have:=k (t1.fz aa) (t2.fz aa) (t3.fz aa) P C ⟨a3 aa,(b3 aa).1,c3 aa⟩ ⟨b4,c4,(b3 aa).2,c5,c6⟩
 simpa only [TR.fz,TR.fzs]using this
theorem ZB {n m a c:Int} (hn:1≤n∧n≤1000) (hm:1≤m∧m≤1000) (ha:0≤a∧a≤1000) (hc:0≤c∧c≤1000)
  (hk:∀wO wP wC O P C,IsPr wO wP wC O P C→Fm 18 O P C→K (.agg [wO,wP,wC]) σ):zA Tryz.prog 225 [.int .i64 n,.int .i64 m,.int .i64 a,.int .i64 c] σ K:=by
 refine zA.gh ?_;refine zR mix Tryz.func225 cf225 rfl ?_;dsimp only [if225,eI,qD,eD,mI0,kI0,lI0,LI0,xI0,bI0,cI0,sI0,eI0,C1,C3,mD0,lD0,fD0,xD0,I0,vI0,wD0,R0,S0];simp only [pwA,seval,-iQ0];refine QH hn fun v1 x1 t1 hv1 hl1 hp1=>?_
 have h11:=hv1.one;simp only [pwA,seval,-iQ0];refine QH hm fun v2 x2 t2 hv2 hl2 hp2=>?_
 simp only [pwA,seval,-iQ0];obtain⟨w1,a1,rfl⟩:=hv1;refine qw rfl (by omega) fun cap1 hc1=>?_
 obtain⟨w2,a2,rfl⟩:=hv2;simp only [pwA,seval,-iQ0];generalize hH:σ.new [PV.fz true AV.nils 0 [],PV.fz true AV.nils 0 [],PV.fz true AV.nils 0 []]=H;have hHn:H.next=σ.next+1:=by rw [←hH];rfl
 have kH:Keep σ H:=by rw [←hH];exact zB _ _
 have ob1:H.obj σ.next=some [PV.fz true AV.nils 0 [],PV.fz true AV.nils 0 [],PV.fz true AV.nils 0 []]:=by rw [←hH];simp only [pwA,seval,-iQ0]
 clear hH;rw [←hHn];refine PSl.cat (σb:=H) (bytes:=8) (m:=x2.length) (news:=pis x2) (zB H _) (PSl.own (n:=x1.length) hc1 (by rw [zD,if_pos rfl]) (by rw [zI,Nat.mul_one]) (Nat.le_refl _) (Nat.lt_succ_self _)) (by rw [zI]) (by omega) (by omega) fun v3 h3 k3 a3=>?_
 rw [qP,←List.length_append]at a3
 obtain⟨O,hO⟩:∃O,O=x1++x2:=⟨_,rfl⟩
 rw [←hO]at a3
 have hOl:O.length=x1.length+x2.length:=by rw [hO,List.length_append]
 have hOb:∀a∈O,1≤a∧a≤1000:=fun a h=>by
  rw [hO]at h
  rcases List.mem_append.1 h with h|h
  ·exact(hp1 a h).b1
  ·exact(hp2 a h).b1
 clear hO;obtain⟨so,capO,rfl,q1,q2,q3,q4,q5⟩:=a3;have hn3:=k3.next;simp only [pwA,seval,-iQ0];refine qh q2 q5 (by omega) fun L h vO vP vC k4 p4=>?_
 have hn4:=k4.next;have a5:=TB.start (r:=σ.next) p4 (by omega) (by rw [k4.obj _ (by omega),k3.obj _ (by omega)];exact ob1) hn4
 have k5:=k4.new [vO,vP,vC];simp only [pwA,seval,-iQ0,p4.hO.one,p4.hP.one,p4.hC.one];generalize h.next=s at *
 clear p4 k4;generalize hN:O.length=N at *
 refine zG (fun m' vs h=>∃(i:Nat) (L:Nat→Nat),i≤N∧m'=N-i∧vs=[.int .i64 m,.int .i64 a,.int .i64 c,.ptr σ.next 0,.fz w1 a1 x1.length (pis x1),.sl so 0 N capO,.ptr s 0,.int .i64 x1.length,.int .i64 i]∧Keep h3 h∧TB h3.next h (fun m=>m=N) O L N N (fun j=>N-1-j) σ.next s vO vP vC) N ?_ ?_
 ·exact⟨0,_,Nat.zero_le _,rfl,rfl,k5,a5⟩
 clear a5 k5
 rintro m' vs h ⟨i,L,hi,rfl,rfl,k5,a5⟩
 have hn5:=k5.next;have wi:IntKind.i64.wrap ((i:Int)+1)=((i+1:Nat):Int):=by rw [wrap64 (by omega) (by omega)];omega
 simp only [pwA,seval,-iQ0,wi];refine iteI (fun hlt=>?_) fun hge=>?_
 ·have hlt':((i+1:Nat):Int)<(N:Int):=by omega
  refine iteI (fun he=>?_) fun he=>?_
  ·exact⟨_,by omega,i+1,L,by omega,rfl,rfl,k5,a5⟩
  have hiN:i<N:=by omega
  have hiN':(i:Int)<(N:Int):=by omega
  obtain⟨sP,capP,rfl,hbP,hlP,put⟩:=a5.putPx hiN;have nP1:¬sP=h.next:=by omega
  simp only [pwA,seval,-iQ0,a5.r1,wi];refine Qy (by omega) hlt fun cap2 hc2=>?_
  obtain⟨ds,L',w,a6⟩:=put (xs:=unitL N (i+1)) (cp:=cap2) (zh ..) (by rw [zh];exact hc2)
  rw [zh]at w
  have k6:Keep h3 ((h.new (pis (unitL N (i+1)))).set sP ds):=(k5.new _).set (by omega) _
  have r1:(h.new (pis (unitL N (i+1)))).rd1 s 1=some (.sl sP 0 N capP):=(a5.new _).r1;generalize h.new (pis (unitL N (i+1)))=g at *
  simp only [pwA,seval,-iQ0,r1,hiN,hiN',w,wi];refine⟨_,by omega,i+1,L',by omega,rfl,rfl,k6,a6⟩
 clear wi hge hi;have dig:∀{g:PHeap} {K':PV→PHeap→Prop} {f:Nat} {y:Int},Keep h3 g→0≤y∧y≤1000000→(∀ys cap,ys.length=N→full 1 cap N→K' (.sl g.next 0 N cap) (g.new (pis ys)))→zA Tryz.prog 237 [.sl so 0 N capO,.int .i64 f,.int .i64 y] g K':=fun {g K' f y} kg hy hk'=>
  zFj (O:=O) (n:=N) (by rw [kg.obj so q5];exact q2) (by have:=kg.next;omega) hN (by omega) hOb hy hk'
 have fin:∀{g:PHeap} {L:Nat→Nat},Keep h3 g→TB h3.next g (fun m=>m=N) O L N N (fun j=>N-1-j) σ.next s vO vP vC→
   g.wr σ.next 0 [vO,vP,vC]=some (g.set σ.next [vO,vP,vC])∧(g.set σ.next [vO,vP,vC]).rd σ.next 0 3=some [vO,vP,vC]∧Gh σ K (.agg [vO,vP,vC]) (g.set σ.next [vO,vP,vC]):=fun {g L} kg a=>by
  obtain⟨e1,e2,e3⟩:=a.fin;refine⟨e1,e2,e3.fin (((kH.trans k3).trans kg).set (Nat.le_refl _) _) (by omega) fun wO wP wC P C r1 r2=>hk wO wP wC O P C r1 ⟨by omega,hOb,?_⟩⟩
  rw [hN];exact r2
 have hm0:¬m=0:=by omega
 have hx0:0≤a.tmod m:=Int.tmod_nonneg m ha.1;have hx1:a.tmod m≤1000:=by have:=Int.tmod_lt_of_pos a (show 0<m by omega);omega
 simp only [pwA,seval,-iQ0];refine iteI (fun hpos=>?_) fun hz=>?_
 rotate_left
 ·have hz0:x1.length=0:=by omega
  simp only [pwA,seval,-iQ0,hm0];refine zG (fun m' vs h'=>∃(x:Int),m'=0∧vs=[.int .i64 m,.ptr σ.next 0,.fz w1 a1 x1.length (pis x1),.sl so 0 N capO,.ptr s 0,.int .i64 x1.length,.int .i64 x,.int .i64 (0:Nat)]∧h'=h) 0 ?_ ?_
  ·exact⟨_,rfl,rfl,rfl⟩
  rintro m' vs h ⟨x,rfl,rfl,rfl⟩
  obtain⟨e1,e2,e3⟩:=fin k5 a5;simp only [pwA,seval,-iQ0,hz0,a5.r3,e1,e2];exact e3
 have hl0:x1.length-1<N:=by omega
 have hl0':((x1.length-1:Nat):Int)<(N:Int):=by omega
 have wl:IntKind.i64.wrap ((x1.length:Int)-1)=((x1.length-1:Nat):Int):=by rw [wrap64 (by omega) (by omega)];omega
 obtain⟨sP,capP,rfl,hbP,hlP,put⟩:=a5.putPx hl0;have nP1:¬sP=h.next:=by omega
 simp only [pwA,seval,-iQ0,a5.r1,wl,hl0,hl0'];refine dig (f:=x1.length) k5 (by omega) fun ys cap2 hys hc2=>?_
 obtain⟨ds,L',w,a6⟩:=put (xs:=ys) (cp:=cap2) hys (by rw [hys];exact hc2)
 rw [hys]at w
 have k6:Keep h3 ((h.new (pis ys)).set sP ds):=(k5.new _).set (by omega) _
 have r1:(h.new (pis ys)).rd1 s 1=some (.sl sP 0 N capP):=(a5.new _).r1;generalize h.new (pis ys)=g at *
 simp only [pwA,seval,-iQ0,r1,hl0,hl0',w,wl,hm0];generalize g.set sP ds=g2 at *
 refine zG (fun m' vs h=>∃(i:Nat) (x:Int) (L:Nat→Nat),i≤x1.length∧m'=x1.length-i∧vs=[.int .i64 m,.ptr σ.next 0,.fz w1 a1 x1.length (pis x1),.sl so 0 N capO,.ptr s 0,.int .i64 x1.length,.int .i64 x,.int .i64 i]∧0≤x∧x≤1000∧Keep h3 h∧TB h3.next h (fun m=>m=N) O L N N (fun j=>N-1-j) σ.next s vO (.sl sP 0 N capP) vC) x1.length ?_ ?_
 ·exact⟨0,_,L',Nat.zero_le _,rfl,rfl,hx0,hx1,k6,a6⟩
 clear k6 a6 w put nP1 hlP k5 a5 hn5
 rintro m' vs h ⟨i,x,L,hi,rfl,rfl,x0,x1k,k5,a5⟩
 have hn5:=k5.next;simp only [pwA,seval,-iQ0];refine iteI (fun hlt=>?_) fun hge=>?_
 rotate_left
 ·obtain⟨e1,e2,e3⟩:=fin k5 a5
  simp only [pwA,seval,-iQ0,a5.r3,e1,e2];exact e3
 refine zG (fun m' vs h=>∃(j:Nat) (L:Nat→Nat),x1.length≤j∧j≤N∧m'=N-j∧vs=[.int .i64 m,.ptr σ.next 0,.fz w1 a1 x1.length (pis x1),.sl so 0 N capO,.ptr s 0,.int .i64 x1.length,.int .i64 x,.int .i64 i,.int .i64 j]∧Keep h3 h∧TB h3.next h (fun m=>m=N) O L N N (fun j=>N-1-j) σ.next s vO (.sl sP 0 N capP) vC) (N-x1.length) ?_ ?_
 ·exact⟨x1.length,L,Nat.le_refl _,by omega,rfl,rfl,k5,a5⟩
 clear k5 a5 hn5
 rintro m' vs h ⟨j,L,hj1,hj,rfl,rfl,k5,a5⟩
 have hn5:=k5.next;have hiN:i<N:=by omega
 have hiN':(i:Int)<(N:Int):=by omega
 have hix:(i:Int)<(x1.length:Int):=by omega
 simp only [pwA,seval,-iQ0];refine iteI (fun hlt2=>?_) fun hge=>?_
 rotate_left
 ·have xi:=(hp1 _ (List.getElem_mem hlt)).b1
  have gx:(pis x1)[i]? = some (.int .i64 x1[i]):=by rw [zM,gi hlt];rfl
  simp only [pwA,seval,-iQ0,hlt,hix,gx];refine zIC ⟨x0,x1k⟩ ⟨by omega,xi.2⟩ hm fun y hy=>?_
  simp only [pwA,seval,-iQ0,wrapS hlt (by omega:x1.length≤4611686018427387904)]
  exact⟨_,by omega,i+1,y,L,by omega,rfl,rfl,hy.1,hy.2,k5,a5⟩
 have hji:j-i-1<N-1-i:=by omega
 have hji':((j-i-1:Nat):Int)<((N-1-i:Nat):Int):=by omega
 have wj:IntKind.i64.wrap ((j:Int)-(i:Int))=(j:Int)-(i:Int):=wrap64 (by omega) (by omega)
 have wj1:IntKind.i64.wrap ((j:Int)-(i:Int)-1)=((j-i-1:Nat):Int):=by rw [wrap64 (by omega) (by omega)];omega
 obtain⟨sC,capC,u,capu,rfl,q7,hbC,hlC,hbu,hlu,put⟩:=a5.putCx hiN hji;have nC1:¬sC=h.next:=by omega
 have nu1:¬u=h.next:=by omega
 simp only [pwA,seval,-iQ0,a5.r2,q7,hiN,hiN',wj,wj1];refine dig (f:=j) k5 (by omega) fun ys cap2 hys hc2=>?_
 obtain⟨ds,L',rC,w,a6⟩:=put (xs:=ys) (cp:=cap2) hys (by rw [hys];exact hc2)
 rw [hys]at w
 have r2:(h.new (pis ys)).rd1 s 2=some (.sl sC 0 N capC):=(a5.new _).r2;have k6:Keep h3 ((h.new (pis ys)).set u ds):=(k5.new _).set (by omega) _
 generalize h.new (pis ys)=g at *
 simp only [pwA,seval,-iQ0,r2,rC,hiN,hiN',hji,hji',w,wj,wj1,wrapS (by omega:j<N) (by omega:N≤4611686018427387904)]
 exact⟨_,by omega,j+1,L',by omega,by omega,rfl,rfl,k6,a6⟩
theorem zJ5 {n:Int} (hn:1≤n∧n≤1000) (hk:∀e wO wP wC O P C,IsPr wO wP wC O P C→Fm 6 O P C→K (.tup [.agg [wO,wP,wC],.int .i64 e]) σ):zA Tryz.prog 224 [.int .i64 n] σ K:=by
 have nil:∀e,K (.tup [.agg [.fz true .nils 0 [],.fz true .nils 0 [],.fz true .nils 0 []],.int .i64 e]) σ:=fun e=>
  hk e _ _ _ [] [] [] ⟨⟨true,.nils,rfl⟩,⟨true,.nils,[],rfl,All2.nil _⟩,⟨true,.nils,[],rfl,All2.nil _⟩⟩ (Fm.nil 6)
 have nilG:∀{h:PHeap} {e:Int},Keep σ h→Gh σ K (.tup [.agg [.fz true .nils 0 [],.fz true .nils 0 [],.fz true .nils 0 []],.int .i64 e]) h:=fun {h e} kh=>by
  have et:(TR.tup [TR.agg [.nil,.nil,.nil],.leaf (.int .i64 e)]).pv=.tup [.agg [.fz true .nils 0 [],.fz true .nils 0 [],.fz true .nils 0 []],.int .i64 e]:=by simp only [TR.pv,TR.pvs]
  rw [←et];refine Gh.treeF kh ⟨⟨trivial,trivial,trivial,trivial⟩,trivial,trivial⟩ fun aa=>?_
  simpa only [TR.fz,TR.fzs]using nil e
 refine zA.gh ?_;refine zC mix Tryz.func224 ?_
 conv=>arg 2;cbv
 refine zF rfl ?_;simp only [pwA,seval,-iQ0];refine zBP ?_;simp only [pwA,seval,-iQ0];refine iteI (fun hin=>?_) fun hout=>?_
 rotate_left
 ·exact nilG (zB _ _)
 refine QH hn fun v1 O t1 hv1 hl1 hp1=>?_
 have h11:=hv1.one;obtain⟨w1,a1,rfl⟩:=hv1;cases t1
 ·simp only [pwA,seval,-iQ0]
  exact nilG (zB _ _)
 simp only [pwA,seval,-iQ0];refine iteI (fun h6=>?_) fun h6=>?_
 ·exact nilG (zB _ _)
 have hO6:O.length≤6:=by omega
 generalize hH:σ.new [PV.fz true AV.nils 0 [],PV.fz true AV.nils 0 [],PV.fz true AV.nils 0 []]=H;have hHn:H.next=σ.next+1:=by rw [←hH];rfl
 have kH:Keep σ H:=by rw [←hH];exact zB _ _
 have ob1:H.obj σ.next=some [PV.fz true AV.nils 0 [],PV.fz true AV.nils 0 [],PV.fz true AV.nils 0 []]:=by rw [←hH];simp only [pwA,seval,-iQ0]
 clear hH;refine zBa ⟨w1,a1,rfl⟩ (by omega) fun L h vO vP vC k4 p4=>?_
 have hn4:=k4.next;have a5:=TB.start (r:=σ.next) p4 (by omega) (by rw [k4.obj _ (by omega)];exact ob1) hn4
 have k5:=k4.new [vO,vP,vC];simp only [pwA,seval,-iQ0,p4.hO.one,p4.hP.one,p4.hC.one];generalize h.next=s at *
 clear p4 k4;generalize hN:O.length=N at *
 refine zG (fun m' vs h=>∃(i:Nat) (L:Nat→Nat),i≤N∧m'=N-i∧vs=[.ptr σ.next 0,.fz w1 a1 N (pis O),.ptr s 0,.int .i64 i]∧Keep H h∧TB H.next h (fun m=>m=N) O L N N (fun j=>N-1-j) σ.next s vO vP vC) N ?_ ?_
 ·exact⟨0,_,Nat.zero_le _,rfl,rfl,k5,a5⟩
 clear a5 k5
 rintro m' vs h ⟨i,L,hi,rfl,rfl,k5,a5⟩
 have hn5:=k5.next;have wi:IntKind.i64.wrap ((i:Int)+1)=((i+1:Nat):Int):=by rw [wrap64 (by omega) (by omega)];omega
 simp only [pwA,seval,-iQ0,wi];refine iteI (fun hlt=>?_) fun hge=>?_
 ·have hlt':((i+1:Nat):Int)<(N:Int):=by omega
  have hiN:i<N:=by omega
  have hiN':(i:Int)<(N:Int):=by omega
  obtain⟨sP,capP,rfl,hbP,hlP,put⟩:=a5.putPx hiN;have nP1:¬sP=h.next:=by omega
  simp only [pwA,seval,-iQ0,a5.r1,wi];refine Qy (by omega) hlt fun cap2 hc2=>?_
  obtain⟨ds,L',w,a6⟩:=put (xs:=unitL N (i+1)) (cp:=cap2) (zh ..) (by rw [zh];exact hc2)
  rw [zh]at w
  have k6:Keep H ((h.new (pis (unitL N (i+1)))).set sP ds):=(k5.new _).set (by omega) _
  have r1:(h.new (pis (unitL N (i+1)))).rd1 s 1=some (.sl sP 0 N capP):=(a5.new _).r1;generalize h.new (pis (unitL N (i+1)))=g at *
  simp only [pwA,seval,-iQ0,r1,hiN,hiN',w,wi];refine⟨_,by omega,i+1,L',by omega,rfl,rfl,k6,a6⟩
 obtain⟨e1,e2,e3⟩:=a5.fin;simp only [pwA,seval,-iQ0,a5.r3,e1,e2];refine e3.fin2 ((kH.trans k5).set (Nat.le_refl _) _) (by omega) fun wO wP wC P C r1 r2=>hk 0 wO wP wC O P C r1 ⟨by omega,fun a h=>(hp1 a h).b1,?_⟩
 rw [hN];exact r2
theorem zFA {g:PHeap} {t:Nat} {xs ds:List PV} (ht:¬t=g.next):(g.new xs).set t ds=(g.set t ds).new xs:=by simp only [pwA,seval,-iQ0,ht]
theorem zEz {g:PHeap} {t i:Nat} {xs ds v:List PV} (h1:(g.new xs).wr t i v=some ((g.new xs).set t ds)) (ht:¬t=g.next):∃g',g.wr t i v=some g'∧g'.new xs=(g.new xs).set t ds:=by
 rw [zFA ht]at h1 ⊢
 simp only [pwA,seval,-iQ0,ht]at h1
 exact Option.map_eq_some_iff.1 h1
theorem zCy {p:Int} (so:So σ s0 vS bs) (hp:2≤p∧p≤7) (hk:∀wO wP wC O P C σ',IsPr wO wP wC O P C→Fm 18 O P C→Mv σ s0 σ'→So σ' s0 vS bs→K (.agg [wO,wP,wC]) σ'):zA Tryz.prog 226 [.ptr s0 0,.int .i64 p] σ K:=by
 have hlt:=so.lt;refine zA.gh ?_;refine zC mix Tryz.func226 ?_
 conv=>arg 2;cbv
 refine zF rfl ?_;simp only [pwA,seval,-iQ0];generalize hH:σ.new [PV.fz true AV.nils 0 [],PV.fz true AV.nils 0 [],PV.fz true AV.nils 0 []]=H;have hHn:H.next=σ.next+1:=by rw [←hH];rfl
 have kH:Keep σ H:=by rw [←hH];exact zB _ _
 have ob1:H.obj σ.next=some [PV.fz true AV.nils 0 [],PV.fz true AV.nils 0 [],PV.fz true AV.nils 0 []]:=by rw [←hH];simp only [pwA,seval,-iQ0]
 clear hH;rw [←hHn];obtain⟨O,hO⟩:∃O,O=[p,p,p]:=⟨_,rfl⟩
 have hO3:O.length=3:=by rw [hO];rfl
 have ob:∀a∈O,1≤a∧a≤1000:=fun a h=>by
  rw [hO]at h
  simp only [List.mem_cons,List.not_mem_nil,or_false,or_self]at h
  omega
 have tr:∀{g:PHeap} {K':PV→PHeap→Prop},g.obj H.next=some (pis O)→H.next<g.next→(∀L h vO vP vC,Keep g h→PW L g.next h (fun m=>m=3) O 3 3 (fun j=>3-1-j) vO vP vC→K' (.agg [vO,vP,vC]) h)→zA Tryz.prog 203 [.sl H.next 0 3 (.known 3)] g K':=fun {g K'} h1 h2 h3=>by
  have:=qh (cap:=.known 3) h1 h2 (by omega) (K:=K') (by rw [hO3];exact h3)
  rw [hO3]at this;exact this
 refine tr (by rw [zD,if_pos rfl,hO];rfl) (Nat.lt_succ_self _) fun L h vO vP vC k4 p4=>?_
 clear tr;have hn4:H.next+1≤h.next:=k4.next;have kH4:Keep H h:=(zB H _).trans k4;have a5:=TB.start (r:=σ.next) p4 (by show σ.next<H.next+1;omega) (by rw [kH4.obj _ (by omega)];exact ob1) k4.next
 have km5:KM σ s0 (h.new [vO,vP,vC]):=so.kmK ((kH.trans kH4).new _);have so5:So (h.new [vO,vP,vC]) s0 vS bs:=so.keep ((kH.trans kH4).new _);generalize hb:(H.new [PV.int IntKind.i64 p,PV.int IntKind.i64 p,PV.int IntKind.i64 p]).next=b at *
 have hbH:b=H.next+1:=hb.symm;simp only [pwA,seval,-iQ0,p4.hO.one,p4.hP.one,p4.hC.one];clear hb p4 kH4;have hsn:h.next<(h.new [vO,vP,vC]).next:=Nat.lt_succ_self _;generalize h.new [vO,vP,vC]=g at *
 generalize h.next=s at *
 clear k4;have fin:∀{g:PHeap} {L':Nat→Nat},KM σ s0 g→So g s0 vS bs→TB b g (fun m=>m=3) O L' 3 3 (fun i=>3-1-i) σ.next s vO vP vC→
   g.wr σ.next 0 [vO,vP,vC]=some (g.set σ.next [vO,vP,vC])∧(g.set σ.next [vO,vP,vC]).rd σ.next 0 3=some [vO,vP,vC]∧Gh σ K (.agg [vO,vP,vC]) (g.set σ.next [vO,vP,vC]):=fun {g L'} km so' a=>by
  obtain⟨e1,e2,e3⟩:=a.fin;refine⟨e1,e2,e3.finKM (km.set (by omega) _) (so'.set (by omega) _) hlt (by omega) fun wO wP wC P C σ' x1 x2 x3 x4=>hk wO wP wC O P C σ' x1 ⟨by omega,ob,?_⟩ x3 x4⟩
  rw [hO3];exact x2
 obtain⟨sC,capC,u,capu,rfl,q7,hbC,hlC,hbu,hlu,put⟩:=a5.putCx (i:=0) (j:=0) (by decide) (by decide)
 obtain⟨ds,L',rC,w,a6⟩:=put (xs:=[0,1,1]) (cp:=.known 3) rfl (.inr rfl);have nu1:¬u=g.next:=by omega
 have km6:KM σ s0 ((g.new (pis [0,1,1])).set u ds):=(km5.keep (zB _ _)).set (by omega) _
 have so6:So ((g.new (pis [0,1,1])).set u ds) s0 vS bs:=(so5.keep (zB _ _)).set (by omega) _
 have e1:∀y:Int,pis [0,y,1]=[PV.int .i64 0,PV.int .i64 y,PV.int .i64 1]:=fun _=>rfl
 have e2:∀y:Int,pis [0,0,y]=[PV.int .i64 0,PV.int .i64 0,PV.int .i64 y]:=fun _=>rfl
 have h03:(0:Int)<((3:Nat):Int):=by decide
 have h13:(1:Int)<((3:Nat):Int):=by decide
 have h02:(0:Int)<((2:Nat):Int):=by decide
 have h02':(0:Int)<((3-1-0:Nat):Int):=by decide
 obtain⟨g',w1,w2⟩:=zEz w nu1;rw [e1]at w2 km6 so6 a6
 generalize (g.new [PV.int .i64 0,PV.int .i64 1,PV.int .i64 1]).set u ds=g6 at *
 have w1:g.wr u 0 [PV.sl g.next 0 3 (.known 3)]=some g':=w1;simp only [pwA,seval,-iQ0,a5.r2,q7,nu1,w1,w2,h03,h02,h02'];have hs0:s0<b:=by omega
 have hr1:s0≠σ.next:=by omega
 refine zl (n:=2) so6 (by decide) fun x1 g7 hx1 m7 so7=>?_
 have a7:=a6.mv hs0 hr1 m7;have km7:=km6.mv hlt m7
 by_cases h0:x1=0
 rotate_left
 ·obtain⟨e1,e2,e3⟩:=fin km7 so7 a7
  simp only [pwA,seval,-iQ0,h0,a7.r3,e1,e2];exact e3
 have step:∀{g:PHeap} {L:Nat→Nat} (i:Nat) (y:Int),i<3→KM σ s0 g→So g s0 vS bs→TB b g (fun m=>m=3) O L 3 3 (fun j=>3-1-j) σ.next s vO vP (.sl sC 0 3 capC)→
   ∃sP capP g' G L',vP=.sl sP 0 3 capP∧¬sP=g.next∧g.rd1 s 1=some (.sl sP 0 3 capP)∧(g.new [PV.int .i64 0,PV.int .i64 0,PV.int .i64 y]).rd1 s 1=some (.sl sP 0 3 capP)∧g.wr sP i [.sl g.next 0 3 (.known 3)]=some g'∧g'.new [PV.int .i64 0,PV.int .i64 0,PV.int .i64 y]=G∧
    KM σ s0 G∧So G s0 vS bs∧TB b G (fun m=>m=3) O L' 3 3 (fun j=>3-1-j) σ.next s vO vP (.sl sC 0 3 capC):=fun {g L} i y hi km so a=>by
  obtain⟨sP,capP,e,hbP,hlP,put⟩:=a.putPx (i:=i) hi;obtain⟨ds,L',w,a9⟩:=put (xs:=[0,0,y]) (cp:=.known 3) rfl (.inr rfl);obtain⟨g',w1,w2⟩:=zEz w (by omega)
  have r:=(a.new [PV.int .i64 0,PV.int .i64 0,PV.int .i64 y]).r1;have r':=a.r1;rw [e]at r r'
  exact⟨sP,capP,g',_,L',e,by omega,r',r,w1,w2,(km.keep (zB _ _)).set (by omega) _,(so.keep (zB _ _)).set (by omega) _,a9⟩
 simp only [pwA,seval,-iQ0,h0,a7.r1];refine zl (n:=p) so7 (by omega) fun y1 g8 hy1 m8 so8=>?_
 have a8:=a7.mv hs0 hr1 m8;obtain⟨sP,capP,g9,G,L9,rfl,n8,r8,r8',w8,e8,km9,so9,a9⟩:=step 0 y1 (by decide) (km7.mv hlt m8) so8 a8
 simp only [pwA,seval,-iQ0,r8,r8',n8,w8,e8,h03,a9.r1];refine zl (n:=p) so9 (by omega) fun y2 g10 hy2 m10 so10=>?_
 have a10:=a9.mv hs0 hr1 m10;obtain⟨sP',capP',g11,G2,L11,e',n10,r10,r10',w10,e10,km11,so11,a11⟩:=step 1 y2 (by decide) (km9.mv hlt m10) so10 a10
 simp only [PV.sl.injEq]at e'
 obtain⟨rfl,-,-,rfl⟩:=e';obtain⟨e1,e2,e3⟩:=fin km11 so11 a11;simp only [pwA,seval,-iQ0,r10,r10',n10,w10,e10,h13,a11.r3,e1,e2];exact e3
end Go.Proofs
namespace Go.Grp
end Go.Grp
namespace Go.Proofs
open Go.Ab Go.Lie Go.Grp Go.Mx
variable {σ:PHeap} {K:PV→PHeap→Prop} {p:Int} {n na:Nat} {v w xs ys:List Int} {A B M:List (List Int)} {vA vB vM vv v0:PV}
end Go.Proofs
namespace Go.Grp
end Go.Grp
namespace Go.Proofs
open Go.Ab Go.Lie Go.Grp Go.Mx
variable {σ σ0 h h':PHeap} {K:PV→PHeap→Prop} {b s t k nP nC r s0 i j:Nat} {L L':Nat→Nat} {Q Q':Nat→Prop} {len:Nat→Nat} {v vO vP vC c vX vS vL vM:PV} {x O xs bs:List Int} {P M:List (List Int)} {C:List (List (List Int))} {cs:List PV}
theorem ZH {p m:Int} (hp:2≤p∧p≤7) (hm:1≤m∧m≤1000) (hM:MatX σ vM M) (hMa:Ma p M.length M) (hl:1≤M.length∧M.length≤8)
  (hk:∀wO wP wC O P C,IsPr wO wP wC O P C→Fm 18 O P C→K (.agg [wO,wP,wC]) σ):zA Tryz.prog 227 [.int .i64 p,vM,.int .i64 m] σ K:=by
 refine zA.gh ?_;refine zR mix Tryz.func227 cf227 rfl ?_;dsimp only [if227,eI,qD,eD,mI0,kI0,lI0,LI0,xI0,bI0,cI0,sI0,eI0,C1,mD0,lD0,fD0,xD0,I0,vI0,wD0,R0,S0];simp only [pwA,seval,-iQ0,hM.one];refine QH hm fun v1 x1 t1 hv1 hl1 hp1=>?_
 have h11:=hv1.one;simp only [pwA,seval,-iQ0,hM.one];obtain⟨w1,a1,rfl⟩:=hv1;refine qw rfl (by omega) fun cap1 hc1=>?_
 generalize hH:σ.new [PV.fz true AV.nils 0 [],PV.fz true AV.nils 0 [],PV.fz true AV.nils 0 []]=H;have hHn:H.next=σ.next+1:=by rw [←hH];rfl
 have kH:Keep σ H:=by rw [←hH];exact zB _ _
 have ob1:H.obj σ.next=some [PV.fz true AV.nils 0 [],PV.fz true AV.nils 0 [],PV.fz true AV.nils 0 []]:=by rw [←hH];simp only [pwA,seval,-iQ0]
 clear hH;simp only [pwA,seval,-iQ0,hM.one];have hMH:=hM.keep kH;obtain⟨n,hn⟩:∃n,n=M.length:=⟨_,rfl⟩
 have hlen:=hM.pLen;have hone:=hM.one;have wn:∀{i:Nat},i<n→IntKind.i64.wrap ((i:Int)+1)=((i+1:Nat):Int):=fun {i} hi=>by rw [wrap64 (by omega) (by omega)];omega
 rw [←hn]at hlen hl
 refine zG (fun m' vs h=>∃(i:Nat) (v:PV),i≤n∧m'=n-i∧vs=[.int .i64 p,vM,.ptr σ.next 0,.fz w1 a1 x1.length (pis x1),v,.int .i64 i]∧Keep H h∧PSl H.next 1 h v (x1.length+i) (pis (x1++List.replicate i p))) n ?_ ?_
 ·refine⟨0,.sl H.next 0 x1.length cap1,Nat.zero_le _,rfl,rfl,zB H _,?_⟩
  have:=PSl.own (b:=H.next) (h:=H.new (pis x1)) (s:=H.next) (n:=x1.length) (e:=1) (cs:=pis x1) hc1 (by rw [zD,if_pos rfl]) (by rw [zI,Nat.mul_one]) (Nat.le_refl _) (Nat.lt_succ_self _)
  simpa using this
 rintro m' vs h ⟨i,v,hi,rfl,rfl,k3,a3⟩
 simp only [pwA,seval,-iQ0,hlen,hone];refine iteI (fun hlt=>?_) fun hge=>?_
 ·have hlt':(i:Int)<(n:Int):=by omega
  refine PSl.push (σb:=H) (bytes:=8) k3 a3 (by omega) (by omega) fun v2 h2 k2 a2=>?_
  simp only [pwA,seval,-iQ0,wn hlt,hone];refine⟨_,by omega,i+1,v2,by omega,rfl,rfl,k2,?_⟩
  have e:pis (x1++List.replicate (i+1) p)=pis (x1++List.replicate i p)++[.int .i64 p]:=by rw [List.replicate_succ',←List.append_assoc];simp [pis]
  rw [e];exact a2
 have hin:i=n:=by omega
 subst hin;generalize hnn:i=n at *
 obtain⟨O,hO⟩:∃O,O=x1++List.replicate n p:=⟨_,rfl⟩
 rw [←hO]at a3
 have hOl:O.length=x1.length+n:=by rw [hO,List.length_append,List.length_replicate]
 have hOb:∀a∈O,1≤a∧a≤1000:=fun a h=>by
  rw [hO]at h
  rcases List.mem_append.1 h with h|h
  ·exact(hp1 a h).b1
  ·rw [(List.mem_replicate.1 h).2];omega
 clear hO;rw [←hOl]at a3
 obtain⟨so,capO,rfl,q1,q2,q3,q4,q5⟩:=a3;have hn3:=k3.next;generalize h=h3 at *
 have hM3:=hMH.keep k3;simp only [pwA,seval,-iQ0];refine qh q2 q5 (by omega) fun L h vO vP vC k4 p4=>?_
 have hn4:=k4.next;have a5:=TB.start (r:=σ.next) p4 (by omega) (by rw [k4.obj _ (by omega),k3.obj _ (by omega)];exact ob1) hn4
 have k5:=k4.new [vO,vP,vC];simp only [pwA,seval,-iQ0,p4.hO.one,p4.hP.one,p4.hC.one];generalize h.next=s at *
 clear p4 k4;generalize hN:O.length=N at *
 refine zG (fun m' vs h=>∃(i:Nat) (L:Nat→Nat),i≤x1.length∧m'=x1.length-i∧vs=[.int .i64 p,vM,.ptr σ.next 0,.fz w1 a1 x1.length (pis x1),.sl so 0 N capO,.ptr s 0,.int .i64 x1.length,.int .i64 i]∧Keep h3 h∧TB h3.next h (fun m=>m=N) O L N N (fun j=>N-1-j) σ.next s vO vP vC) x1.length ?_ ?_
 ·exact⟨0,_,Nat.zero_le _,rfl,rfl,k5,a5⟩
 clear a5 k5
 rintro m' vs h ⟨i,L,hi,rfl,rfl,k5,a5⟩
 have hn5:=k5.next;have wi:IntKind.i64.wrap ((i:Int)+1)=((i+1:Nat):Int):=by rw [wrap64 (by omega) (by omega)];omega
 simp only [pwA,seval,-iQ0,wi,hone];refine iteI (fun hlt=>?_) fun hge=>?_
 ·have hiN:i<N:=by omega
  have hiN':(i:Int)<(N:Int):=by omega
  obtain⟨sP,capP,rfl,hbP,hlP,put⟩:=a5.putPx hiN;have nP1:¬sP=h.next:=by omega
  simp only [pwA,seval,-iQ0,a5.r1,wi];refine Qy (by omega) (by omega) fun cap2 hc2=>?_
  obtain⟨ds,L',w,a6⟩:=put (xs:=unitL N (i+1)) (cp:=cap2) (zh ..) (by rw [zh];exact hc2)
  rw [zh]at w
  have k6:Keep h3 ((h.new (pis (unitL N (i+1)))).set sP ds):=(k5.new _).set (by omega) _
  have r1:(h.new (pis (unitL N (i+1)))).rd1 s 1=some (.sl sP 0 N capP):=(a5.new _).r1;generalize h.new (pis (unitL N (i+1)))=g at *
  simp only [pwA,seval,-iQ0,r1,hiN,hiN',w,wi,hone];refine⟨_,by omega,i+1,L',by omega,rfl,rfl,k6,a6⟩
 clear wi hge hi;have fin:∀{g:PHeap} {L:Nat→Nat},Keep h3 g→TB h3.next g (fun m=>m=N) O L N N (fun j=>N-1-j) σ.next s vO vP vC→
   g.wr σ.next 0 [vO,vP,vC]=some (g.set σ.next [vO,vP,vC])∧(g.set σ.next [vO,vP,vC]).rd σ.next 0 3=some [vO,vP,vC]∧Gh σ K (.agg [vO,vP,vC]) (g.set σ.next [vO,vP,vC]):=fun {g L} kg a=>by
  obtain⟨e1,e2,e3⟩:=a.fin;refine⟨e1,e2,e3.fin (((kH.trans k3).trans kg).set (Nat.le_refl _) _) (by omega) fun wO wP wC P C r1 r2=>hk wO wP wC O P C r1 ⟨by omega,hOb,?_⟩⟩
  rw [hN];exact r2
 refine zJa (hM3.keep k5) (by omega) (fun r hr=>by have:=(hMa r hr).len;omega) fun wI hI=>?_
 simp only [pwA,seval,-iQ0,hone];refine zG (fun m' vs h=>∃(i:Nat) (wI:PV) (A:List (List Int)) (L:Nat→Nat),i≤x1.length∧m'=x1.length-i∧vs=[.int .i64 p,vM,.ptr σ.next 0,.fz w1 a1 x1.length (pis x1),.ptr s 0,.int .i64 x1.length,wI,.int .i64 i]∧FII wI A∧Ma p n A∧A.length=n∧Keep h3 h∧TB h3.next h (fun m=>m=N) O L N N (fun j=>N-1-j) σ.next s vO vP vC) x1.length ?_ ?_
 ·exact⟨0,wI,M,L,Nat.zero_le _,rfl,rfl,hI,by rw [hn];exact hMa,hn.symm,k5,a5⟩
 clear k5 a5 hn5 hI
 rintro m' vs h ⟨i,wI,A,L,hi,rfl,rfl,hI,hA,hAl,k5,a5⟩
 have hn5:=k5.next;simp only [pwA,seval,-iQ0,hone,hI.one];refine iteI (fun hlt=>?_) fun hge=>?_
 rotate_left
 ·obtain⟨e1,e2,e3⟩:=fin k5 a5
  simp only [pwA,seval,-iQ0,a5.r3,e1,e2];exact e3
 refine zG (fun m' vs h=>∃(j:Nat) (L:Nat→Nat),j≤n∧m'=n-j∧vs=[.int .i64 p,vM,.ptr σ.next 0,.fz w1 a1 x1.length (pis x1),.ptr s 0,.int .i64 x1.length,wI,.int .i64 i,.int .i64 j]∧Keep h3 h∧TB h3.next h (fun m=>m=N) O L N N (fun j=>N-1-j) σ.next s vO vP vC) n ?_ ?_
 ·exact⟨0,L,Nat.zero_le _,rfl,rfl,k5,a5⟩
 clear k5 a5 hn5
 rintro m' vs h ⟨j,L,hj,rfl,rfl,k5,a5⟩
 have hn5:=k5.next;have hiN:i<N:=by omega
 have hiN':(i:Int)<(N:Int):=by omega
 have hix:(i:Int)<(x1.length:Int):=by omega
 simp only [pwA,seval,-iQ0,hlen,hone,hI.one];refine iteI (fun hlt2=>?_) fun hge=>?_
 rotate_left
 ·have xi:=(hp1 _ (List.getElem_mem hlt)).b1
  have gx:(pis x1)[i]? = some (.int .i64 x1[i]):=by rw [zM,gi hlt];rfl
  have wxi:IntKind.i64.wrap ((i:Int)+1)=((i+1:Nat):Int):=by rw [wrap64 (by omega) (by omega)];omega
  refine zG (fun m' vs h'=>∃(k:Nat) (wB:PV) (B:List (List Int)),1≤k∧k≤1000∧m'=1000-k∧vs=[.int .i64 p,vM,.ptr σ.next 0,.fz w1 a1 x1.length (pis x1),.ptr s 0,.int .i64 x1.length,wB,.int .i64 i,wI,.int .i64 k]∧FII wB B∧Ma p n B∧B.length=n∧h'=h) 999 ?_ ?_
  ·exact⟨1,wI,A,Nat.le_refl _,by decide,by decide,rfl,hI,hA,hAl,rfl⟩
  rintro m' vs h' ⟨k,wB,B,hk1,hk2,rfl,rfl,hB,hBm,hBl,rfl⟩
  simp only [pwA,seval,-iQ0,hlt,hix,gx,hone,hI.one,hB.one];refine iteI (fun hlk=>?_) fun hge2=>?_
  rotate_left
  ·simp only [pwA,seval,-iQ0,wxi,hB.one,hone]
   exact⟨_,by omega,i+1,wB,B,L,by omega,rfl,rfl,hB,hBm,hBl,k5,a5⟩
  have wk:IntKind.i64.wrap ((k:Int)+1)=((k+1:Nat):Int):=by rw [wrap64 (by omega) (by omega)];omega
  simp only [pwA,seval,-iQ0,hlen];refine zBc hp (A:=B) (B:=A) (n:=n) (by rw [hAl];exact hBm) hA (by omega) (by omega) (by omega) hB hI fun z hz=>?_
  have hz1:=hz.one;simp only [pwA,seval,-iQ0,hz1,wk,hone,hI.one];exact⟨_,by omega,k+1,z,mm p n B A,by omega,by omega,rfl,rfl,hz,mm_ma (by omega) (by rw [hAl];exact hBm) hA,by rw [Zl];exact hBl⟩
 have hji:x1.length+j-i-1<N-1-i:=by omega
 have hji':((x1.length+j-i-1:Nat):Int)<((N-1-i:Nat):Int):=by omega
 have hjA:j<A.length:=by omega
 have hjA':(j:Int)<(A.length:Int):=by omega
 have wj0:IntKind.i64.wrap ((x1.length:Int)+(j:Int))=(x1.length:Int)+(j:Int):=wrap64 (by omega) (by omega)
 have wj:IntKind.i64.wrap ((x1.length:Int)+(j:Int)-(i:Int))=(x1.length:Int)+(j:Int)-(i:Int):=wrap64 (by omega) (by omega)
 have wj1:IntKind.i64.wrap ((x1.length:Int)+(j:Int)-(i:Int)-1)=((x1.length+j-i-1:Nat):Int):=by rw [wrap64 (by omega) (by omega)];omega
 obtain⟨sC,capC,u,capu,rfl,q7,hbC,hlC,hbu,hlu,put⟩:=a5.putCx hiN hji;have nC1:¬sC=h.next:=by omega
 have nu1:¬u=h.next:=by omega
 obtain⟨wA,aA,rA,rfl,hrA⟩:=hI;obtain⟨w4,a4,hr⟩:=hrA.rowI hjA;have hrow:=(hA _ (List.getElem_mem hjA)).len;simp only [pwA,seval,-iQ0,a5.r2,q7,hiN,hiN',wj0,wj,wj1,hjA,hjA',hr];refine Zz (before:=x1.length) (behind:=0) ⟨w4,a4,rfl⟩ (by omega) (by omega) (by omega) fun cap2 ys hys hc2=>?_
 have hys':ys.length=N:=by omega
 obtain⟨ds,L',rC,w,a6⟩:=put (xs:=ys) (cp:=cap2) hys' hc2;have r2:(h.new (pis ys)).rd1 s 2=some (.sl sC 0 N capC):=(a5.new _).r2;have k6:Keep h3 ((h.new (pis ys)).set u ds):=(k5.new _).set (by omega) _
 generalize h.new (pis ys)=g at *
 simp only [pwA,seval,-iQ0,r2,rC,hiN,hiN',hji,hji',w,wj0,wj,wj1,wn hlt2,hone];exact⟨_,by omega,j+1,L',by omega,rfl,rfl,k6,a6⟩
end Go.Proofs
namespace Go.Grp
end Go.Grp
namespace Go.Proofs
open Go.Ab Go.Lie Go.Grp
variable {σ σ0 h h':PHeap} {K:PV→PHeap→Prop} {b s t k nP nC r s0 i j:Nat} {L L':Nat→Nat} {Q Q':Nat→Prop} {len:Nat→Nat} {v vO vP vC yO yP yC c vX vS vL vM:PV} {x O xs bs O1 O2:List Int} {P M P1 P2:List (List Int)} {C C1 C2:List (List (List Int))} {cs:List PV}
theorem RowX.mark {b':Nat} (a:RowX L h b k x v) (hb:b'≤b) (hL:∀t,b≤t→L' t=L t):RowX L' h b' k x v:=by
 obtain⟨s,cap,rfl,h1,h2,h3,h4,h5⟩:=a;exact⟨s,cap,rfl,h1,h2,by omega,h4,by rw [hL s h3];exact h5⟩
theorem RowAt.mark {b':Nat} (a:RowAt L h b Q v) (hb:b'≤b) (hL:∀t,b≤t→L' t=L t):RowAt L' h b' Q v:=by
 obtain⟨x,q,a⟩:=a;exact⟨x,q,a.mark hb hL⟩
theorem MatAt.mark {b' n:Nat} (a:MatAt L h b Q k n v) (hb:b'≤b) (hL:∀t,b≤t→L' t=L t):MatAt L' h b' Q k n v:=by
 obtain⟨s,cap,cs,rfl,h1,h2,h3,h4,h5,h6,h7⟩:=a;exact⟨s,cap,cs,rfl,h1,h2,h3,by omega,h5,by rw [hL s h4];exact h6,fun c hc=>(h7 c hc).mark hb hL⟩
theorem TenAt.mark {b' n:Nat} (a:TenAt L h b Q n len v) (hb:b'≤b) (hL:∀t,b≤t→L' t=L t):TenAt L' h b' Q n len v:=by
 obtain⟨s,cap,cs,rfl,h1,h2,h3,h4,h5,h6,h7⟩:=a;exact⟨s,cap,cs,rfl,h1,h2,h3,by omega,h5,by rw [hL s h4];exact h6,fun i c hc=>(h7 i c hc).mark hb hL⟩
theorem PW.mark {b':Nat} (a:PW L b h Q O nP nC len vO vP vC) (hb:b'≤b) (hL:∀t,b≤t→L' t=L t):PW L' b' h Q O nP nC len vO vP vC:=
 ⟨a.hO.mark hb hL,a.hP.imp id fun a=>a.mark hb hL,a.hC.imp id fun a=>a.mark hb hL⟩
theorem TB.startAt {b':Nat} (a:PW L b h Q O nP nC len vO vP vC) (hs:s<b) (hs':b'≤s) (hb:b≤h.next) (hr:r<b') (hres:h.obj r=some [.fz true .nils 0 [],.fz true .nils 0 [],.fz true .nils 0 []]):TB b' (h.set s [vO,vP,vC]) Q O (mkM L s 7) nP nC len r s vO vP vC:=
 ⟨by rw [zJ,if_neg (by omega)];exact hres,hr,by rw [zJ,if_pos rfl],(a.set hs _).mark (by omega) fun t ht=>by unfold mkM;rw [if_neg (by omega)],ZW,⟨hs',by show s<h.next;omega⟩⟩
theorem zH7 (hR1:IsPr vO vP vC O1 P1 C1) (h1:Fm 18 O1 P1 C1) (hR2:IsPr yO yP yC O2 P2 C2) (h2:Fm 18 O2 P2 C2)
  (hk:∀wO wP wC O P C,IsPr wO wP wC O P C→Fm 36 O P C→K (.agg [wO,wP,wC]) σ):zA Tryz.prog 202 [.agg [vO,vP,vC],.agg [yO,yP,yC]] σ K:=by
 refine zA.gh ?_;have o1:=hR1.O.one;have o2:=hR2.O.one;have p1:=hR1.P.one;have p2:=hR2.P.one;have c1:=hR1.C.one;have c2:=hR2.C.one;obtain⟨⟨w1,a1,rfl⟩,hP1,hC1⟩:=hR1;obtain⟨⟨w2,a2,rfl⟩,hP2,hC2⟩:=hR2;have n1:=h1.n;have n2:=h2.n;refine zR mix Tryz.func202 cf202 rfl ?_;dsimp only [if202,eI,qD,eD,mI0,kI0,lI0,LI0,fI0,xI0,bI0,cI0,sI0,mD0,lD0,fD0,xD0,I0,vI0,wD0,R0,S0];simp only [pwA,seval,-iQ0,o1,o2,p1,p2,c1,c2];generalize hH3:((σ.new [PV.fz w1 a1 O1.length (pis O1),vP,vC]).new [PV.fz w2 a2 O2.length (pis O2),yP,yC]).new [PV.fz true AV.nils 0 [],PV.fz true AV.nils 0 [],PV.fz true AV.nils 0 []]=H3;have hH3n:H3.next=σ.next+3:=by rw [←hH3];rfl
 have kH3:Keep σ H3:=by rw [←hH3];exact((zB _ _).new _).new _
 have obx:H3.obj σ.next=some [PV.fz w1 a1 O1.length (pis O1),vP,vC]:=by rw [←hH3];simp only [pwA,seval,-iQ0]
 have oby:H3.obj (σ.next+1)=some [PV.fz w2 a2 O2.length (pis O2),yP,yC]:=by rw [←hH3];simp only [pwA,seval,-iQ0]
 have obr:H3.obj (σ.next+2)=some [PV.fz true AV.nils 0 [],PV.fz true AV.nils 0 [],PV.fz true AV.nils 0 []]:=by rw [←hH3];simp only [pwA,seval,-iQ0]
 clear hH3;generalize hH:H3.new [PV.fz true AV.nils 0 [],PV.fz true AV.nils 0 [],PV.fz true AV.nils 0 []]=H;have hHn:H.next=σ.next+4:=by rw [←hH];show H3.next+1=_;omega
 have kH:Keep H3 H:=by rw [←hH];exact zB _ _
 have obs:H.obj (σ.next+3)=some [PV.fz true AV.nils 0 [],PV.fz true AV.nils 0 [],PV.fz true AV.nils 0 []]:=by rw [←hH,zD,if_pos hH3n.symm]
 clear hH;refine qw rfl (by omega) fun cap1 hc1=>?_
 have ry0:(H.new (pis O1)).rd1 (σ.next+1) 0=some (.fz w2 a2 O2.length (pis O2)):=by rw [zH (by rw [zD,if_neg (by omega),kH.obj _ (by omega)];exact oby)];rfl
 have kp0:Keep H (H.new (pis O1)):=zB _ _;have pa0:PSl H.next 1 (H.new (pis O1)) (.sl H.next 0 O1.length cap1) O1.length (pis O1):=PSl.own hc1 (by rw [zD,if_pos rfl]) (by rw [zI,Nat.mul_one]) (Nat.le_refl _) (Nat.lt_succ_self _)
 have hgn:H.next≤(H.new (pis O1)).next:=Nat.le_succ _;generalize H.new (pis O1)=g at *
 simp only [pwA,seval,-iQ0,ry0];refine PSl.cat (σb:=H) (bytes:=8) (m:=O2.length) (news:=pis O2) kp0 pa0 (by rw [zI]) (by omega) (by omega) fun v3 h3 k3 a3=>?_
 rw [qP,←List.length_append]at a3
 obtain⟨O,hO⟩:∃O,O=O1++O2:=⟨_,rfl⟩
 rw [←hO]at a3
 have hOl:O.length=O1.length+O2.length:=by rw [hO,List.length_append]
 have hOb:∀a∈O,1≤a∧a≤1000:=fun a h=>by
  rw [hO]at h
  rcases List.mem_append.1 h with h|h
  ·exact h1.ob a h
  ·exact h2.ob a h
 clear hO;obtain⟨so,capO,rfl,q1,q2,q3,q4,q5⟩:=a3;have hn3:=k3.next;simp only [pwA,seval,-iQ0];refine qh q2 q5 (by omega) fun L h uO uP uC k4 p4=>?_
 have hn4:=k4.next;have kk4:=k3.trans k4;have ohs:h.obj (σ.next+3)=some [PV.fz true AV.nils 0 [],PV.fz true AV.nils 0 [],PV.fz true AV.nils 0 []]:=by rw [kk4.obj _ (by omega)];exact obs
 have a5:=TB.startAt (b':=σ.next+3) (r:=σ.next+2) (s:=σ.next+3) p4 (by omega) (Nat.le_refl _) hn4 (by omega) (by rw [kk4.obj _ (by omega),kH.obj _ (by omega)];exact obr)
 have k5:Keep H3 (h.set (σ.next+3) [uO,uP,uC]):=(kH.trans kk4).set (by omega) _
 have w5:h.wr (σ.next+3) 0 [uO,uP,uC]=some (h.set (σ.next+3) [uO,uP,uC]):=by rw [zX ohs,if_pos ⟨by simp,by simp [p4.hO.one,p4.hP.one,p4.hC.one]⟩];rfl
 simp only [pwA,seval,-iQ0,p4.hO.one,p4.hP.one,p4.hC.one,w5];generalize h.set (σ.next+3) [uO,uP,uC]=g5 at *
 clear w5 ohs p4 kk4 k4 hn4 pa0 kp0 ry0 hgn k3 q1 q2 q3 q4 q5 hn3;generalize hN:O.length=N at *
 obtain⟨wP1,aP1,rP1,rfl,hrP1⟩:=hP1;obtain⟨wC1,aC1,rC1,rfl,hrC1⟩:=hC1;obtain⟨wP2,aP2,rP2,rfl,hrP2⟩:=hP2;obtain⟨wC2,aC2,rC2,rfl,hrC2⟩:=hC2;have lenP1:=h1.q.pl;have lenP2:=h2.q.pl;have lenC1:=h1.q.cl;have lenC2:=h2.q.cl;have X1:∀{g:PHeap},Keep H3 g→g.rd1 σ.next 1=some (.fz wP1 aP1 P1.length rP1):=fun {g} kg=>by rw [zH (by rw [kg.obj _ (by omega)];exact obx)];rfl
 have X2:∀{g:PHeap},Keep H3 g→g.rd1 σ.next 2=some (.fz wC1 aC1 C1.length rC1):=fun {g} kg=>by rw [zH (by rw [kg.obj _ (by omega)];exact obx)];rfl
 have Y1:∀{g:PHeap},Keep H3 g→g.rd1 (σ.next+1) 1=some (.fz wP2 aP2 P2.length rP2):=fun {g} kg=>by rw [zH (by rw [kg.obj _ (by omega)];exact oby)];rfl
 have Y2:∀{g:PHeap},Keep H3 g→g.rd1 (σ.next+1) 2=some (.fz wC2 aC2 C2.length rC2):=fun {g} kg=>by rw [zH (by rw [kg.obj _ (by omega)];exact oby)];rfl
 have row1:∀i (hi:i<C1.length),C1[i].length=O1.length-1-i:=fun i hi=>by
  have:=h1.q.row i (by omega)
  rw [List.getD_eq_getElem?_getD,List.getElem?_eq_getElem hi]at this
  exact this
 have row2:∀i (hi:i<C2.length),C2[i].length=O2.length-1-i:=fun i hi=>by
  have:=h2.q.row i (by omega)
  rw [List.getD_eq_getElem?_getD,List.getElem?_eq_getElem hi]at this
  exact this
 refine zG (fun m' vs h=>∃(i:Nat) (L:Nat→Nat),i≤O1.length∧m'=O1.length-i∧vs=[.ptr σ.next 0,.ptr (σ.next+1) 0,.ptr (σ.next+2) 0,.int .i64 O1.length,.int .i64 O2.length,.ptr (σ.next+3) 0,.int .i64 i]∧Keep H3 h∧TB (σ.next+3) h (fun m=>m=N) O L N N (fun j=>N-1-j) (σ.next+2) (σ.next+3) uO uP uC) O1.length ?_ ?_
 ·exact⟨0,_,Nat.zero_le _,rfl,rfl,k5,a5⟩
 clear a5 k5
 rintro m' vs h ⟨i,L,hi,rfl,rfl,k5,a5⟩
 have hn5:=k5.next;simp only [pwA,seval,-iQ0];refine iteI (fun hlt=>?_) fun hge=>?_
 rotate_left
 ·refine zG (fun m' vs h=>∃(i:Nat) (L:Nat→Nat),i≤O2.length∧m'=O2.length-i∧vs=[.ptr (σ.next+1) 0,.ptr (σ.next+2) 0,.int .i64 O1.length,.int .i64 O2.length,.ptr (σ.next+3) 0,.int .i64 i]∧Keep H3 h∧TB (σ.next+3) h (fun m=>m=N) O L N N (fun j=>N-1-j) (σ.next+2) (σ.next+3) uO uP uC) O2.length ?_ ?_
  ·exact⟨0,_,Nat.zero_le _,rfl,rfl,k5,a5⟩
  clear a5 k5
  rintro m' vs h ⟨i,L,hi,rfl,rfl,k5,a5⟩
  have hn5:=k5.next;simp only [pwA,seval,-iQ0];refine iteI (fun hlt=>?_) fun hge=>?_
  rotate_left
  ·obtain⟨e1,e2,e3⟩:=a5.fin
   simp only [pwA,seval,-iQ0,a5.r3,e1,e2];refine e3.fin ((kH3.trans k5).set (by omega) _) (by omega) fun wO wP wC P C r1 r2=>hk wO wP wC O P C r1 ⟨by omega,hOb,?_⟩
   rw [hN];exact r2
  have hiN:O1.length+i<N:=by omega
  have hiN':((O1.length+i:Nat):Int)<(N:Int):=by omega
  have hiP:i<P2.length:=by omega
  have hiP':(i:Int)<(P2.length:Int):=by omega
  have hiC:i<C2.length:=by omega
  have hiC':(i:Int)<(C2.length:Int):=by omega
  have wi:IntKind.i64.wrap ((i:Int)+1)=((i+1:Nat):Int):=by rw [wrap64 (by omega) (by omega)];omega
  have wr0:IntKind.i64.wrap ((O1.length:Int)+(i:Int))=((O1.length+i:Nat):Int):=by rw [wrap64 (by omega) (by omega)];omega
  obtain⟨sP,capP,rfl,hbP,hlP,put⟩:=a5.putPx hiN;have nP1:¬sP=h.next:=by omega
  obtain⟨w4,a4,hr⟩:=hrP2.rowI hiP;have hrl:P2[i].length=O2.length:=h2.q.pq _ (List.getElem_mem hiP);simp only [pwA,seval,-iQ0,a5.r1,Y1 k5,wr0,hiP,hiP',hr];refine Zz (before:=O1.length) (behind:=0) ⟨w4,a4,rfl⟩ (by omega) (by omega) (by omega) fun cap2 ys hys hc2=>?_
  have hys':ys.length=N:=by omega
  obtain⟨ds,L',w,a6⟩:=put (xs:=ys) (cp:=cap2) hys' hc2;have r1:(h.new (pis ys)).rd1 (σ.next+3) 1=some (.sl sP 0 N capP):=(a5.new _).r1;have k6:Keep H3 ((h.new (pis ys)).set sP ds):=(k5.new _).set (by omega) _
  generalize h.new (pis ys)=g at *
  simp only [pwA,seval,-iQ0,r1,hiN,hiN',w,wr0,wi];generalize g.set sP ds=g6 at *
  clear w r1 hn5 hlP nP1 put k5 a5;obtain⟨w7,a7,rs7,hr7,hrs7⟩:=hrC2.rowL hiC;have hrw:=row2 i hiC;refine zG (fun m' vs h=>∃(j:Nat) (L:Nat→Nat),j≤C2[i].length∧m'=C2[i].length-j∧vs=[.ptr (σ.next+1) 0,.ptr (σ.next+2) 0,.int .i64 O1.length,.int .i64 O2.length,.ptr (σ.next+3) 0,.int .i64 i,.int .i64 j]∧Keep H3 h∧TB (σ.next+3) h (fun m=>m=N) O L N N (fun j=>N-1-j) (σ.next+2) (σ.next+3) uO (.sl sP 0 N capP) uC) C2[i].length ?_ ?_
  ·exact⟨0,L',Nat.zero_le _,rfl,rfl,k6,a6⟩
  clear k6 a6
  rintro m' vs h ⟨j,L,hj,rfl,rfl,k5,a5⟩
  have hn5:=k5.next;simp only [pwA,seval,-iQ0,Y2 k5,hiC,hiC',hr7];refine iteI (fun hlt2=>?_) fun hge2=>?_
  rotate_left
  ·simp only [pwA,seval,-iQ0,wi]
   exact⟨_,by omega,i+1,L,by omega,rfl,rfl,k5,a5⟩
  have hji:j<N-1-(O1.length+i):=by omega
  have hji':(j:Int)<((N-1-(O1.length+i):Nat):Int):=by omega
  have hjC':(j:Int)<(C2[i].length:Int):=by omega
  obtain⟨sC,capC,u,capu,rfl,q7,hbC,hlC,hbu,hlu,put⟩:=a5.putCx hiN hji;have nC1:¬sC=h.next:=by omega
  have nu1:¬u=h.next:=by omega
  obtain⟨w8,a8,hr8⟩:=hrs7.rowI hlt2;have hr8l:C2[i][j].length=O2.length:=h2.q.cq _ (List.getElem_mem hiC) _ (List.getElem_mem hlt2);simp only [pwA,seval,-iQ0,a5.r2,q7,hiN,hiN',wr0,Y2 k5,hiC,hiC',hr7,hlt2,hjC',hr8];refine Zz (before:=O1.length) (behind:=0) ⟨w8,a8,rfl⟩ (by omega) (by omega) (by omega) fun cap3 zs hzs hc3=>?_
  have hzs':zs.length=N:=by omega
  obtain⟨ds',L'',rC,w,a6⟩:=put (xs:=zs) (cp:=cap3) hzs' hc3;have r2:(h.new (pis zs)).rd1 (σ.next+3) 2=some (.sl sC 0 N capC):=(a5.new _).r2;have k6:Keep H3 ((h.new (pis zs)).set u ds'):=(k5.new _).set (by omega) _
  generalize h.new (pis zs)=g at *
  simp only [pwA,seval,-iQ0,r2,rC,hiN,hiN',hji,hji',w,wr0,wrapS hlt2 (by omega:C2[i].length≤4611686018427387904)]
  exact⟨_,by omega,j+1,L'',by omega,rfl,rfl,k6,a6⟩
 have hiN:i<N:=by omega
 have hiN':((i:Nat):Int)<(N:Int):=by omega
 have hiP:i<P1.length:=by omega
 have hiP':(i:Int)<(P1.length:Int):=by omega
 have hiC:i<C1.length:=by omega
 have hiC':(i:Int)<(C1.length:Int):=by omega
 have wi:IntKind.i64.wrap ((i:Int)+1)=((i+1:Nat):Int):=by rw [wrap64 (by omega) (by omega)];omega
 have wr0:IntKind.i64.wrap ((O1.length:Int)+(i:Int))=((O1.length+i:Nat):Int):=by rw [wrap64 (by omega) (by omega)];omega
 obtain⟨sP,capP,rfl,hbP,hlP,put⟩:=a5.putPx hiN;have nP1:¬sP=h.next:=by omega
 obtain⟨w4,a4,hr⟩:=hrP1.rowI hiP;have hrl:P1[i].length=O1.length:=h1.q.pq _ (List.getElem_mem hiP);simp only [pwA,seval,-iQ0,a5.r1,X1 k5,hiP,hiP',hr];refine Zz (before:=0) (behind:=O2.length) ⟨w4,a4,rfl⟩ (by omega) (by omega) (by omega) fun cap2 ys hys hc2=>?_
 have hys':ys.length=N:=by omega
 obtain⟨ds,L',w,a6⟩:=put (xs:=ys) (cp:=cap2) hys' hc2;have r1:(h.new (pis ys)).rd1 (σ.next+3) 1=some (.sl sP 0 N capP):=(a5.new _).r1;have k6:Keep H3 ((h.new (pis ys)).set sP ds):=(k5.new _).set (by omega) _
 generalize h.new (pis ys)=g at *
 simp only [pwA,seval,-iQ0,r1,hiN,hiN',w,wi];generalize g.set sP ds=g6 at *
 clear w r1 hn5 hlP nP1 put k5 a5;obtain⟨w7,a7,rs7,hr7,hrs7⟩:=hrC1.rowL hiC;have hrw:=row1 i hiC;refine zG (fun m' vs h=>∃(j:Nat) (L:Nat→Nat),j≤C1[i].length∧m'=C1[i].length-j∧vs=[.ptr σ.next 0,.ptr (σ.next+1) 0,.ptr (σ.next+2) 0,.int .i64 O1.length,.int .i64 O2.length,.ptr (σ.next+3) 0,.int .i64 i,.int .i64 j]∧Keep H3 h∧TB (σ.next+3) h (fun m=>m=N) O L N N (fun j=>N-1-j) (σ.next+2) (σ.next+3) uO (.sl sP 0 N capP) uC) C1[i].length ?_ ?_
 ·exact⟨0,L',Nat.zero_le _,rfl,rfl,k6,a6⟩
 clear k6 a6
 rintro m' vs h ⟨j,L,hj,rfl,rfl,k5,a5⟩
 have hn5:=k5.next;simp only [pwA,seval,-iQ0,X2 k5,hiC,hiC',hr7];refine iteI (fun hlt2=>?_) fun hge2=>?_
 rotate_left
 ·simp only [pwA,seval,-iQ0,wi]
  exact⟨_,by omega,i+1,L,by omega,rfl,rfl,k5,a5⟩
 have hji:j<N-1-(i):=by omega
 have hji':(j:Int)<((N-1-(i):Nat):Int):=by omega
 have hjC':(j:Int)<(C1[i].length:Int):=by omega
 obtain⟨sC,capC,u,capu,rfl,q7,hbC,hlC,hbu,hlu,put⟩:=a5.putCx hiN hji;have nC1:¬sC=h.next:=by omega
 have nu1:¬u=h.next:=by omega
 obtain⟨w8,a8,hr8⟩:=hrs7.rowI hlt2;have hr8l:C1[i][j].length=O1.length:=h1.q.cq _ (List.getElem_mem hiC) _ (List.getElem_mem hlt2);simp only [pwA,seval,-iQ0,a5.r2,q7,hiN,hiN',X2 k5,hiC,hiC',hr7,hlt2,hjC',hr8];refine Zz (before:=0) (behind:=O2.length) ⟨w8,a8,rfl⟩ (by omega) (by omega) (by omega) fun cap3 zs hzs hc3=>?_
 have hzs':zs.length=N:=by omega
 obtain⟨ds',L'',rC,w,a6⟩:=put (xs:=zs) (cp:=cap3) hzs' hc3;have r2:(h.new (pis zs)).rd1 (σ.next+3) 2=some (.sl sC 0 N capC):=(a5.new _).r2;have k6:Keep H3 ((h.new (pis zs)).set u ds'):=(k5.new _).set (by omega) _
 generalize h.new (pis zs)=g at *
 simp only [pwA,seval,-iQ0,r2,rC,hiN,hiN',hji,hji',w,wrapS hlt2 (by omega:C1[i].length≤4611686018427387904)]
 exact⟨_,by omega,j+1,L'',by omega,rfl,rfl,k6,a6⟩
end Go.Proofs
