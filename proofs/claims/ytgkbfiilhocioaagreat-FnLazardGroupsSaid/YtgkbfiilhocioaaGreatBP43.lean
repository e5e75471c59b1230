/- A list of bytes that a law is handed, laid as a frozen value. -/
import Derived.Test.YtgkbfiilhocioaaGreatBP42
import Derived.Test.YtgkbfiilhocioaaGreatBP32
import Derived.Test.YtgkbfiilhocioaaGreatBP29
import Derived.Test.YtgkbfiilhocioaaGreatBP41
import Derived.Test.YtgkbfiilhocioaaGreatBP31
import Derived.Test.YtgkbfiilhocioaaGreatBAbPz
import Derived.Test.YtgkbfiilhocioaaGreatBP28
import Derived.Test.YtgkbfiilhocioaaGreatBAbPn
import Derived.Test.YtgkbfiilhocioaaGreatBP34
open Int renaming reduceNatCast'→iQ0
set_option maxRecDepth 100000
set_option linter.unusedSimpArgs false
set_option linter.unusedVariables false
set_option linter.unusedSectionVars false
namespace Go.Proofs
open Go.Ab Go.Lie
variable {σ σ0 h h':PHeap} {K:PV→PHeap→Prop} {vC:PV} {bs:List Int} {s b n r0:Nat} {p:Int} {sP sB:Nat} {capP capB:Cap} {cs:List PV} {ls:List LS} {W:List (List Int)} {B:List (List (List Int))} {R:PV→List Int→Prop} {F F':List (List Int)→List (List (List Int))→Prop}
theorem zEm (so:So σ s vC bs)
  (hk:∀p n sP capP cs sB capB ls h W B,isP p→1≤n→ipow p n≤729→OkF p n W B→KM σ s h→So h s vC bs→RS FI FI σ.next h n sP capP cs sB capB ls W B→K (.agg [.int .i64 p,.sl sP 0 n capP,.sl sB 0 n capB]) h):
  zA Tryz.prog 304 [.ptr s 0] σ K:=by
 refine zA.pwf fun w=>?_
 have hsl:=so.lt;refine zA.gh ?_;generalize hT:σ.new [.int .i64 0,.fz true .nils 0 [],.fz true .nils 0 []]=T;have hTn:T.next=σ.next+1:=by rw [←hT];rfl
 have hkT:Keep σ T:=by rw [←hT];exact zD σ _
 have soT:So T s vC bs:=so.keep hkT;have hsT:s<T.next:=soT.lt;have obT:T.obj σ.next=some [.int .i64 0,.fz true .nils 0 [],.fz true .nils 0 []]:=by rw [←hT];simp only [pwA,seval,-iQ0]
 refine zN mix Tryz.func304 cf304 rfl ?_;dsimp only [if304,qI,eI,nI,qD,eD,mI0,kI0,lI0,LI0,fI0,xI0,bI0,cI0,C2,mD0,lD0,fD0,xD0,R0,S0];simp only [pwA,seval,-iQ0];rw [hT];refine qR soT (by decide) fun kd h1 hkd m1 so1=>?_
 have kd0:=hkd.1;have kd8:=hkd.lt (by decide)
 simp only [pwA,seval,-iQ0];refine qR so1 (by decide) fun x h2 hx m2 so2=>?_
 have x0:=hx.1;have x4:=hx.lt (by decide)
 have wx:IntKind.i64.wrap (1+x)=1+x:=wrap64 (by omega) (by omega)
 obtain⟨n,hn1,hn6,hnr,hnc⟩:∃n:Nat,1≤n∧n≤6∧([1+x,3,4,4,5,5,6,3]:List Int)[kd.toNat]? = some (n:Int)∧(kd=0∨(kd=1∧n=3)∨(kd=2∧n=4)∨(kd=3∧n=4)∨(kd=4∧n=5)∨(kd=5∧n=5)∨(kd=6∧n=6)∨(kd=7∧n=3)):=by
  have e:kd=0∨kd=1∨kd=2∨kd=3∨kd=4∨kd=5∨kd=6∨kd=7:=by omega
  rcases e with rfl|rfl|rfl|rfl|rfl|rfl|rfl|rfl
  ·exact⟨(1+x).toNat,by omega,by omega,by simp;omega,.inl rfl⟩
  ·exact⟨3,by omega,by omega,rfl,by simp⟩
  ·exact⟨4,by omega,by omega,rfl,by simp⟩
  ·exact⟨4,by omega,by omega,rfl,by simp⟩
  ·exact⟨5,by omega,by omega,rfl,by simp⟩
  ·exact⟨5,by omega,by omega,rfl,by simp⟩
  ·exact⟨6,by omega,by omega,rfl,by simp⟩
  ·exact⟨3,by omega,by omega,rfl,by simp⟩
 have hread:([PV.int .i64 (1+x),.int .i64 3,.int .i64 4,.int .i64 4,.int .i64 5,.int .i64 5,.int .i64 6,.int .i64 3]:List PV)[kd.toNat]? = some (.int .i64 (n:Int)):=by
  have:=congrArg (Option.map (PV.int .i64)) hnr
  rw [←List.getElem?_map]at this
  exact this
 have hkd8:0≤kd∧kd<((8:Nat):Int):=⟨kd0,kd8⟩;simp only [pwA,seval,-iQ0,wx,hread,hkd8];have so3:So (h2.new [PV.int .i64 (1+x),.int .i64 3,.int .i64 4,.int .i64 4,.int .i64 5,.int .i64 5,.int .i64 6,.int .i64 3]) s vC bs:=so2.keep (zD _ _);have km3:KM T s (h2.new [PV.int .i64 (1+x),.int .i64 3,.int .i64 4,.int .i64 4,.int .i64 5,.int .i64 5,.int .i64 6,.int .i64 3]):=((soT.km.mv hsT m1).mv hsT m2).new _;generalize h2.new [PV.int .i64 (1+x),.int .i64 3,.int .i64 4,.int .i64 4,.int .i64 5,.int .i64 5,.int .i64 6,.int .i64 3]=h3 at *
 clear hnr hread;refine zHH so3 hn6 fun p h4 hp hpow m4 so4=>?_
 have km4:=km3.mv hsT m4;have hpb:=hp.bd;have hp27:2≤p∧p≤7:=by omega
 simp only [pwA,seval,-iQ0];refine zEn hn1 hn6 fun sP capP cs sB capB ls h5 k5 rs5=>?_
 have so5:=so4.keep k5;have km5:=km4.keep k5;have h45:=k5.next;have h04:=km4.next;have wn1:IntKind.i64.wrap ((n:Int)-1)=((n-1:Nat):Int):=by rw [wrap64 (by omega) (by omega)];omega
 have okp0:okp p:=hpb;have gs:GS E0 FI (OkF p n) T (h5.new [.int .i64 p,.sl sP 0 n capP,.sl sB 0 n capB]) s vC bs h5.next p n sP capP sB capB:=
  ⟨km5.new _,so5.keep (zD _ _),hsT,by rw [zP,if_pos rfl],⟨by omega,Nat.lt_succ_self _⟩,⟨cs,ls,_,_,(rs5.low h04).new _,OkF.zero okp0 hn6,fun t ht e=>by have:=(rs5.lt ht).2;omega,fun u x e=>e.elim⟩,fun u x e=>e.elim⟩
 clear rs5;have fin:∀{g:PHeap},GS E0 FI (OkF p n) T g s vC bs h5.next p n sP capP sB capB→g.rd h5.next 0 3=some [.int .i64 p,.sl sP 0 n capP,.sl sB 0 n capB]∧g.wr σ.next 0 [.int .i64 p,.sl sP 0 n capP,.sl sB 0 n capB]=some (g.set σ.next [.int .i64 p,.sl sP 0 n capP,.sl sB 0 n capB])
   ∧(g.set σ.next [.int .i64 p,.sl sP 0 n capP,.sl sB 0 n capB]).rd σ.next 0 3=some [.int .i64 p,.sl sP 0 n capP,.sl sB 0 n capB]∧Gh σ K (.agg [.int .i64 p,.sl sP 0 n capP,.sl sB 0 n capB]) (g.set σ.next [.int .i64 p,.sl sP 0 n capP,.sl sB 0 n capB]):=fun {g} a=>by
  have hres:g.obj σ.next=some [.int .i64 0,.fz true .nils 0 [],.fz true .nils 0 []]:=by rw [a.km.obj (by omega) (by omega)];exact obT
  obtain⟨cs,ls,W,B,rs,f,ne,_⟩:=a.rs;refine⟨a.rd.1,by rw [zq hres,if_pos ⟨by simp,by rfl⟩];rfl,by rw [qo,if_pos rfl];rfl,Gh.ret (hk p n sP capP cs sB capB ls _ W B hp hn1 hpow f ?_ (a.so.set (by omega) _) ((rs.low (by omega)).move (fun t ht=>?_) (Nat.le_refl _)))⟩
  ·exact((so.kmK hkT).trans hsl a.km).set (Nat.le_refl _) _
  ·have:=(rs.lt ht).1
   rw [zH,if_neg (by omega)]
 have rowB:∀{W:List (List Int)} {B:List (List (List Int))} {i:Nat},OkF p n W B→i<n→(B.getD i []).length=n-1-i:=fun {W B i} q hi=>by
  have h1:i<B.length:=by rw [q.b.len];exact hi
  rw [zL h1];exact q.b.row i h1
 have hle:El p n (unitL n (n-1)):=zR okp0 (by omega)
 simp only [pwA,seval,-iQ0,wn1];refine QK (n:=n) (k:=n-1) rfl rfl rfl (by omega) (by omega) fun vl hlv=>?_
 generalize h5.new [PV.int .i64 p,.sl sP 0 n capP,.sl sB 0 n capB]=g5 at *
 generalize h5.next=r0 at *
 clear m1 m2 m4 so1 so2 so3 so4 so5 km3 km4 km5 k5 h45 h04;rcases hnc with rfl|⟨rfl,rfl⟩|⟨rfl,rfl⟩|⟨rfl,rfl⟩|⟨rfl,rfl⟩|⟨rfl,rfl⟩|⟨rfl,rfl⟩|⟨rfl,rfl⟩
 ·as_aux_lemma=>
  simp only [pwA,seval,-iQ0];refine zG (fun m us g=>∃i:Nat,i≤n∧m=n-i∧us=[.ptr s 0,.ptr σ.next 0,.int .i64 n,.ptr r0 0,.int .i64 i]∧GS E0 FI (OkF p n) T g s vC bs r0 p n sP capP sB capB) n ⟨0,by omega,by omega,rfl,gs⟩ ?_
  rintro m us g ⟨i,hi,rfl,rfl,a⟩
  simp only [pwA,seval,-iQ0];refine iteI (fun hlt=>?_) fun hge=>?_
  rotate_left
  ·obtain⟨e1,e2,e3,e4⟩:=fin a
   simp only [pwA,seval,-iQ0,e1,e2,e3];exact e4
  have hlt':i<n:=by omega
  have wi1:IntKind.i64.wrap ((i:Int)+1)=((i+1:Nat):Int):=wrapS hlt' (by omega)
  obtain⟨f3,f0,f1,f2⟩:=a.rd;simp only [pwA,seval,-iQ0,f3,f1,wi1];refine zX (vP:=.sl sP 0 n capP) (vB:=.sl sB 0 n capB) (n:=n) (k:=i+1) a.so hp27 rfl rfl rfl (by omega) (by omega) fun v x k hx hz hv m so=>?_
  have gt:=a.mv m so;obtain⟨p3,p0,p1,p2⟩:=gt.rd;obtain⟨h9,w9,gs9⟩:=gt.putP (F':=OkF p n) (i:=i) (w:=x) hlt' hv (fun W B q=>q.setP hx (fun j hj=>hz j (by omega)))
  simp only [pwA,seval,-iQ0,p1,w9,hv.cells,hlt',wi1];exact⟨_,by omega,i+1,by omega,rfl,rfl,gs9⟩
 ·as_aux_lemma=>
  simp only [pwA,seval,-iQ0];obtain⟨f3_1,f0_1,f1_1,f2_1⟩:=gs.rd;obtain⟨t_1,c_1,rB_1⟩:=gs.rdB (i:=0) (by omega) (fun W B q=>rowB q (by omega))
  obtain⟨h_1,w_1,gs_1,_⟩:=gs.putB (F':=OkF p 3) (i:=0) (k:=0) (by omega) rB_1 (by omega) (fun _ _ h=>h) hlv hlv.one (fun W B _ q=>q.setB (by omega) hle (fun j hj=>by rw [qK (by omega),if_neg (by omega)]))
  simp only [pwA,seval,-iQ0,f2_1,rB_1,w_1,natlt,hlv.cells];obtain⟨f3_2,f0_2,f1_2,f2_2⟩:=gs_1.rd;simp only [pwA,seval,-iQ0,f3_2,f1_2,natlt];refine zX (vP:=.sl sP 0 3 capP) (vB:=.sl sB 0 3 capB) (n:=3) (k:=2) gs_1.so hp27 rfl rfl rfl (by omega) (by omega) fun v_2 x_2 k_2 hx_2 hz_2 hv_2 m_2 so_2=>?_
  have gt_2:=gs_1.mv m_2 so_2;obtain⟨p3_2,p0_2,p1_2,p2_2⟩:=gt_2.rd;obtain⟨h_2,w_2,gs_2⟩:=gt_2.putP (F':=OkF p 3) (i:=0) (w:=x_2) (by omega) hv_2 (fun W B q=>q.setP hx_2 (fun j hj=>hz_2 j (by omega)))
  simp only [pwA,seval,-iQ0,p1_2,w_2,natlt,hv_2.cells];obtain⟨f3_3,f0_3,f1_3,f2_3⟩:=gs_2.rd;simp only [pwA,seval,-iQ0,f3_3,f1_3,natlt];refine zX (vP:=.sl sP 0 3 capP) (vB:=.sl sB 0 3 capB) (n:=3) (k:=2) gs_2.so hp27 rfl rfl rfl (by omega) (by omega) fun v_3 x_3 k_3 hx_3 hz_3 hv_3 m_3 so_3=>?_
  have gt_3:=gs_2.mv m_3 so_3;obtain⟨p3_3,p0_3,p1_3,p2_3⟩:=gt_3.rd;obtain⟨h_3,w_3,gs_3⟩:=gt_3.putP (F':=OkF p 3) (i:=1) (w:=x_3) (by omega) hv_3 (fun W B q=>q.setP hx_3 (fun j hj=>hz_3 j (by omega)))
  simp only [pwA,seval,-iQ0,p1_3,w_3,natlt,hv_3.cells];obtain⟨e1,e2,e3,e4⟩:=fin gs_3;simp only [pwA,seval,-iQ0,e1,e2,e3];exact e4
 ·as_aux_lemma=>
  simp only [pwA,seval,-iQ0];obtain⟨f3,f0,f1,f2⟩:=gs.rd;obtain⟨t,c,rB⟩:=gs.rdB (i:=0) (by omega) (fun W B q=>rowB q (by omega))
  have hsB:=gs.sBb;simp only [pwA,seval,-iQ0,f3,f2,rB,natlt];refine zEk (vP:=.sl sP 0 4 capP) (vB:=.sl sB 0 4 capB) (n:=4) (k:=2) gs.so hp27 rfl rfl rfl (by omega) (by omega) fun x k cap hx hz hcap m soK=>?_
  have gt:=(gs.mv m soK).newE (t:=g5.next) (x:=x) m.next.symm;obtain⟨p3,p0,p1,p2⟩:=gt.rd;have rB':(k.new (pis x)).rd1 sB 0=some (.sl t 0 (4-1-0) c):=by rw [zGt,if_neg (by rw [m.next];omega),m.rd1 (by omega)];exact rB
  have hxl:=hx.1;have hX:El p 4 (x.set 2 1):=⟨by rw [List.length_set];exact hxl,fun z hzz=>by
   rcases List.mem_or_eq_of_mem_set hzz with e|e
   ·exact hx.2 z e
   ·omega⟩
  have hXl:=hX.1;obtain⟨h_1,w_1,gs_1,q1,q2⟩:=gt.putB (R':=FI2 g5.next 4 cap (x.set 2 1)) (F':=OkF p 4) (i:=0) (k:=0) (w:=x.set 2 1) (v:=.sl g5.next 0 4 cap) (by omega) rB' (by omega) (fun _ _ h=>.inl h) (.inr ⟨rfl,rfl⟩) rfl (fun W B _ q=>q.setB (by omega) hX (fun j hj=>by rw [at_set (by omega),if_neg (by omega)];exact hz j (by omega)))
  generalize g5.next=t0 at *
  generalize k.new (pis x)=g6 at *
  simp only [pwA,seval,-iQ0,p2,rB',natlt,w_1];clear f3 f0 f1 f2 rB p3 p0 p1 p2 rB' w_1;obtain⟨f3,f0,f1,f2⟩:=gs_1.rd;obtain⟨h_2,w_2,gs_2⟩:=gs_1.setE (i:=2) (y:=1) (by omega)
  simp only [pwA,seval,-iQ0,f2,q1,q2,natlt,w_2];clear f3 f0 f1 f2 q1 q2 w_2;obtain⟨f3,f0,f1,f2⟩:=gs_2.rd;obtain⟨t3,c3,rB⟩:=gs_2.rdB (i:=0) (by omega) (fun W B q=>rowB q (by omega))
  obtain⟨h_3,w_3,gs_3,_⟩:=gs_2.putB (R':=FI2 t0 4 cap (x.set 2 1)) (F':=OkF p 4) (i:=0) (k:=1) (by omega) rB (by omega) (fun _ _ h=>h) (.inl hlv) hlv.one (fun W B _ q=>q.setB (by omega) hle (fun j hj=>by rw [qK (by omega),if_neg (by omega)]))
  simp only [pwA,seval,-iQ0,f2,rB,w_3,natlt,hlv.cells];clear f3 f0 f1 f2 rB w_3;obtain⟨f3,f0,f1,f2⟩:=gs_3.rd;simp only [pwA,seval,-iQ0,f3,f1,natlt];refine zX (vP:=.sl sP 0 4 capP) (vB:=.sl sB 0 4 capB) (n:=4) (k:=3) gs_3.so hp27 rfl rfl rfl (by omega) (by omega) fun v4 x4 k4 hx4 hz4 hv4 m4 so4=>?_
  have gt4:=gs_3.mv m4 so4;obtain⟨p3,p0,p1,p2⟩:=gt4.rd;obtain⟨h_4,w_4,gs_4⟩:=gt4.putP (F':=OkF p 4) (i:=0) (w:=x4) (by omega) hv4 (fun W B q=>q.setP hx4 (fun j hj=>hz4 j (by omega)))
  simp only [pwA,seval,-iQ0,p1,w_4,natlt,hv4.cells];clear f3 f0 f1 f2 p3 p0 p1 p2 w_4;obtain⟨f3,f0,f1,f2⟩:=gs_4.rd;simp only [pwA,seval,-iQ0,f3,f1,natlt];refine zX (vP:=.sl sP 0 4 capP) (vB:=.sl sB 0 4 capB) (n:=4) (k:=3) gs_4.so hp27 rfl rfl rfl (by omega) (by omega) fun v5 x5 k5 hx5 hz5 hv5 m5 so5=>?_
  have gt5:=gs_4.mv m5 so5;obtain⟨p3,p0,p1,p2⟩:=gt5.rd;obtain⟨h_5,w_5,a⟩:=gt5.putP (F':=OkF p 4) (i:=1) (w:=x5) (by omega) hv5 (fun W B q=>q.setP hx5 (fun j hj=>hz5 j (by omega)))
  have hres:h_5.obj σ.next=some [.int .i64 0,.fz true .nils 0 [],.fz true .nils 0 []]:=by rw [a.km.obj (by omega) (by omega)];exact obT
  have u1:h_5.wr σ.next 0 [.int .i64 p,.sl sP 0 4 capP,.sl sB 0 4 capB]=some (h_5.set σ.next [.int .i64 p,.sl sP 0 4 capP,.sl sB 0 4 capB]):=by rw [zq hres,if_pos ⟨by simp,by rfl⟩];rfl
  have u2:(h_5.set σ.next [.int .i64 p,.sl sP 0 4 capP,.sl sB 0 4 capB]).rd σ.next 0 3=some [.int .i64 p,.sl sP 0 4 capP,.sl sB 0 4 capB]:=by rw [qo,if_pos rfl];rfl
  obtain⟨y3,y0,y1,y2⟩:=a.rd;simp only [pwA,seval,-iQ0,p1,w_5,natlt,hv5.cells,y3,u1,u2];obtain⟨cs,ls,W,B,rs,f,ne,nx⟩:=a.rs;obtain⟨z1,z2,z3,z4⟩:=a.ex t0 _ ⟨rfl,rfl⟩;have nx':=nx t0 _ ⟨rfl,rfl⟩;have rs6:RS FI (FI2 t0 4 cap (x.set 2 1)) T.next (h_5.set σ.next [.int .i64 p,.sl sP 0 4 capP,.sl sB 0 4 capB]) 4 sP capP cs sB capB ls W B:=rs.move (fun t ht=>by
   have:=(rs.lt ht).1
   rw [zH,if_neg (by omega)]) (Nat.le_refl _)
  have km6:KM σ s (h_5.set σ.next [.int .i64 p,.sl sP 0 4 capP,.sl sB 0 4 capB]):=((so.kmK hkT).trans hsl a.km).set (Nat.le_refl _) _;have so6:So (h_5.set σ.next [.int .i64 p,.sl sP 0 4 capP,.sl sB 0 4 capB]) s vC bs:=a.so.set (by omega) _
  refine Gh.freezeH (s:=t0) (cs:=pis (x.set 2 1)) (by rw [zH,if_neg (by omega)];exact z1) (by omega) (zM _ _) fun o1 g1 g2 g3=>?_
  have n1:sP≠t0:=Ne.symm (nx' _ (.inl rfl));have n2:sB≠t0:=Ne.symm (nx' _ (.inr (.inl rfl)));have rs7:=rs6.fzh (RP':=FI) (R':=FI) (t:=t0) (o:=o1) (xs:=pis (x.set 2 1)) ⟨nx' _ (.inl rfl),nx' _ (.inr (.inl rfl)),fun q hq=>Ne.symm (nx' _ (.inr (.inr ⟨q,hq,rfl⟩)))⟩ (fun v w hv=>by rw [hv.sb];exact hv) (fun v w hv=>by
   rcases hv with e|⟨e,e2⟩
   ·rw [e.sb];exact e
   ·rw [e,e2]
    simp only [sb,hcap.ok,and_self,if_true];exact⟨true,_,by rw [hXl]⟩)
  simp only [sb,sbs,n1,n2,false_and,if_false];exact Gh.ret (hk p 4 sP capP _ sB capB _ _ W B hp (by omega) hpow f (km6.fr w (by omega) (by show _≤max _ _;omega)) (so6.fr (by omega)) ((rs7.low (by omega)).move (fun _ _=>rfl) (Nat.le_refl _)))
 ·as_aux_lemma=>
  simp only [pwA,seval,-iQ0];obtain⟨f3_4,f0_4,f1_4,f2_4⟩:=gs.rd;obtain⟨t_4,c_4,rB_4⟩:=gs.rdB (i:=0) (by omega) (fun W B q=>rowB q (by omega))
  obtain⟨h_4,w_4,gs_4,_⟩:=gs.putB (F':=OkF p 4) (i:=0) (k:=0) (by omega) rB_4 (by omega) (fun _ _ h=>h) hlv hlv.one (fun W B _ q=>q.setB (by omega) hle (fun j hj=>by rw [qK (by omega),if_neg (by omega)]))
  simp only [pwA,seval,-iQ0,f2_4,rB_4,w_4,natlt,hlv.cells];obtain⟨f3_5,f0_5,f1_5,f2_5⟩:=gs_4.rd;simp only [pwA,seval,-iQ0,f3_5,f1_5,natlt];refine zX (vP:=.sl sP 0 4 capP) (vB:=.sl sB 0 4 capB) (n:=4) (k:=2) gs_4.so hp27 rfl rfl rfl (by omega) (by omega) fun v_5 x_5 k_5 hx_5 hz_5 hv_5 m_5 so_5=>?_
  have gt_5:=gs_4.mv m_5 so_5;obtain⟨p3_5,p0_5,p1_5,p2_5⟩:=gt_5.rd;obtain⟨h_5,w_5,gs_5⟩:=gt_5.putP (F':=OkF p 4) (i:=0) (w:=x_5) (by omega) hv_5 (fun W B q=>q.setP hx_5 (fun j hj=>hz_5 j (by omega)))
  simp only [pwA,seval,-iQ0,p1_5,w_5,natlt,hv_5.cells];obtain⟨f3_6,f0_6,f1_6,f2_6⟩:=gs_5.rd;simp only [pwA,seval,-iQ0,f3_6,f1_6,natlt];refine zX (vP:=.sl sP 0 4 capP) (vB:=.sl sB 0 4 capB) (n:=4) (k:=2) gs_5.so hp27 rfl rfl rfl (by omega) (by omega) fun v_6 x_6 k_6 hx_6 hz_6 hv_6 m_6 so_6=>?_
  have gt_6:=gs_5.mv m_6 so_6;obtain⟨p3_6,p0_6,p1_6,p2_6⟩:=gt_6.rd;obtain⟨h_6,w_6,gs_6⟩:=gt_6.putP (F':=OkF p 4) (i:=1) (w:=x_6) (by omega) hv_6 (fun W B q=>q.setP hx_6 (fun j hj=>hz_6 j (by omega)))
  simp only [pwA,seval,-iQ0,p1_6,w_6,natlt,hv_6.cells];obtain⟨f3_7,f0_7,f1_7,f2_7⟩:=gs_6.rd;simp only [pwA,seval,-iQ0,f3_7,f1_7,natlt];refine zX (vP:=.sl sP 0 4 capP) (vB:=.sl sB 0 4 capB) (n:=4) (k:=3) gs_6.so hp27 rfl rfl rfl (by omega) (by omega) fun v_7 x_7 k_7 hx_7 hz_7 hv_7 m_7 so_7=>?_
  have gt_7:=gs_6.mv m_7 so_7;obtain⟨p3_7,p0_7,p1_7,p2_7⟩:=gt_7.rd;obtain⟨h_7,w_7,gs_7⟩:=gt_7.putP (F':=OkF p 4) (i:=2) (w:=x_7) (by omega) hv_7 (fun W B q=>q.setP hx_7 (fun j hj=>hz_7 j (by omega)))
  simp only [pwA,seval,-iQ0,p1_7,w_7,natlt,hv_7.cells];obtain⟨e1,e2,e3,e4⟩:=fin gs_7;simp only [pwA,seval,-iQ0,e1,e2,e3];exact e4
 ·as_aux_lemma=>
  simp only [pwA,seval,-iQ0];obtain⟨f3_8,f0_8,f1_8,f2_8⟩:=gs.rd;obtain⟨t_8,c_8,rB_8⟩:=gs.rdB (i:=0) (by omega) (fun W B q=>rowB q (by omega))
  obtain⟨h_8,w_8,gs_8,_⟩:=gs.putB (F':=OkF p 5) (i:=0) (k:=0) (by omega) rB_8 (by omega) (fun _ _ h=>h) hlv hlv.one (fun W B _ q=>q.setB (by omega) hle (fun j hj=>by rw [qK (by omega),if_neg (by omega)]))
  simp only [pwA,seval,-iQ0,f2_8,rB_8,w_8,natlt,hlv.cells];obtain⟨f3_9,f0_9,f1_9,f2_9⟩:=gs_8.rd;obtain⟨t_9,c_9,rB_9⟩:=gs_8.rdB (i:=2) (by omega) (fun W B q=>rowB q (by omega))
  simp only [pwA,seval,-iQ0,f2_9,rB_9,natlt];refine ownFI hlv (by rw [z8];omega) fun v_9 hv_9=>?_
  obtain⟨h_9,w_9,gs_9,_⟩:=gs_8.putB (F':=OkF p 5) (i:=2) (k:=0) (by omega) rB_9 (by omega) (fun _ _ h=>h) hv_9 hv_9.one (fun W B _ q=>q.setB (by omega) hle (fun j hj=>by rw [qK (by omega),if_neg (by omega)]))
  simp only [pwA,seval,-iQ0,f2_9,rB_9,w_9,natlt,hv_9.cells];obtain⟨f3_10,f0_10,f1_10,f2_10⟩:=gs_9.rd;simp only [pwA,seval,-iQ0,f3_10,f1_10,natlt];refine zX (vP:=.sl sP 0 5 capP) (vB:=.sl sB 0 5 capB) (n:=5) (k:=4) gs_9.so hp27 rfl rfl rfl (by omega) (by omega) fun v_10 x_10 k_10 hx_10 hz_10 hv_10 m_10 so_10=>?_
  have gt_10:=gs_9.mv m_10 so_10;obtain⟨p3_10,p0_10,p1_10,p2_10⟩:=gt_10.rd;obtain⟨h_10,w_10,gs_10⟩:=gt_10.putP (F':=OkF p 5) (i:=0) (w:=x_10) (by omega) hv_10 (fun W B q=>q.setP hx_10 (fun j hj=>hz_10 j (by omega)))
  simp only [pwA,seval,-iQ0,p1_10,w_10,natlt,hv_10.cells];obtain⟨e1,e2,e3,e4⟩:=fin gs_10;simp only [pwA,seval,-iQ0,e1,e2,e3];exact e4
 ·as_aux_lemma=>
  simp only [pwA,seval,-iQ0];obtain⟨f3_11,f0_11,f1_11,f2_11⟩:=gs.rd;obtain⟨t_11,c_11,rB_11⟩:=gs.rdB (i:=0) (by omega) (fun W B q=>rowB q (by omega))
  simp only [pwA,seval,-iQ0,f3_11,f2_11,rB_11,natlt];refine QK (vP:=.sl sP 0 5 capP) (vB:=.sl sB 0 5 capB) (n:=5) (k:=3) rfl rfl rfl (by omega) (by omega) fun v_11 hv_11=>?_
  obtain⟨h_11,w_11,gs_11,_⟩:=gs.putB (F':=OkF p 5) (i:=0) (k:=0) (by omega) rB_11 (by omega) (fun _ _ h=>h) hv_11 hv_11.one (fun W B _ q=>q.setB (by omega) (zR q.w.pr (by omega)) (fun j hj=>by rw [qK (by omega),if_neg (by omega)]))
  simp only [pwA,seval,-iQ0,f2_11,rB_11,w_11,natlt,hv_11.cells];obtain⟨f3_12,f0_12,f1_12,f2_12⟩:=gs_11.rd;obtain⟨t_12,c_12,rB_12⟩:=gs_11.rdB (i:=0) (by omega) (fun W B q=>rowB q (by omega))
  obtain⟨h_12,w_12,gs_12,_⟩:=gs_11.putB (F':=OkF p 5) (i:=0) (k:=1) (by omega) rB_12 (by omega) (fun _ _ h=>h) hlv hlv.one (fun W B _ q=>q.setB (by omega) hle (fun j hj=>by rw [qK (by omega),if_neg (by omega)]))
  simp only [pwA,seval,-iQ0,f2_12,rB_12,w_12,natlt,hlv.cells];obtain⟨f3_13,f0_13,f1_13,f2_13⟩:=gs_12.rd;simp only [pwA,seval,-iQ0,f3_13,f1_13,natlt];refine zX (vP:=.sl sP 0 5 capP) (vB:=.sl sB 0 5 capB) (n:=5) (k:=3) gs_12.so hp27 rfl rfl rfl (by omega) (by omega) fun v_13 x_13 k_13 hx_13 hz_13 hv_13 m_13 so_13=>?_
  have gt_13:=gs_12.mv m_13 so_13;obtain⟨p3_13,p0_13,p1_13,p2_13⟩:=gt_13.rd;obtain⟨h_13,w_13,gs_13⟩:=gt_13.putP (F':=OkF p 5) (i:=1) (w:=x_13) (by omega) hv_13 (fun W B q=>q.setP hx_13 (fun j hj=>hz_13 j (by omega)))
  simp only [pwA,seval,-iQ0,p1_13,w_13,natlt,hv_13.cells];obtain⟨f3_14,f0_14,f1_14,f2_14⟩:=gs_13.rd;simp only [pwA,seval,-iQ0,f3_14,f1_14,natlt];refine zX (vP:=.sl sP 0 5 capP) (vB:=.sl sB 0 5 capB) (n:=5) (k:=3) gs_13.so hp27 rfl rfl rfl (by omega) (by omega) fun v_14 x_14 k_14 hx_14 hz_14 hv_14 m_14 so_14=>?_
  have gt_14:=gs_13.mv m_14 so_14;obtain⟨p3_14,p0_14,p1_14,p2_14⟩:=gt_14.rd;obtain⟨h_14,w_14,gs_14⟩:=gt_14.putP (F':=OkF p 5) (i:=0) (w:=x_14) (by omega) hv_14 (fun W B q=>q.setP hx_14 (fun j hj=>hz_14 j (by omega)))
  simp only [pwA,seval,-iQ0,p1_14,w_14,natlt,hv_14.cells];obtain⟨e1,e2,e3,e4⟩:=fin gs_14;simp only [pwA,seval,-iQ0,e1,e2,e3];exact e4
 ·as_aux_lemma=>
  simp only [pwA,seval,-iQ0];obtain⟨f3_15,f0_15,f1_15,f2_15⟩:=gs.rd;obtain⟨t_15,c_15,rB_15⟩:=gs.rdB (i:=0) (by omega) (fun W B q=>rowB q (by omega))
  simp only [pwA,seval,-iQ0,f3_15,f2_15,rB_15,natlt];refine QK (vP:=.sl sP 0 6 capP) (vB:=.sl sB 0 6 capB) (n:=6) (k:=3) rfl rfl rfl (by omega) (by omega) fun v_15 hv_15=>?_
  obtain⟨h_15,w_15,gs_15,_⟩:=gs.putB (F':=OkF p 6) (i:=0) (k:=0) (by omega) rB_15 (by omega) (fun _ _ h=>h) hv_15 hv_15.one (fun W B _ q=>q.setB (by omega) (zR q.w.pr (by omega)) (fun j hj=>by rw [qK (by omega),if_neg (by omega)]))
  simp only [pwA,seval,-iQ0,f2_15,rB_15,w_15,natlt,hv_15.cells];obtain⟨f3_16,f0_16,f1_16,f2_16⟩:=gs_15.rd;obtain⟨t_16,c_16,rB_16⟩:=gs_15.rdB (i:=0) (by omega) (fun W B q=>rowB q (by omega))
  simp only [pwA,seval,-iQ0,f3_16,f2_16,rB_16,natlt];refine QK (vP:=.sl sP 0 6 capP) (vB:=.sl sB 0 6 capB) (n:=6) (k:=4) rfl rfl rfl (by omega) (by omega) fun v_16 hv_16=>?_
  obtain⟨h_16,w_16,gs_16,_⟩:=gs_15.putB (F':=OkF p 6) (i:=0) (k:=1) (by omega) rB_16 (by omega) (fun _ _ h=>h) hv_16 hv_16.one (fun W B _ q=>q.setB (by omega) (zR q.w.pr (by omega)) (fun j hj=>by rw [qK (by omega),if_neg (by omega)]))
  simp only [pwA,seval,-iQ0,f2_16,rB_16,w_16,natlt,hv_16.cells];obtain⟨f3_17,f0_17,f1_17,f2_17⟩:=gs_16.rd;obtain⟨t_17,c_17,rB_17⟩:=gs_16.rdB (i:=1) (by omega) (fun W B q=>rowB q (by omega))
  obtain⟨h_17,w_17,gs_17,_⟩:=gs_16.putB (F':=OkF p 6) (i:=1) (k:=0) (by omega) rB_17 (by omega) (fun _ _ h=>h) hlv hlv.one (fun W B _ q=>q.setB (by omega) hle (fun j hj=>by rw [qK (by omega),if_neg (by omega)]))
  simp only [pwA,seval,-iQ0,f2_17,rB_17,w_17,natlt,hlv.cells];obtain⟨e1,e2,e3,e4⟩:=fin gs_17;simp only [pwA,seval,-iQ0,e1,e2,e3];exact e4
 ·as_aux_lemma=>
  simp only [pwA,seval,-iQ0];obtain⟨f3_18,f0_18,f1_18,f2_18⟩:=gs.rd;obtain⟨t_18,c_18,rB_18⟩:=gs.rdB (i:=0) (by omega) (fun W B q=>rowB q (by omega))
  obtain⟨h_18,w_18,gs_18,_⟩:=gs.putB (F':=OkF p 3) (i:=0) (k:=0) (by omega) rB_18 (by omega) (fun _ _ h=>h) hlv hlv.one (fun W B _ q=>q.setB (by omega) hle (fun j hj=>by rw [qK (by omega),if_neg (by omega)]))
  simp only [pwA,seval,-iQ0,f2_18,rB_18,w_18,natlt,hlv.cells];obtain⟨f3_19,f0_19,f1_19,f2_19⟩:=gs_18.rd;simp only [pwA,seval,-iQ0,f3_19,f1_19,natlt];refine zX (vP:=.sl sP 0 3 capP) (vB:=.sl sB 0 3 capB) (n:=3) (k:=2) gs_18.so hp27 rfl rfl rfl (by omega) (by omega) fun v_19 x_19 k_19 hx_19 hz_19 hv_19 m_19 so_19=>?_
  have gt_19:=gs_18.mv m_19 so_19;obtain⟨p3_19,p0_19,p1_19,p2_19⟩:=gt_19.rd;obtain⟨h_19,w_19,gs_19⟩:=gt_19.putP (F':=OkF p 3) (i:=0) (w:=x_19) (by omega) hv_19 (fun W B q=>q.setP hx_19 (fun j hj=>hz_19 j (by omega)))
  simp only [pwA,seval,-iQ0,p1_19,w_19,natlt,hv_19.cells];obtain⟨f3_20,f0_20,f1_20,f2_20⟩:=gs_19.rd;simp only [pwA,seval,-iQ0,f3_20,f1_20,natlt];refine zX (vP:=.sl sP 0 3 capP) (vB:=.sl sB 0 3 capB) (n:=3) (k:=2) gs_19.so hp27 rfl rfl rfl (by omega) (by omega) fun v_20 x_20 k_20 hx_20 hz_20 hv_20 m_20 so_20=>?_
  have gt_20:=gs_19.mv m_20 so_20;obtain⟨p3_20,p0_20,p1_20,p2_20⟩:=gt_20.rd;obtain⟨h_20,w_20,gs_20⟩:=gt_20.putP (F':=OkF p 3) (i:=1) (w:=x_20) (by omega) hv_20 (fun W B q=>q.setP hx_20 (fun j hj=>hz_20 j (by omega)))
  simp only [pwA,seval,-iQ0,p1_20,w_20,natlt,hv_20.cells];obtain⟨e1,e2,e3,e4⟩:=fin gs_20;simp only [pwA,seval,-iQ0,e1,e2,e3];exact e4
end Go.Proofs
namespace Go.Proofs
open Go.Ab Go.Lie
variable {σ σ0 h h':PHeap} {K:PV→PHeap→Prop} {vC vP vB:PV} {bs:List Int} {s b n r0:Nat} {p:Int} {W:List (List Int)} {B:List (List (List Int))}
theorem zCS {b e m:Nat} {v:PV} {cs:List PV} (a:PSl b e h v m cs) (hs:s<b) (mv:Mv h s h'):PSl b e h' v m cs:=Q5 a (fun t off l c e=>mv.obj (by
 obtain⟨s',cap,rfl,_,_,_,h4,_⟩:=a;cases e;omega)) (by rw [mv.next];exact Nat.le_refl _)
theorem zJF {T h:PHeap} {bytes n:Nat} {v x:PV} {cs:List PV} {K:PV×PHeap→Prop} (so:So h s vC bs) (hs:s<T.next) (km:KM T s h) (a:PSl T.next 1 h v n cs)
  (h1:(n+1)*bytes≤140737488355328) (h2:n+1≤4611686018427387904) (k:∀v' h',KM T s h'→So h' s vC bs→PSl T.next 1 h' v' (n+1) (cs++[x])→K (v',h')):optK (qH 1 bytes (h.new [x]) v (.sl h.next 0 1 (.known 1))) K:=by
 obtain⟨σ',m,q⟩:=km;have hn:=m.next;have so':So σ' s vC bs:=by
  obtain⟨a0,sd0,S⟩:=so;exact⟨a0,sd0,by rw [←q.obj s (by omega)];exact S.obj,by omega,S.fb,S.byt,S.le,S.sd⟩
 refine PSl.push (σb:=σ') (bytes:=bytes) q (by rw [hn];exact a) h1 h2 fun v' h' k1 k2=>k v' h' ⟨σ',m,k1⟩ (so'.keep k1) (by rw [←hn];exact k2)
structure ElI (T h:PHeap) (s:Nat) (vC:PV) (bs:List Int) (v:PV) (x:List Int):Prop where
 km:KM T s h
 so:So h s vC bs
 ps:PSl T.next 1 h v x.length (pis x)
theorem zGK (so:So σ s vC bs) (hR:IsR vP vB W B) (hp:-4611686018427387904≤p∧p≤4611686018427387904) (hl:W.length≤1048576)
  (hk:∀x h cap,full 1 cap x.length→x.length≤W.length+1→Mv σ s h→So h s vC bs→K (.sl σ.next 0 x.length cap) (h.new (pis x))):zA Tryz.prog 210 [.ptr s 0,.agg [.int .i64 p,vP,vB]] σ K:=by
 have g1:=hR.P.one;have g2:=hR.B.one;obtain⟨⟨wp,ap,rp,rfl,hrp⟩,hB⟩:=hR;have hsl:=so.lt;refine zA.gh ?_;generalize hT:σ.new [.int .i64 p,.fz wp ap W.length rp,vB]=T;have hTn:T.next=σ.next+1:=by rw [←hT];rfl
 have hkT:Keep σ T:=by rw [←hT];exact zD σ _
 have soT:So T s vC bs:=so.keep hkT;have hsT:s<T.next:=soT.lt;have obT:T.obj σ.next=some [.int .i64 p,.fz wp ap W.length rp,vB]:=by rw [←hT];simp only [pwA,seval,-iQ0]
 have rdT:∀{g:PHeap},KM T s g→g.rd1 σ.next 0=some (.int .i64 p)∧g.rd1 σ.next 1=some (.fz wp ap W.length rp):=fun {g} k=>by
  have ob:=k.obj (t:=σ.next) (by omega) (by omega)
  rw [obT]at ob
  exact⟨by rw [zI ob];rfl,by rw [zI ob];rfl⟩
 have fin:∀{g v x},ElI T g s vC bs v x→x.length≤W.length+1→Gh σ K v g:=fun {g v x} a hx=>by
  refine Gh.km ((so.kmK hkT).trans hsl a.km) a.so hsl fun σ' m' so' kp=>?_
  obtain⟨t,cap,rfl,hc,q2,q3,q4,q5⟩:=a.ps;refine Gh.finS (s:=t) kp q2 (by rw [m'.next];omega) (zM _ _) ?_
  rw [m'.next];exact hk x σ' cap hc hx m' so'
 refine zC mix Tryz.func210 ?_
 conv=>arg 2;cbv
 refine zF rfl ?_;simp only [pwA,seval,-iQ0,g1,g2];rw [hT];refine zG (fun m us h=>∃(i:Nat) (v:PV) (x:List Int),i≤W.length∧m=W.length-i∧us=[.ptr s 0,.ptr σ.next 0,v,.int .i64 i]∧x.length=i∧ElI T h s vC bs v x) W.length ⟨0,.sl T.next 0 0 (.known 0),[],by omega,by omega,by first | (rw [hTn];rfl) | rfl,rfl,⟨soT.kmK (zD _ _),soT.keep (zD _ _),PSl.new _ 1 rfl (Nat.le_refl _)⟩⟩ ?_
 rintro m us h ⟨i,v,x,hi,rfl,rfl,hx,a⟩
 obtain⟨r0_,r1_⟩:=rdT a.km;simp only [pwA,seval,-iQ0,r1_];refine iteI (fun hlt=>?_) fun hge=>?_
 ·have hlt':i<W.length:=by omega
  have wi1:IntKind.i64.wrap ((i:Int)+1)=((i+1:Nat):Int):=wrapS hlt' (by omega)
  simp only [pwA,seval,-iQ0,r0_];refine qR a.so (by omega) fun y h3 hy m3 so3=>?_
  simp only [pwA,seval,-iQ0];refine zJF (bytes:=8) so3 hsT (a.km.mv hsT m3) (zCS a.ps hsT m3) (by omega) (by omega) fun v' h4 k4 so4 p4=>?_
  simp only [pwA,seval,-iQ0,wi1];exact⟨_,by omega,i+1,v',x++[y],by omega,rfl,rfl,by simp;omega,k4,so4,by rw [←Qm,List.length_append];exact p4⟩
 have hie:i=W.length:=by omega
 simp only [pwA,seval,-iQ0];refine qR a.so (by decide) fun y h3 hy m3 so3=>?_
 have a3:ElI T h3 s vC bs v x:=⟨a.km.mv hsT m3,so3,zCS a.ps hsT m3⟩
 by_cases hy0:y=0
 ·have hy0':y=0:=hy0
  simp only [pwA,seval,-iQ0,hy0',decide_true];refine zJF (bytes:=8) a3.so hsT a3.km a3.ps (by omega) (by omega) fun v' h4 k4 so4 p4=>?_
  have a4:ElI T h4 s vC bs v' (x++[0]):=⟨k4,so4,by rw [←Qm,List.length_append];exact p4⟩
  simp only [pwA,seval,-iQ0];refine qR a4.so (by decide) fun z h5 hz m5 so5=>?_
  have a5:ElI T h5 s vC bs v' (x++[0]):=⟨a4.km.mv hsT m5,so5,zCS a4.ps hsT m5⟩;obtain⟨r0_,r1_⟩:=rdT a5.km;obtain⟨t,cap,ev,q1,q2,q3,q4,q5⟩:=a5.ps;have hlv:pLen v'=some (.int .i64 (x++[0]).length):=by rw [ev];rfl
  by_cases hz0:z=0
  ·have hz0':z=0:=hz0
   by_cases hx0:0<(x++[0]).length
   ·have hx0':((x++[0]).length:Int) > 0:=by omega
    have hw:=zAG (v:=.int .i64 p) (i:=0) q2 (by rw [zK];exact hx0) rfl
    rw [zC8]at hw
    have a6:ElI T (h5.set t (pis ((x++[0]).set 0 p))) s vC bs v' ((x++[0]).set 0 p):=⟨a5.km.set (by omega) _,a5.so.set (by omega) _,t,cap,by rw [List.length_set];exact ev,by rw [List.length_set];exact q1,by rw [zH,if_pos rfl],by rw [zK,Nat.mul_one],q4,q5⟩
    subst ev;have hx0'':(0:Int)<((x++[0]).length:Int):=by omega
    simp only [pwA,seval,-iQ0,hz0',decide_true,hx0',hx0'',r0_,hw];exact fin a6 (by rw [List.length_set];simp;omega)
   ·have hx0':¬((x++[0]).length:Int) > 0:=by omega
    simp only [pwA,seval,-iQ0,hz0',decide_true,hlv,hx0',decide_false];exact fin a5 (by simp;omega)
  ·have hz0':¬z=0:=hz0
   simp only [pwA,seval,-iQ0,hz0',decide_false];exact fin a5 (by simp;omega)
 ·have hy0':¬y=0:=hy0
  simp only [pwA,seval,-iQ0,hy0',decide_false];refine qR a3.so (by decide) fun z h5 hz m5 so5=>?_
  have a5:ElI T h5 s vC bs v x:=⟨a3.km.mv hsT m5,so5,zCS a3.ps hsT m5⟩;obtain⟨r0_,r1_⟩:=rdT a5.km;obtain⟨t,cap,ev,q1,q2,q3,q4,q5⟩:=a5.ps;have hlv:pLen v=some (.int .i64 (x).length):=by rw [ev];rfl
  by_cases hz0:z=0
  ·have hz0':z=0:=hz0
   by_cases hx0:0<(x).length
   ·have hx0':((x).length:Int) > 0:=by omega
    have hw:=zAG (v:=.int .i64 p) (i:=0) q2 (by rw [zK];exact hx0) rfl
    rw [zC8]at hw
    have a6:ElI T (h5.set t (pis ((x).set 0 p))) s vC bs v ((x).set 0 p):=⟨a5.km.set (by omega) _,a5.so.set (by omega) _,t,cap,by rw [List.length_set];exact ev,by rw [List.length_set];exact q1,by rw [zH,if_pos rfl],by rw [zK,Nat.mul_one],q4,q5⟩
    subst ev;have hx0'':(0:Int)<((x).length:Int):=by omega
    simp only [pwA,seval,-iQ0,hz0',decide_true,hx0',hx0'',r0_,hw];exact fin a6 (by rw [List.length_set];omega)
   ·have hx0':¬((x).length:Int) > 0:=by omega
    simp only [pwA,seval,-iQ0,hz0',decide_true,hlv,hx0',decide_false];exact fin a5 (by omega)
  ·have hz0':¬z=0:=hz0
   simp only [pwA,seval,-iQ0,hz0',decide_false];exact fin a5 (by omega)
theorem zGL (so:So σ s vC bs) (hR:IsR vP vB W B) (hp:-4611686018427387904≤p∧p≤4611686018427387904) (hl:W.length≤1048576)
  (hk:∀v x h,FI v x→x.length≤W.length+1→Mv σ s h→So h s vC bs→K v h):zA Tryz.prog 210 [.ptr s 0,.agg [.int .i64 p,vP,vB]] σ K:=by
 refine zA.gh (zGK so hR hp hl fun x h cap hc hx m so2=>?_)
 refine Gh.km (so.km.mv so.lt m |>.new _) (so2.keep (zD _ _)) so.lt fun σ' m' so' kp=>?_
 exact Gh.finF (s:=σ.next) kp (by rw [zP,if_pos m.next.symm]) (by rw [m'.next];exact Nat.le_refl _) (zM _ _) hc.ok fun o=>hk _ x σ' ⟨_,_,rfl⟩ hx m' so'
end Go.Proofs
namespace Go.Proofs
open Go.Ab Go.Lie
variable {σ σ0 h h':PHeap} {K:PV→PHeap→Prop} {vC vP vB:PV} {bs:List Int} {s b n r0:Nat} {p:Int} {sP sB:Nat} {capP capB:Cap} {W:List (List Int)} {B:List (List (List Int))}
structure DrR (p:Int) (W:List (List Int)) (B:List (List (List Int))):Prop where
 p:1≤p∧p≤11
 wl:W.length≤6
 bl:B.length≤6
 sm:SmF W B
theorem DrR.sz (a:DrR p W B):SzR W B:=⟨by have:=a.wl;omega,fun r hr=>by have:=a.sm.w r hr;omega,by have:=a.bl;omega,fun q hq=>by have:=a.sm.bl q hq;omega,fun q hq r hr=>by have:=a.sm.b q hq r hr;omega⟩
theorem zJx {cap:Cap} (hc:full 1 cap n) (hn:1≤n):∃off cap',ZT 1 (.sl s 0 n cap) (some (.int .i64 1)) none none=some (.sl s off (n-1) cap')∧(off=1∨(off=0∧n=1))∧∀c,cap'=.known c→n-1≤c:=by
 have h1:(0:Int)≤1∧(1:Int)≤(n:Int):=by omega
 rcases hc with rfl|rfl
 ·refine⟨1,.grown 1,?_,.inl rfl,fun c e=>by cases e⟩
  rw [zAs];simp [zY,ZU,h1]
 ·rw [zAr]
  by_cases e:n=1
  ·subst e
   exact⟨0,.known 0,by simp [zY,ZU],.inr ⟨rfl,rfl⟩,fun c e=>by omega⟩
  ·refine⟨1,.known (n-1),?_,.inl rfl,fun c e=>by cases e;exact Nat.le_refl _⟩
   simp [zY,ZU,h1,e]
theorem RS.finCut {off:Nat} {cap:Cap} {cs:List PV} {ls:List LS} (a:RS FI FI b h n sP capP cs sB capB ls W B) (hk:Keep σ h) (hb:σ.next≤b) (hn:1≤n) (hoff:off=1∨(off=0∧n=1)) (hc:∀c,cap=.known c→n-1≤c) (k:∀vP vB,IsR vP vB W (B.drop 1)→K (.agg [.int .i64 p,vP,vB]) σ):Gh σ K (.agg [.int .i64 p,.sl sP 0 n capP,.sl sB off (n-1) cap]) h:=by
 obtain⟨p1,p2,p3,p4⟩:=a.P;obtain⟨q1,q2,q3,q4⟩:=a.Q;have e1:=a.csl;have e2:=a.lsl;have et:(TR.agg [.leaf (.int .i64 p),.lst sP capP (cs.map TR.leaf),.cut sB off (n-1) cap (ls.map LS.tr)]).pv=.agg [.int .i64 p,.sl sP 0 n capP,.sl sB off (n-1) cap]:=by
  simp only [TR.pv,TR.pvs,List.length_map];rw [e1]
 rw [←et];refine Gh.treeF hk ⟨trivial,⟨⟨by rw [List.length_map,e1];exact p1,by rw [Qb];exact p2,by omega,p4⟩,Qc (a.aP.bI 0)⟩,⟨⟨hc,by rw [LS.tr_pvs];exact q2,by omega,q4,by rw [List.length_map,e2];omega⟩,LS.trs_okF fun q hq=>?_⟩,trivial⟩ fun aa=>k _ _ ⟨⟨true,.sl (aa sP) 0 cs.length capP,cs,?_,a.aP⟩,⟨false,.sl (aa sB) off (n-1) cap,((TR.fzs aa (ls.map LS.tr)).drop off).take (n-1),?_,?_⟩⟩
 ·obtain⟨g1,g2,g3,g4⟩:=a.lok q hq
  refine⟨⟨g1,g2,by omega,g4⟩,?_⟩
  obtain⟨k,hk9,rfl⟩:=List.mem_iff_getElem.1 hq;exact(a.aB.2 k _ _ (List.getElem?_eq_getElem hk9) (List.getElem?_eq_getElem (by rw [←a.aB.1];exact hk9))).bI 0
 ·simp only [TR.fz,Qd,List.length_map];rw [e1,a.lW]
 ·simp only [TR.fz,List.length_drop];rw [a.lB]
 ·rcases hoff with rfl | ⟨rfl,rfl⟩
  ·have:=((zBM (a:=aa) a.aB).drop 1).take (n-1)
   rw [List.take_of_length_le (l:=B.drop 1) (by rw [List.length_drop,a.lB];exact Nat.le_refl _)]at this
   exact this
  ·rw [List.eq_nil_of_length_eq_zero (l:=B.drop 1) (by rw [List.length_drop,a.lB])]
   exact All2.nil _
theorem zKU (so:So σ s vC bs) (hk:∀p vP vB W B h,DrR p W B→IsR vP vB W B→Mv σ s h→So h s vC bs→K (.agg [.int .i64 p,vP,vB]) h):zA Tryz.prog 251 [.ptr s 0] σ K:=by
 have hsl:=so.lt;refine zA.gh ?_;generalize hT:σ.new [.int .i64 0,.fz true .nils 0 [],.fz true .nils 0 []]=T;have hTn:T.next=σ.next+1:=by rw [←hT];rfl
 have hkT:Keep σ T:=by rw [←hT];exact zD σ _
 have soT:So T s vC bs:=so.keep hkT;have hsT:s<T.next:=soT.lt;have obT:T.obj σ.next=some [.int .i64 0,.fz true .nils 0 [],.fz true .nils 0 []]:=by rw [←hT];simp only [pwA,seval,-iQ0]
 have hres:∀{g:PHeap} {u0 u1 u2:PV},KM T s g→u0.one=true→u1.one=true→u2.one=true→g.wr σ.next 0 [u0,u1,u2]=some (g.set σ.next [u0,u1,u2])∧(g.set σ.next [u0,u1,u2]).rd σ.next 0 3=some [u0,u1,u2]:=fun {g u0 u1 u2} k z0 z1 z2=>by
  have hres:g.obj σ.next=some [.int .i64 0,.fz true .nils 0 [],.fz true .nils 0 []]:=by rw [k.obj (by omega) (by omega)];exact obT
  exact⟨by rw [zq hres,if_pos ⟨by simp,by simp only [List.all_cons,List.all_nil,z0,z1,z2];rfl⟩];rfl,by rw [qo,if_pos rfl];rfl⟩
 refine zN mix Tryz.func251 cf251 rfl ?_;dsimp only [if251,qI,eI,nI,qD,eD,mI0,lI0,LI0,fI0,xI0,cI0,sI0,C1,C2,mD0,lD0,fD0,xD0,R0,S0];simp only [pwA,seval,-iQ0];rw [hT];refine zEm soT fun p n sP capP cs sB capB ls h1 W B hp hn1 hpow hF km1 so1 rs1=>?_
 have hn6:=hF.w.le;have hpb:=hp.bd;have hp27:2≤p∧p≤7:=by omega
 have h01:=km1.next;have gs:GS E0 FI (OkF p n) T (h1.new [.int .i64 p,.sl sP 0 n capP,.sl sB 0 n capB]) s vC bs h1.next p n sP capP sB capB:=
  ⟨km1.new _,so1.keep (zD _ _),hsT,by rw [zP,if_pos rfl],⟨by omega,Nat.lt_succ_self _⟩,⟨cs,ls,W,B,rs1.new _,hF,fun t ht e=>by have:=(rs1.lt ht).2;omega,fun u x e=>e.elim⟩,fun u x e=>e.elim⟩
 clear rs1 hF W B cs ls;have fin:∀{g:PHeap} {q:Int},1≤q∧q≤11→GS E0 FI SmF T g s vC bs h1.next q n sP capP sB capB→g.rd h1.next 0 3=some [.int .i64 q,.sl sP 0 n capP,.sl sB 0 n capB]∧g.wr σ.next 0 [.int .i64 q,.sl sP 0 n capP,.sl sB 0 n capB]=some (g.set σ.next [.int .i64 q,.sl sP 0 n capP,.sl sB 0 n capB])
   ∧(g.set σ.next [.int .i64 q,.sl sP 0 n capP,.sl sB 0 n capB]).rd σ.next 0 3=some [.int .i64 q,.sl sP 0 n capP,.sl sB 0 n capB]∧Gh σ K (.agg [.int .i64 q,.sl sP 0 n capP,.sl sB 0 n capB]) (g.set σ.next [.int .i64 q,.sl sP 0 n capP,.sl sB 0 n capB]):=fun {g q} hq a=>by
  obtain⟨x1,x2⟩:=hres (u0:=.int .i64 q) (u1:=.sl sP 0 n capP) (u2:=.sl sB 0 n capB) a.km rfl rfl rfl;refine⟨a.rd.1,x1,x2,?_⟩;obtain⟨cs,ls,W,B,rs,f,ne,_⟩:=a.rs;refine Gh.km (((so.kmK hkT).trans hsl a.km).set (Nat.le_refl _) _) (a.so.set (by omega) _) hsl fun σ' m' so' kp=>?_
  refine RS.fin ((rs.low (b':=σ'.next) (by rw [m'.next];omega)).move (fun t ht=>?_) (Nat.le_refl _)) kp (Nat.le_refl _) fun vP vB hR=>hk q vP vB W B σ' ⟨hq,by rw [rs.lW];exact hn6,by rw [rs.lB];exact hn6,f⟩ hR m' so'
  have:=(rs.lt ht).1
  rw [zH,if_neg (by omega)]
 have rowB:∀{W:List (List Int)} {B:List (List (List Int))} {i:Nat},OkF p n W B→i<n→(B.getD i []).length=n-1-i:=fun {W B i} q hi=>by
  have h1:i<B.length:=by rw [q.b.len];exact hi
  rw [zL h1];exact q.b.row i h1
 simp only [pwA,seval,-iQ0];generalize h1.new [PV.int .i64 p,.sl sP 0 n capP,.sl sB 0 n capB]=g1 at *
 have h1b:σ.next<h1.next:=by omega
 generalize h1.next=r0 at *
 refine qR gs.so (by omega) fun i0 g2 hi0 m2 so2=>?_
 have gs2:=gs.mv m2 so2;have i00:=hi0.1;have i0n:=hi0.lt (by omega)
 obtain⟨i,rfl⟩:∃i:Nat,i0=i:=⟨i0.toNat,by omega⟩
 have hin:i<n:=by omega
 have wi1:IntKind.i64.wrap ((i:Int)+1)=((i+1:Nat):Int):=by rw [wrap64 (by omega) (by omega)];omega
 have wi2:IntKind.i64.wrap ((i:Int)+2)=((i+2:Nat):Int):=by rw [wrap64 (by omega) (by omega)];omega
 have wi0:IntKind.i64.wrap (i:Int)=(i:Int):=by rw [wrap64 (by omega) (by omega)]
 simp only [pwA,seval,-iQ0,wi0];refine qR gs2.so (by decide) fun kd g3 hkd m3 so3=>?_
 have gs3:=gs2.mv m3 so3;clear gs gs2;have kd0:=hkd.1
 by_cases e0:kd=0
 ·subst e0
  have so4:=gs3.so;simp only [pwA,seval,-iQ0];refine qR (gs3.new _).so (by decide) fun y g4 hy m4 so5=>?_
  have gs4:=(gs3.new _).mv m4 so5;have y0:=hy.1;have y5:=hy.lt (by decide)
  have hT3:=gs3.km.next;have ob:g4.obj g3.next=some (pis [1,4,11,7,2]):=by rw [m4.obj (by omega),zP,if_pos rfl];rfl
  obtain⟨k,rfl⟩:∃k:Nat,y=k:=⟨y.toNat,by omega⟩
  have hk5:k<5:=by omega
  obtain⟨q,hq,hr⟩:∃q:Int,(1≤q∧q≤11)∧g4.rd1 g3.next k=some (.int .i64 q):=by
   have e:k=0∨k=1∨k=2∨k=3∨k=4:=by omega
   rcases e with rfl|rfl|rfl|rfl|rfl
   ·exact⟨1,by decide,by rw [zI ob];rfl⟩
   ·exact⟨4,by decide,by rw [zI ob];rfl⟩
   ·exact⟨11,by decide,by rw [zI ob];rfl⟩
   ·exact⟨7,by decide,by rw [zI ob];rfl⟩
   ·exact⟨2,by decide,by rw [zI ob];rfl⟩
  obtain⟨g5,w5,gs5⟩:=gs4.setp q;have a:=gs5.imp fun W B f=>f.sm
  simp only [pwA,seval,-iQ0,hr,hk5,w5];obtain⟨e1,e2,e3,e4⟩:=fin hq a;simp only [pwA,seval,-iQ0,e1,e2,e3];exact e4
 have hq:1≤p∧p≤11:=by omega
 by_cases e1:kd=1
 ·subst e1
  obtain⟨f3,f0,f1,f2⟩:=gs3.rd;simp only [pwA,seval,-iQ0,f3,f1,wi1];refine zX (vP:=.sl sP 0 n capP) (vB:=.sl sB 0 n capB) (n:=n) (k:=i+1) gs3.so hp27 rfl rfl rfl (by omega) (by omega) fun v x g4 hx hz hv m4 so4=>?_
  have gs4:=gs3.mv m4 so4;obtain⟨p3,p0,p1,p2⟩:=gs4.rd;have hxl:=hx.1;obtain⟨g5,w5,a⟩:=gs4.putP (F':=SmF) (i:=i) (w:=x) hin hv (fun W B q=>q.sm.setP (by omega))
  simp only [pwA,seval,-iQ0,p1,w5,hv.cells,hin,wi1];obtain⟨e1,e2,e3,e4⟩:=fin hq a;simp only [pwA,seval,-iQ0,e1,e2,e3];exact e4
 by_cases e2:kd=2
 ·subst e2
  obtain⟨f3,f0,f1,f2⟩:=gs3.rd;simp only [pwA,seval,-iQ0,f3,f1];refine zX (vP:=.sl sP 0 n capP) (vB:=.sl sB 0 n capB) (n:=n) (k:=i) gs3.so hp27 rfl rfl rfl (by omega) (by omega) fun v x g4 hx hz hv m4 so4=>?_
  have gs4:=gs3.mv m4 so4;obtain⟨p3,p0,p1,p2⟩:=gs4.rd;have hxl:=hx.1;obtain⟨g5,w5,a⟩:=gs4.putP (F':=SmF) (i:=i) (w:=x) hin hv (fun W B q=>q.sm.setP (by omega))
  simp only [pwA,seval,-iQ0,p1,w5,hv.cells,hin];obtain⟨e1,e2,e3,e4⟩:=fin hq a;simp only [pwA,seval,-iQ0,e1,e2,e3];exact e4
 by_cases e3:kd=3
 ·subst e3
  obtain⟨f3,f0,f1,f2⟩:=gs3.rd;obtain⟨t,c,rB⟩:=gs3.rdB hin (fun W B q=>rowB q hin)
  have hsB:=gs3.sBb
  by_cases hl0:0<n-1-i
  ·have hl0':(0:Int)<((n-1-i:Nat):Int):=by omega
   have hl0'':((n-1-i:Nat):Int) > 0:=by omega
   simp only [pwA,seval,-iQ0,f3,f2,rB,hin,hl0',hl0'',decide_true,wi2];refine zX (vP:=.sl sP 0 n capP) (vB:=.sl sB 0 n capB) (n:=n) (k:=i+2) gs3.so hp27 rfl rfl rfl (by omega) (by omega) fun v x g4 hx hz hv m4 so4=>?_
   have gs4:=gs3.mv m4 so4;obtain⟨p3,p0,p1,p2⟩:=gs4.rd;have hxl:=hx.1;have rB':g4.rd1 sB i=some (.sl t 0 (n-1-i) c):=by rw [m4.rd1 (by omega)];exact rB
   obtain⟨g5,w5,a,_⟩:=gs4.putB (F':=SmF) (i:=i) (k:=0) (w:=x) hin rB' hl0 (fun _ _ h=>h) hv hv.one (fun W B hB q=>q.sm.setB hB (by omega))
   simp only [pwA,seval,-iQ0,p2,rB',w5,hv.cells,hin,hl0'];obtain⟨e1,e2,e3,e4⟩:=fin hq a;simp only [pwA,seval,-iQ0,e1,e2,e3];exact e4
  ·have hl0'':¬((n-1-i:Nat):Int) > 0:=by omega
   have a:=gs3.imp fun W B f=>f.sm
   simp only [pwA,seval,-iQ0,f2,rB,hin,hl0'',decide_false];obtain⟨e1,e2,e3,e4⟩:=fin hq a;simp only [pwA,seval,-iQ0,e1,e2,e3];exact e4
 by_cases e4:kd=4
 ·subst e4
  obtain⟨f3,f0,f1,f2⟩:=gs3.rd;obtain⟨cs,ls,W,B,rs,f,ne,_⟩:=gs3.rs;obtain⟨off,cap',z1,z2,z3⟩:=zJx (s:=sB) rs.Q.1 hn1;have w5:=zAG (v:=.sl sB off (n-1) cap') (i:=2) gs3.obj (by simp) rfl
  simp only [List.set_cons_succ,List.set_cons_zero]at w5
  have hr0:=gs3.r0b;have hsl3:=gs3.sl;have km5:KM T s (g3.set r0 [.int .i64 p,.sl sP 0 n capP,.sl sB off (n-1) cap']):=gs3.km.set gs3.r0b.1 _;obtain⟨x1,x2⟩:=hres (u0:=.int .i64 p) (u1:=.sl sP 0 n capP) (u2:=.sl sB off (n-1) cap') km5 rfl rfl rfl;have x0:(g3.set r0 [.int .i64 p,.sl sP 0 n capP,.sl sB off (n-1) cap']).rd r0 0 3=some [.int .i64 p,.sl sP 0 n capP,.sl sB off (n-1) cap']:=by rw [qo,if_pos rfl];rfl
  have so5:So (g3.set r0 [.int .i64 p,.sl sP 0 n capP,.sl sB off (n-1) cap']) s vC bs:=gs3.so.set (by omega) _
  have rs5:=rs.move (h':=g3.set r0 [.int .i64 p,.sl sP 0 n capP,.sl sB off (n-1) cap']) (fun t ht=>by rw [zH,if_neg (Ne.symm (ne t ht))]) (Nat.le_refl _)
  simp only [pwA,seval,-iQ0,f2,z1,w5];generalize g3.set r0 [.int .i64 p,.sl sP 0 n capP,.sl sB off (n-1) cap']=g5 at *
  simp only [pwA,seval,-iQ0,x0,x1,x2];refine Gh.km (((so.kmK hkT).trans hsl km5).set (Nat.le_refl _) _) (so5.set (by omega) _) hsl fun σ' m' so' kp=>?_
  refine RS.finCut ((rs5.low (b':=σ'.next) (by rw [m'.next];omega)).move (fun t ht=>?_) (Nat.le_refl _)) kp (Nat.le_refl _) hn1 z2 z3 fun vP vB hR=>hk p vP vB W _ σ' ⟨hq,by rw [rs.lW];exact hn6,by rw [List.length_drop,rs.lB];omega,f.sm.w,fun q hq=>f.sm.bl q (List.mem_of_mem_drop hq),fun q hq=>f.sm.b q (List.mem_of_mem_drop hq)⟩ hR m' so'
  have:=(rs5.lt ht).1
  rw [zH,if_neg (by omega)]
 by_cases e5:kd=5
 ·subst e5
  have hr0:=gs3.r0b;have w5:g3.wr r0 0 [.int .i64 3,.fz true .nils 0 [],.fz true .nils 0 []]=some (g3.set r0 [.int .i64 3,.fz true .nils 0 [],.fz true .nils 0 []]):=by rw [zq gs3.obj,if_pos ⟨by simp,by rfl⟩];rfl
  have km5:KM T s (g3.set r0 [.int .i64 3,.fz true .nils 0 [],.fz true .nils 0 []]):=gs3.km.set gs3.r0b.1 _;obtain⟨x1,x2⟩:=hres (u0:=.int .i64 3) (u1:=.fz true .nils 0 []) (u2:=.fz true .nils 0 []) km5 rfl rfl rfl;have x0:(g3.set r0 [.int .i64 3,.fz true .nils 0 [],.fz true .nils 0 []]).rd r0 0 3=some [.int .i64 3,.fz true .nils 0 [],.fz true .nils 0 []]:=by rw [qo,if_pos rfl];rfl
  have so5:So (g3.set r0 [.int .i64 3,.fz true .nils 0 [],.fz true .nils 0 []]) s vC bs:=gs3.so.set (by omega) _
  simp only [pwA,seval,-iQ0,w5];generalize g3.set r0 [.int .i64 3,.fz true .nils 0 [],.fz true .nils 0 []]=g5 at *
  simp only [pwA,seval,-iQ0,x0,x1,x2];refine Gh.km (((so.kmK hkT).trans hsl km5).set (Nat.le_refl _) _) (so5.set (by omega) _) hsl fun σ' m' so' kp=>?_
  exact Gh.fin0 kp ⟨trivial,trivial,trivial,trivial⟩ (hk 3 _ _ [] [] σ' ⟨by decide,by decide,by decide,⟨fun r hr=>(by cases hr),fun r hr=>(by cases hr),fun r hr=>(by cases hr)⟩⟩ ⟨⟨true,.nils,[],rfl,All2.nil _⟩,⟨true,.nils,[],rfl,All2.nil _⟩⟩ m' so')
 have a:=gs3.imp fun W B f=>f.sm
 simp only [pwA,seval,-iQ0,e0,e1,e2,e3,e4,e5];obtain⟨e1,e2,e3,e4⟩:=fin hq a;simp only [pwA,seval,-iQ0,e1,e2,e3];exact e4
end Go.Proofs
namespace Go.Proofs
open Go.Ab Go.Lie
variable {σ σ0 h h':PHeap} {K:PV→PHeap→Prop} {vC vP vB:PV} {bs:List Int} {s b n r0:Nat} {p:Int} {sP sB:Nat} {capP capB:Cap} {W:List (List Int)} {B:List (List (List Int))}
theorem DrR.ok (hp:isP p) (hF:OkF p n W B):DrR p W B:=⟨by have:=hp.bd;omega,by rw [hF.w.len];exact hF.w.le,by rw [hF.b.len];exact hF.w.le,hF.sm⟩
theorem zKT (so:So σ s vC bs) (hk:∀p n vP vB W B h,isP p→OkF p n W B→IsR vP vB W B→Mv σ s h→So h s vC bs→K (.agg [.int .i64 p,vP,vB]) h):zA Tryz.prog 304 [.ptr s 0] σ K:=
 zA.gh (zEm so fun p n sP capP cs sB capB ls h W B hp hn1 hpow hF km so2 rs=>Gh.km km so2 so.lt fun σ' m' so' kp=>RS.fin (rs.low (b':=σ'.next) (by rw [m'.next];exact Nat.le_refl _)) kp (Nat.le_refl _) fun vP vB hR=>hk p n vP vB W B σ' hp hF hR m' so')
theorem zKM (so:So σ s vC bs) (hk:∀p vP vB W B h,DrR p W B→IsR vP vB W B→Mv σ s h→So h s vC bs→K (.agg [.int .i64 p,vP,vB]) h):zA Tryz.prog 252 [.ptr s 0] σ K:=by
 have hsl:=so.lt;refine zA.gh ?_;generalize hT:σ.new [.int .i64 0,.fz true .nils 0 [],.fz true .nils 0 []]=T;have hTn:T.next=σ.next+1:=by rw [←hT];rfl
 have hkT:Keep σ T:=by rw [←hT];exact zD σ _
 have soT:So T s vC bs:=so.keep hkT;have hsT:s<T.next:=soT.lt;have obT:T.obj σ.next=some [.int .i64 0,.fz true .nils 0 [],.fz true .nils 0 []]:=by rw [←hT];simp only [pwA,seval,-iQ0]
 have hres:∀{g:PHeap} {u0 u1 u2:PV},KM T s g→u0.one=true→u1.one=true→u2.one=true→g.wr σ.next 0 [u0,u1,u2]=some (g.set σ.next [u0,u1,u2])∧(g.set σ.next [u0,u1,u2]).rd σ.next 0 3=some [u0,u1,u2]:=fun {g u0 u1 u2} k z0 z1 z2=>by
  have hres:g.obj σ.next=some [.int .i64 0,.fz true .nils 0 [],.fz true .nils 0 []]:=by rw [k.obj (by omega) (by omega)];exact obT
  exact⟨by rw [zq hres,if_pos ⟨by simp,by simp only [List.all_cons,List.all_nil,z0,z1,z2];rfl⟩];rfl,by rw [qo,if_pos rfl];rfl⟩
 refine zN mix Tryz.func252 cf252 rfl ?_;dsimp only [if252,qI,eI,nI,qD,eD,mI0,lI0,LI0,fI0,xI0,cI0,C1,C2,mD0,lD0,fD0,R0,S0];simp only [pwA,seval,-iQ0];rw [hT];refine zKT soT fun p1 n1 vP1 vB1 W1 B1 h1 hp1 hF1 hR1 m1 so1=>?_
 have km1:=soT.km.mv hsT m1;have g1:=hR1.P.one;have g2:=hR1.B.one;have h01:=km1.next;have km1':KM T s (h1.new [.int .i64 p1,vP1,vB1]):=km1.new _;have so1':So (h1.new [.int .i64 p1,vP1,vB1]) s vC bs:=so1.keep (zD _ _);have ob1:(h1.new [.int .i64 p1,vP1,vB1]).obj h1.next=some [.int .i64 p1,vP1,vB1]:=by rw [zP,if_pos rfl]
 have lt1:h1.next<(h1.new [.int .i64 p1,vP1,vB1]).next:=Nat.lt_succ_self _;simp only [pwA,seval,-iQ0,g1,g2];generalize h1.new [PV.int .i64 p1,vP1,vB1]=g1_ at *
 have hr0:T.next≤h1.next:=h01;generalize h1.next=r0 at *
 refine zHF hR1 hF1.w hF1.b hp1 fun t ht=>?_
 cases t with
 | true=>
  have x0:g1_.rd r0 0 3=some [.int .i64 p1,vP1,vB1]:=by rw [zh ob1];rfl
  obtain⟨x1,x2⟩:=hres (u0:=.int .i64 p1) (u1:=vP1) (u2:=vB1) km1' rfl g1 g2;simp only [pwA,seval,-iQ0,x0,x1,x2];refine Gh.km (((so.kmK hkT).trans hsl km1').set (Nat.le_refl _) _) (so1'.set (by omega) _) hsl fun σ' m' so' kp=>?_
  exact Gh.fin0 kp ⟨trivial,hR1.P.bel _,hR1.B.bel _,trivial⟩ (hk p1 vP1 vB1 W1 B1 σ' (DrR.ok hp1 hF1) hR1 m' so')
 | false=>
 simp only [pwA,seval,-iQ0];refine qR so1' (by decide) fun x h2 hx m2 so2=>?_
 have km2:=km1'.mv hsT m2;have x0:=hx.1;have x2:=hx.lt (by decide)
 obtain⟨n,hn3,hn4,wn⟩:∃n:Nat,3≤n∧n≤4∧IntKind.i64.wrap (3+x)=(n:Int):=⟨(3+x).toNat,by omega,by omega,by rw [wrap64 (by omega) (by omega)];omega⟩
 simp only [pwA,seval,-iQ0,wn];refine qR (so2.keep (zD _ _)) (by decide) fun y h3 hy m3 so3=>?_
 have km3:=(km2.new [.int .i64 3,.int .i64 5]).mv hsT m3;have y0:=hy.1;have y2:=hy.lt (by decide)
 have h02:=km2.next;have ob3:h3.obj h2.next=some (pis [3,5]):=by rw [m3.obj (by omega),zP,if_pos rfl];rfl
 obtain⟨k,rfl⟩:∃k:Nat,y=k:=⟨y.toNat,by omega⟩
 have hk2:k<2:=by omega
 obtain⟨p,hp,hp35,hr⟩:∃p:Int,isP p∧(p=3∨p=5)∧h3.rd1 h2.next k=some (.int .i64 p):=by
  have e:k=0∨k=1:=by omega
  rcases e with rfl|rfl
  ·exact⟨3,.inr (.inl rfl),.inl rfl,by rw [zI ob3];rfl⟩
  ·exact⟨5,.inr (.inr (.inl rfl)),.inr rfl,by rw [zI ob3];rfl⟩
 have r0h2:r0<h2.next:=by rw [m2.next];exact lt1
 have ob3':h3.obj r0=some [.int .i64 p1,vP1,vB1]:=by rw [m3.obj (by omega),zP,if_neg (by omega),m2.obj (by omega)];exact ob1
 have lt3:r0<h3.next:=by rw [m3.next];show r0<h2.next+1;omega
 have hn1:1≤n:=by omega
 have hn6:n≤6:=by omega
 have hpb:=hp.bd;have hp27:2≤p∧p≤7:=by omega
 simp only [pwA,seval,-iQ0,hr,hk2];refine zEn hn1 hn6 fun sP capP cs sB capB ls h5 k5 rs5=>?_
 have so5:=so3.keep k5;have km5:=km3.keep k5;have ob5:h5.obj r0=some [.int .i64 p1,vP1,vB1]:=by rw [k5.obj r0 lt3];exact ob3'
 have lt5:r0<h5.next:=Nat.lt_of_lt_of_le lt3 k5.next;have h03:=km3.next;have w5:h5.wr r0 0 [.int .i64 p,.sl sP 0 n capP,.sl sB 0 n capB]=some (h5.set r0 [.int .i64 p,.sl sP 0 n capP,.sl sB 0 n capB]):=by rw [zq ob5,if_pos ⟨by simp,by rfl⟩];rfl
 have okp0:okp p:=hpb;have gs:GS E0 FI (OkF p n) T (h5.set r0 [.int .i64 p,.sl sP 0 n capP,.sl sB 0 n capB]) s vC bs r0 p n sP capP sB capB:=
  ⟨km5.set hr0 _,so5.set (by omega) _,hsT,by rw [zH,if_pos rfl],⟨hr0,lt5⟩,⟨cs,ls,_,_,(rs5.low h03).move (fun t ht=>by rw [zH,if_neg (by have:=(rs5.lt ht).1;omega)]) (Nat.le_refl _),OkF.zero okp0 hn6,fun t ht e=>by have:=(rs5.lt ht).1;omega,fun u x e=>e.elim⟩,fun u x e=>e.elim⟩
 clear rs5;have wn1:IntKind.i64.wrap ((n:Int)-1)=((n-1:Nat):Int):=by rw [wrap64 (by omega) (by omega)];omega
 have fin:∀{g:PHeap},GS E0 FI (OkF p n) T g s vC bs r0 p n sP capP sB capB→g.rd r0 0 3=some [.int .i64 p,.sl sP 0 n capP,.sl sB 0 n capB]∧g.wr σ.next 0 [.int .i64 p,.sl sP 0 n capP,.sl sB 0 n capB]=some (g.set σ.next [.int .i64 p,.sl sP 0 n capP,.sl sB 0 n capB])
   ∧(g.set σ.next [.int .i64 p,.sl sP 0 n capP,.sl sB 0 n capB]).rd σ.next 0 3=some [.int .i64 p,.sl sP 0 n capP,.sl sB 0 n capB]∧Gh σ K (.agg [.int .i64 p,.sl sP 0 n capP,.sl sB 0 n capB]) (g.set σ.next [.int .i64 p,.sl sP 0 n capP,.sl sB 0 n capB]):=fun {g} a=>by
  obtain⟨x1,x2⟩:=hres (u0:=.int .i64 p) (u1:=.sl sP 0 n capP) (u2:=.sl sB 0 n capB) a.km rfl rfl rfl;refine⟨a.rd.1,x1,x2,?_⟩;obtain⟨cs,ls,W,B,rs,f,ne,_⟩:=a.rs;refine Gh.km (((so.kmK hkT).trans hsl a.km).set (Nat.le_refl _) _) (a.so.set (by omega) _) hsl fun σ' m' so' kp=>?_
  refine RS.fin ((rs.low (b':=σ'.next) (by rw [m'.next];omega)).move (fun t ht=>?_) (Nat.le_refl _)) kp (Nat.le_refl _) fun vP vB hR=>hk p vP vB W B σ' (DrR.ok hp f) hR m' so'
  have:=(rs.lt ht).1
  rw [zH,if_neg (by omega)]
 have rowB:∀{W:List (List Int)} {B:List (List (List Int))} {i:Nat},OkF p n W B→i<n→(B.getD i []).length=n-1-i:=fun {W B i} q hi=>by
  have h1:i<B.length:=by rw [q.b.len];exact hi
  rw [zL h1];exact q.b.row i h1
 have hle:El p n (unitL n (n-1)):=zR okp0 (by omega)
 have i0n:(0:Int)<(n:Int):=by omega
 have i1n:(1:Int)<(n:Int):=by omega
 have i0m:(0:Int)<((n-1-0:Nat):Int):=by omega
 have i1m:(1:Int)<((n-1-0:Nat):Int):=by omega
 have i0q:(0:Int)<((n-1-1:Nat):Int):=by omega
 simp only [pwA,seval,-iQ0,w5];clear w5;generalize h5.set r0 [PV.int .i64 p,.sl sP 0 n capP,.sl sB 0 n capB]=g5 at *
 obtain⟨f3,f0,f1,f2⟩:=gs.rd;simp only [pwA,seval,-iQ0,f3,wn1];refine QK (vP:=.sl sP 0 n capP) (vB:=.sl sB 0 n capB) (n:=n) (k:=n-1) rfl rfl rfl (by omega) (by omega) fun vl hlv=>?_
 obtain⟨t6,c6,rB⟩:=gs.rdB (i:=0) (by omega) (fun W B q=>rowB q (by omega))
 simp only [pwA,seval,-iQ0,f3,f2,rB,i0n];refine QK (vP:=.sl sP 0 n capP) (vB:=.sl sB 0 n capB) (n:=n) (k:=2) rfl rfl rfl (by omega) (by omega) fun v6 hv6=>?_
 obtain⟨g6,w6,gs6,_⟩:=gs.putB (F':=OkF p n) (i:=0) (k:=0) (by omega) rB (by omega) (fun _ _ h=>h) hv6 hv6.one (fun W B _ q=>q.setB (by omega) (zR q.w.pr (by omega)) (fun j hj=>by rw [qK (by omega),if_neg (by omega)]))
 simp only [pwA,seval,-iQ0,f2,rB,w6,i0n,i0m,hv6.cells];clear f3 f0 f1 f2 rB w6 gs
 by_cases hn4':n=4
 rotate_left
 ·as_aux_lemma=>
  have hn4'':¬(n:Int)=4:=by omega
  simp only [pwA,seval,-iQ0,hn4'',decide_false];obtain⟨f3,f0,f1,f2⟩:=gs6.rd;simp only [pwA,seval,-iQ0,f3,f1,wn1];refine zX (vP:=.sl sP 0 n capP) (vB:=.sl sB 0 n capB) (n:=n) (k:=n-1) gs6.so hp27 rfl rfl rfl (by omega) (by omega) fun v9 x9 k9 hx9 hz9 hv9 m9 so9=>?_
  have gt9:=gs6.mv m9 so9;obtain⟨p3,p0,p1,p2⟩:=gt9.rd;obtain⟨h9,w9,gs9⟩:=gt9.putP (F':=OkF p n) (i:=1) (w:=x9) (by omega) hv9 (fun W B q=>q.setP hx9 (fun j hj=>hz9 j (by omega)))
  simp only [pwA,seval,-iQ0,p1,w9,i1n,hv9.cells];obtain⟨e1,e2,e3,e4⟩:=fin gs9;simp only [pwA,seval,-iQ0,e1,e2,e3];exact e4
 have hd4:decide ((n:Int)=4)=true:=decide_eq_true (by omega)
 by_cases hp5:p=5
 rotate_left
 ·as_aux_lemma=>
  simp only [pwA,seval,-iQ0,hd4,hp5,decide_true,decide_false];obtain⟨f3,f0,f1,f2⟩:=gs6.rd;simp only [pwA,seval,-iQ0,f3,f1,wn1];refine zX (vP:=.sl sP 0 n capP) (vB:=.sl sB 0 n capB) (n:=n) (k:=n-1) gs6.so hp27 rfl rfl rfl (by omega) (by omega) fun v9 x9 k9 hx9 hz9 hv9 m9 so9=>?_
  have gt9:=gs6.mv m9 so9;obtain⟨p3,p0,p1,p2⟩:=gt9.rd;obtain⟨h9,w9,gs9⟩:=gt9.putP (F':=OkF p n) (i:=1) (w:=x9) (by omega) hv9 (fun W B q=>q.setP hx9 (fun j hj=>hz9 j (by omega)))
  simp only [pwA,seval,-iQ0,p1,w9,i1n,hv9.cells];obtain⟨e1,e2,e3,e4⟩:=fin gs9;simp only [pwA,seval,-iQ0,e1,e2,e3];exact e4
 obtain⟨f3,f0,f1,f2⟩:=gs6.rd;obtain⟨t7,c7,rB⟩:=gs6.rdB (i:=0) (by omega) (fun W B q=>rowB q (by omega))
 obtain⟨g7,w7,gs7,_⟩:=gs6.putB (F':=OkF p n) (i:=0) (k:=1) (by omega) rB (by omega) (fun _ _ h=>h) hlv hlv.one (fun W B _ q=>q.setB (by omega) hle (fun j hj=>by rw [qK (by omega),if_neg (by omega)]))
 have hp5':decide (p=5)=true:=decide_eq_true hp5;simp only [pwA,seval,-iQ0,hd4,hp5',decide_true,f2,rB,w7,i0n,i1m,hlv.cells];clear f3 f0 f1 f2 rB w7;refine qR gs7.so (by decide) fun z g8 hz8 m8 so8=>?_
 have gs8:=gs7.mv m8 so8
 by_cases hz0:z=0
 ·as_aux_lemma=>
  obtain⟨f3,f0,f1,f2⟩:=gs8.rd;obtain⟨t,c,rB⟩:=gs8.rdB (i:=1) (by omega) (fun W B q=>rowB q (by omega))
  have hsB:=gs8.sBb;simp only [pwA,seval,-iQ0,hz0,decide_true,f3,f2,rB,i1n];refine zX (vP:=.sl sP 0 n capP) (vB:=.sl sB 0 n capB) (n:=n) (k:=3) gs8.so hp27 rfl rfl rfl (by omega) (by omega) fun v x g4 hx hz hv m4 so4=>?_
  have gs4:=gs8.mv m4 so4;obtain⟨p3,p0,p1,p2⟩:=gs4.rd;have rB':g4.rd1 sB 1=some (.sl t 0 (n-1-1) c):=by rw [m4.rd1 (by omega)];exact rB
  obtain⟨gb,w5,gsb,_⟩:=gs4.putB (F':=OkF p n) (i:=1) (k:=0) (w:=x) (by omega) rB' (by omega) (fun _ _ h=>h) hv hv.one (fun W B hB q=>q.setB (by omega) hx (fun j hj=>hz j (by omega)))
  simp only [pwA,seval,-iQ0,p2,rB',w5,hv.cells,i1n,i0q];clear f3 f0 f1 f2 rB p3 p0 p1 p2 rB' w5;obtain⟨f3,f0,f1,f2⟩:=gsb.rd;simp only [pwA,seval,-iQ0,f3,f1];refine zX (vP:=.sl sP 0 n capP) (vB:=.sl sB 0 n capB) (n:=n) (k:=3) gsb.so hp27 rfl rfl rfl (by omega) (by omega) fun va xa ka hxa hza hva ma soa=>?_
  have gta:=gsb.mv ma soa;obtain⟨p3,p0,p1,p2⟩:=gta.rd;obtain⟨ha,wa,gsa⟩:=gta.putP (F':=OkF p n) (i:=0) (w:=xa) (by omega) hva (fun W B q=>q.setP hxa (fun j hj=>hza j (by omega)))
  simp only [pwA,seval,-iQ0,p1,wa,i0n,hva.cells];clear f3 f0 f1 f2 p3 p0 p1 p2 wa;obtain⟨f3,f0,f1,f2⟩:=gsa.rd;simp only [pwA,seval,-iQ0,f3,f1,wn1];refine zX (vP:=.sl sP 0 n capP) (vB:=.sl sB 0 n capB) (n:=n) (k:=n-1) gsa.so hp27 rfl rfl rfl (by omega) (by omega) fun v9 x9 k9 hx9 hz9 hv9 m9 so9=>?_
  have gt9:=gsa.mv m9 so9;obtain⟨p3,p0,p1,p2⟩:=gt9.rd;obtain⟨h9,w9,gs9⟩:=gt9.putP (F':=OkF p n) (i:=1) (w:=x9) (by omega) hv9 (fun W B q=>q.setP hx9 (fun j hj=>hz9 j (by omega)))
  simp only [pwA,seval,-iQ0,p1,w9,i1n,hv9.cells];obtain⟨e1,e2,e3,e4⟩:=fin gs9;simp only [pwA,seval,-iQ0,e1,e2,e3];exact e4
 ·as_aux_lemma=>
  simp only [pwA,seval,-iQ0,hz0,decide_false];obtain⟨f3,f0,f1,f2⟩:=gs8.rd;simp only [pwA,seval,-iQ0,f3,f1];refine zX (vP:=.sl sP 0 n capP) (vB:=.sl sB 0 n capB) (n:=n) (k:=3) gs8.so hp27 rfl rfl rfl (by omega) (by omega) fun va xa ka hxa hza hva ma soa=>?_
  have gta:=gs8.mv ma soa;obtain⟨p3,p0,p1,p2⟩:=gta.rd;obtain⟨ha,wa,gsa⟩:=gta.putP (F':=OkF p n) (i:=0) (w:=xa) (by omega) hva (fun W B q=>q.setP hxa (fun j hj=>hza j (by omega)))
  simp only [pwA,seval,-iQ0,p1,wa,i0n,hva.cells];clear f3 f0 f1 f2 p3 p0 p1 p2 wa;obtain⟨f3,f0,f1,f2⟩:=gsa.rd;simp only [pwA,seval,-iQ0,f3,f1,wn1];refine zX (vP:=.sl sP 0 n capP) (vB:=.sl sB 0 n capB) (n:=n) (k:=n-1) gsa.so hp27 rfl rfl rfl (by omega) (by omega) fun v9 x9 k9 hx9 hz9 hv9 m9 so9=>?_
  have gt9:=gsa.mv m9 so9;obtain⟨p3,p0,p1,p2⟩:=gt9.rd;obtain⟨h9,w9,gs9⟩:=gt9.putP (F':=OkF p n) (i:=1) (w:=x9) (by omega) hv9 (fun W B q=>q.setP hx9 (fun j hj=>hz9 j (by omega)))
  simp only [pwA,seval,-iQ0,p1,w9,i1n,hv9.cells];obtain⟨e1,e2,e3,e4⟩:=fin gs9;simp only [pwA,seval,-iQ0,e1,e2,e3];exact e4
theorem zKO (so:So σ s vC bs) (hk:∀p vP vB W B h,DrR p W B→IsR vP vB W B→Mv σ s h→So h s vC bs→K (.agg [.int .i64 p,vP,vB]) h):zA Tryz.prog 163 [.ptr s 0] σ K:=by
 have hsl:=so.lt;refine zA.gh ?_;generalize hT:σ.new [.int .i64 0,.fz true .nils 0 [],.fz true .nils 0 []]=T;have hTn:T.next=σ.next+1:=by rw [←hT];rfl
 have hkT:Keep σ T:=by rw [←hT];exact zD σ _
 have soT:So T s vC bs:=so.keep hkT;have hsT:s<T.next:=soT.lt;have obT:T.obj σ.next=some [.int .i64 0,.fz true .nils 0 [],.fz true .nils 0 []]:=by rw [←hT];simp only [pwA,seval,-iQ0]
 have hres:∀{g:PHeap} {u0 u1 u2:PV},KM T s g→u0.one=true→u1.one=true→u2.one=true→g.wr σ.next 0 [u0,u1,u2]=some (g.set σ.next [u0,u1,u2])∧(g.set σ.next [u0,u1,u2]).rd σ.next 0 3=some [u0,u1,u2]:=fun {g u0 u1 u2} k z0 z1 z2=>by
  have hres:g.obj σ.next=some [.int .i64 0,.fz true .nils 0 [],.fz true .nils 0 []]:=by rw [k.obj (by omega) (by omega)];exact obT
  exact⟨by rw [zq hres,if_pos ⟨by simp,by simp only [List.all_cons,List.all_nil,z0,z1,z2];rfl⟩];rfl,by rw [qo,if_pos rfl];rfl⟩
 have fin:∀{g:PHeap} {p:Int} {vP vB:PV} {W:List (List Int)} {B:List (List (List Int))},DrR p W B→IsR vP vB W B→KM T s g→So g s vC bs→Gh σ K (.agg [.int .i64 p,vP,vB]) (g.set σ.next [.int .i64 p,vP,vB]):=fun {g p vP vB W B} d hR km so1=>by
  refine Gh.km (((so.kmK hkT).trans hsl km).set (Nat.le_refl _) _) (so1.set (by omega) _) hsl fun σ' m' so' kp=>?_
  exact Gh.fin0 kp ⟨trivial,hR.P.bel _,hR.B.bel _,trivial⟩ (hk p vP vB W B σ' d hR m' so')
 refine zC mix Tryz.func163 ?_
 conv=>arg 2;cbv
 refine zF rfl ?_;simp only [pwA,seval,-iQ0];rw [hT];refine qR soT (by decide) fun x h1 hx m1 so1=>?_
 have km1:=soT.km.mv hsT m1
 by_cases hx0:x=0
 ·simp only [pwA,seval,-iQ0,hx0,decide_true]
  refine zKU so1 fun p vP vB W B h2 d hR m2 so2=>?_
  have km2:=km1.mv hsT m2;have g1:=hR.P.one;have g2:=hR.B.one;obtain⟨x1,x2⟩:=hres (u0:=.int .i64 p) (u1:=vP) (u2:=vB) km2 rfl g1 g2;simp only [pwA,seval,-iQ0,g1,g2,x1,x2];exact fin d hR km2 so2
 ·simp only [pwA,seval,-iQ0,hx0,decide_false]
  refine zKM so1 fun p vP vB W B h2 d hR m2 so2=>?_
  have km2:=km1.mv hsT m2;have g1:=hR.P.one;have g2:=hR.B.one;obtain⟨x1,x2⟩:=hres (u0:=.int .i64 p) (u1:=vP) (u2:=vB) km2 rfl g1 g2;simp only [pwA,seval,-iQ0,g1,g2,x1,x2];exact fin d hR km2 so2
end Go.Proofs
namespace Go.Proofs
open Go.Ab Go.Lie
variable {σ σ0 h h':PHeap} {K:PV→PHeap→Prop} {vC vP vB:PV} {bs:List Int} {s b n r0:Nat} {p:Int} {W:List (List Int)} {B:List (List (List Int))}
theorem KM.keepOf (k:KM σ s h) (hk:Keep σ0 σ) (hs:σ0.next≤s):Keep σ0 h:=by
 obtain⟨σ',⟨c0,c1,h0,h1,rfl⟩,q⟩:=k;exact(hk.set hs _).trans q
end Go.Proofs
namespace Go.Proofs
open Go.Ab Go.Lie
variable {σ σ0 h h':PHeap} {K:PV→PHeap→Prop} {vC vP vB vx vy:PV} {bs x y:List Int} {s b n r0:Nat} {p:Int} {W:List (List Int)} {B:List (List (List Int))}
theorem el1 (h:El p n x):Els p n [x]:=fun y hy=>by rw [List.mem_singleton.1 hy];exact h
theorem el2' (h:El p n x) (g:El p n y):Els p n [x,y]:=fun z hz=>by simp at hz;rcases hz with rfl | rfl<;>assumption
theorem qz (hx:FI vx x) (hy:FI vy y) (hl:x.length≤1048576) (hk:∀t:Bool,(t=true↔x=y)→K (.bool t) σ):zA Tryz.prog 35 [vx,vy] σ K:=by
 obtain⟨wx,ax,rfl⟩:=hx;obtain⟨wy,ay,rfl⟩:=hy;refine zC mix Tryz.func35 ?_
 conv=>arg 2;cbv
 refine zF rfl ?_;simp only [pwA,seval,-iQ0]
 by_cases hxy:x.length=y.length
 rotate_left
 ·have hne:¬(x.length:Int)=(y.length:Int):=by omega
  simp only [pwA,seval,-iQ0,hne];exact hk false ⟨fun h=>(by cases h),fun h=>absurd (by rw [h]) hxy⟩
 have heq:(x.length:Int)=(y.length:Int):=by omega
 simp only [pwA,seval,-iQ0,heq];refine zG (fun m us g=>∃i:Nat,i≤y.length∧m=y.length-i∧us=[.fz wx ax x.length (pis x),.fz wy ay y.length (pis y),.int .i64 i]∧g=σ∧∀j,j<i→x[j]? = y[j]?) y.length ⟨0,by omega,by omega,rfl,rfl,fun j hj=>absurd hj (Nat.not_lt_zero _)⟩ ?_
 rintro m us g ⟨i,hi,rfl,rfl,rfl,he⟩
 simp only [pwA,seval,-iQ0,heq];refine iteI (fun hlt=>?_) fun hge=>?_
 rotate_left
 ·refine hk true ⟨fun _=>List.ext_getElem? fun j=>?_,fun _=>rfl⟩
  rcases Nat.lt_or_ge j i with e|e
  ·exact he j e
  ·rw [List.getElem?_eq_none (by omega),List.getElem?_eq_none (by omega)]
 have hltx:i<x.length:=by omega
 have hlty:i<y.length:=by omega
 have wi1:IntKind.i64.wrap ((i:Int)+1)=((i+1:Nat):Int):=wrapS hlty (by omega)
 simp only [pwA,seval,-iQ0,pisAt hltx,pisAt hlty,hltx,hlty,wi1];refine iteI (fun hv=>?_) fun hv=>?_
 ·refine⟨_,by omega,i+1,by omega,rfl,rfl,fun j hj=>?_⟩
  rcases Nat.lt_or_ge j i with e|e
  ·exact he j e
  ·obtain rfl:j=i:=by omega
   rw [List.getElem?_eq_getElem hltx,List.getElem?_eq_getElem hlty,←at_eq hltx,←at_eq hlty,hv]
 ·refine hk false ⟨fun h=>(by cases h),fun h=>absurd ?_ hv⟩
  rw [h]
theorem zPc (hb:FB vC bs) (hk:∀t:Bool,(t=true↔4096<bs.length)→K (.bool t) σ):zA Tryz.prog 24 [vC] σ K:=by
 obtain⟨w,a,rfl⟩:=hb;refine zC mix Tryz.func24 ?_
 conv=>arg 2;cbv
 refine zF rfl ?_;simp only [pwA,seval,-iQ0];refine hk _ ?_;rw [decide_eq_true_eq];omega
end Go.Proofs
namespace Go.Grp
end Go.Grp
namespace Go.Proofs
open Go.Ab Go.Lie Go.Grp
variable {σ:PHeap} {K:PV→PHeap→Prop} {O:List Int} {P:List (List Int)} {C:List (List (List Int))} {vO vP vC vx vy vB:PV} {x y:List Int} {p:Int} {n:Nat} {W:List (List Int)} {B:List (List (List Int))} {sp s:Nat}
theorem zBh:isExp O x↔gS O x:=by
 constructor
 ·rintro ⟨h1,h2⟩
  exact⟨h1,fun j hj=>by have:=h2 j (by omega);omega,fun j hj=>by omega⟩
 ·intro h
  exact⟨h.len,fun j hj=>by have:=h.bd j (by rw [←h.len];exact hj);omega⟩
theorem Mul_F (g:LG O P C) (hR:IsPr vO vP vC O P C) (sz:SzP O P C) (hx:gS O x) (hy:gS O y) (hvx:FI vx x) (hvy:FI vy y)
  (hk:∀v,FI v (gm O P C x y)→K (.tup [v,.int .i64 0]) σ):zA Tryz.prog 42 [.agg [vO,vP,vC],vx,vy] σ K:=by
 have h0:=hR.O.one;have h1:=hR.P.one;have h2:=hR.C.one;have hn6:=g.s.le;have hxl:=hx.len;have hyl:=hy.len;have up:∀{z:List Int},gS O z→TT O (O.length-O.length) z:=fun h=>by rw [Nat.sub_self];exact h
 refine zA.gh ?_;refine zC mix Tryz.func42 ?_
 conv=>arg 2;cbv
 refine zF rfl ?_;simp only [pwA,seval,-iQ0,h0,h1,h2,hvx.one,hvx.cells,hvy.one,hvy.cells];have hkp:Keep σ (((σ.new [vO,vP,vC]).new [vx,vy]).kill (σ.next+1)):=((zD σ _).new _).kill (by omega)
 have hs:PtrG (((σ.new [vO,vP,vC]).new [vx,vy]).kill (σ.next+1)) σ.next vO vP vC:=⟨by simp only [pwA,seval,-iQ0],by simp only [pwA,seval,-iQ0];omega⟩
 refine zA.frz (s:=σ.next+1) (cs:=[vx,vy]) (by simp only [pwA,seval,-iQ0]) ⟨hvx.bel 0,hvy.bel 0,trivial⟩ fun o=>?_
 simp only [sbs,Go.Ab.sb,capOK,and_self,if_true,decide_true,Nat.le_refl];refine zAB (xs:=[x,y]) hs hR sz (zFC hvx hvy) (SzL.two (by omega) (by omega)) fun t ht=>?_
 obtain rfl:t=true:=ht.2 ⟨⟨g.pr,g.co⟩,fun z hz=>by
  simp only [List.mem_cons,List.not_mem_nil,or_false]at hz
  rcases hz with rfl|rfl
  ·exact zBh.2 hx
  ·exact zBh.2 hy⟩
 simp only [pwA,seval,-iQ0,hvx.sb,hvy.sb];refine zAE g.s g.F hs hR (up hx) (up hy) hvx hvy fun v hv=>?_
 simp only [pwA,seval,-iQ0];exact Gh.fin0 hkp ⟨hv.bel _,trivial,trivial⟩ (hk v hv)
theorem zCi (hR:IsPr vO vP vC O P C) (szO:O.length≤1048576) (bO:∀o∈O,isP o) (hy:FI vy y) (hb:y.length≤1048576) (hk:∀t:Bool,(t=true↔isExp O y)→K (.bool t) σ):zA Tryz.prog 129 [.agg [vO,vP,vC],vy] σ K:=by
 have h0:=hR.O.one;have h1:=hR.P.one;have h2:=hR.C.one;refine zA.gh ?_;refine zC mix Tryz.func129 ?_
 conv=>arg 2;cbv
 refine zF rfl ?_;simp only [pwA,seval,-iQ0,h0,h1,h2];refine Qo (t:=0) (by omega) (Nat.zero_le _) hR.O szO bO hy hb fun t ht=>?_
 simp only [pwA,seval,-iQ0];exact Gh.fin0 (zD σ _) trivial (hk _ (ht.trans ⟨fun h=>h.1,fun h=>⟨h,fun x hx=>by simp at hx⟩⟩))
theorem Mul_S (g:LG O P C) (hR:IsPr vO vP vC O P C) (sz:SzP O P C) (hx:gS O x) (hy:gS O y) (hvx:FI vx x) (hvy:FI vy y)
  (hk:∀v,FI v (gm O P C x y)→K (.tup [v,.int .i64 0]) σ):zA Tryz.prog 43 [.agg [vO,vP,vC],vx,vy] σ K:=by
 have h0:=hR.O.one;have h1:=hR.P.one;have h2:=hR.C.one;have hn6:=g.s.le;have hxl:=hx.len;have hyl:=hy.len;have hp:=qf.isp g.pr;refine zA.gh ?_;have hne:¬σ.next=σ.next+1:=by omega
 refine zC mix Tryz.func43 ?_
 conv=>arg 2;cbv
 refine zF rfl ?_;simp only [pwA,seval,-iQ0,h0,h1,h2];refine zIs hR sz fun t ht=>?_
 obtain rfl:t=true:=ht.2 ⟨g.pr,g.co⟩;simp only [pwA,seval,-iQ0];refine zCi hR (by omega) hp hvx (by omega) fun t ht=>?_
 obtain rfl:t=true:=ht.2 (zBh.2 hx);simp only [pwA,seval,-iQ0];refine zCi hR (by omega) hp hvy (by omega) fun t ht=>?_
 obtain rfl:t=true:=ht.2 (zBh.2 hy);simp only [pwA,seval,-iQ0];refine zL5 g.s hR hx hy hvx hvy fun v hv=>?_
 simp only [pwA,seval,-iQ0];exact Gh.fin0 (zD σ _) ⟨hv.bel _,trivial,trivial⟩ (hk v hv)
def OrdG (O:List Int) (P:List (List Int)) (C:List (List (List Int))) (x:List Int) (i:Nat):Prop:=
 ∀j N:Nat,(N:Int)=at_ O 0 ^ j→(Grp.pw (gm O P C) (zv O) x N=zv O↔i≤j)
theorem zDs (g:LG O P C) (hs:PtrG σ sp vO vP vC) (hR:IsPr vO vP vC O P C) (hx:gS O x) (hvx:FI vx x) (h0:0<O.length)
  (hk:∀m i:Nat,(m:Int)=at_ O 0 ^ i→(m:Int)≤729→OrdG O P C x i→K (.int .i64 m) σ):zA Tryz.prog 135 [.ptr sp 0,vx] σ K:=by
 have s:=g.s;have F:=g.F;have M:=F.g.toMon;have hn6:=s.le;have up:∀{z:List Int},gS O z→TT O (O.length-O.length) z:=fun h=>by rw [Nat.sub_self];exact h
 have hR0:=hR;obtain⟨⟨w0,a0,rfl⟩,_,_⟩:=hR;have e0:σ.rd1 sp 0=some (.fz w0 a0 O.length (pis O)):=by rw [zI hs.obj];rfl
 obtain⟨wx,ax,rfl⟩:=hvx;have hxl:=hx.len;have pge:∀j j' N N':Nat,(N:Int)=at_ O 0 ^ j→(N':Int)=at_ O 0 ^ j'→j≤j'→Grp.pw (gm O P C) (zv O) x N=zv O→Grp.pw (gm O P C) (zv O) x N'=zv O:=fun j j' N N' h1 h2 h3 h4=>by
  obtain⟨q,hq⟩:=(zJz (p:=at_ O 0) h3);have hN:(N':Int)=(N:Int)*q:=by rw [h2,h1,hq]
  have hN0:0<N:=by
   have:0<at_ O 0 ^ j:=Int.pow_pos (by have:=(s.pr 0 h0).1;omega)
   omega
  have hN1:0<(N':Int):=by rw [h2];exact Int.pow_pos (by have:=(s.pr 0 h0).1;omega)
  have hq0:0≤q:=by
   rcases Int.lt_or_le q 0 with h|h
   ·have:=Int.mul_neg_of_pos_of_neg (show(0:Int)<N by omega) h;omega
   ·exact h
  have e:N'=N*q.toNat:=by
   have:((N*q.toNat:Nat):Int)=(N':Int):=by rw [Int.natCast_mul,Int.toNat_of_nonneg hq0,hN]
   omega
  rw [e,M.pw_mul hx,h4,M.pw_e]
 refine zC mix Tryz.func135 ?_
 conv=>arg 2;cbv
 refine zF rfl ?_;simp only [pwA,seval,-iQ0];refine zG (fun m us h'=>∃(d k i:Nat) (w:Bool) (a:AV) (now:List Int),m=O.length-d∧us=[.ptr sp 0,.int .i64 k,.int .i64 d,.fz w a O.length (pis now)]∧σ=h'∧d≤O.length∧i≤d∧(k:Int)=at_ O 0 ^ i∧TT O d now∧now=Grp.pw (gm O P C) (zv O) x k∧∀j N:Nat,(N:Int)=at_ O 0 ^ j→Grp.pw (gm O P C) (zv O) x N=zv O→i≤j) O.length ⟨0,1,0,wx,ax,x,by omega,by rw [hxl];rfl,rfl,by omega,by omega,by simp,hx,(M.pw_one hx).symm,fun j N _ _=>Nat.zero_le j⟩ ?_
 rintro m us h' ⟨d,k,i,w,a,now,rfl,rfl,rfl,hd,hid,hki,hnow,hpw,hmin⟩
 have hnl:=hnow.len;have hz:=zPK hnl;have hbd:=g.bound h0 (i:=i) (by omega)
 simp only [pwA,seval,-iQ0];refine ZV hnl.symm (by omega) ?_
 by_cases hn0:now=zv O
 ·have hzz:=hz.2 hn0
  simp only [pwA,seval,-iQ0,hzz];exact hk k i hki (by omega) fun j N hN=>⟨fun h=>hmin j N hN h,fun h=>pge i j k N hki hN h (by rw [←hpw,hn0])⟩
 have hzz:¬isZ now:=fun h=>hn0 (hz.1 h)
 have hmin':∀j N:Nat,(N:Int)=at_ O 0 ^ j→Grp.pw (gm O P C) (zv O) x N=zv O→i+1≤j:=fun j N hN h=>by
  rcases Nat.lt_or_ge i j with e|e
  ·exact e
  ·exact absurd (by rw [hpw];exact pge j i N k hN hki e h) hn0
 have hdl:d<O.length:=by
  rcases Nat.lt_or_ge d O.length with h|h
  ·exact h
  ·exact absurd (hnow.ext (s.zv _) fun j h1 h2=>by omega) hn0
 have hdn:d<now.length:=by omega
 have bO:=s.pr d hdl;have eO:=g.eq hdl;have hdl':=hdl
 by_cases hdz:at_ now d=0
 ·simp only [pwA,seval,-iQ0,hzz,hdl,pisAt hdn,hdz,wrapS hdl (by omega:O.length≤4611686018427387904)]
  refine⟨_,by omega,d+1,k,i,w,a,now,rfl,rfl,by omega,by omega,hki,⟨hnow.len,hnow.bd,fun j hj=>?_⟩,hpw,hmin⟩
  rcases Nat.lt_or_ge j d with h|h
  ·exact hnow.zero j h
  ·rw [show j=d by omega];exact hdz
 ·simp only [pwA,seval,-iQ0,hzz,hdl,pisAt hdn,hdz,pisAt hdl,e0]
  have nS:gS O now:=hnow.mono (Nat.zero_le _);refine zBr s F hs hR0 (up nS) ⟨w,a,by rw [hnl]⟩ (k:=at_ O d) (by omega) fun v1 f1=>?_
  have hnx:=zJE s F g.cent hdl hnow;have hlen:=hnx.len;obtain⟨w1,a1,rfl⟩:=f1;have hb2:=g.bound h0 (i:=i+1) (by omega)
  have hk2:((k*(at_ O d).toNat:Nat):Int)=at_ O 0 ^ (i+1):=by
   rw [Int.natCast_mul,Int.toNat_of_nonneg (by omega),hki,eO,Int.pow_succ]
  have ew:IntKind.i64.wrap ((k:Int)*at_ O d)=((k*(at_ O d).toNat:Nat):Int):=by
   rw [show(k:Int)*at_ O d=((k*(at_ O d).toNat:Nat):Int) by rw [Int.natCast_mul,Int.toNat_of_nonneg (by omega)]]
   exact wrap64 (by omega) (by omega)
  simp only [pwA,seval,-iQ0,hzz,hdl,pisAt hdl,e0,ew,wrapS hdl' (by omega:O.length≤4611686018427387904)]
  refine⟨_,by omega,d+1,k*(at_ O d).toNat,i+1,w1,a1,Grp.pw (gm O P C) (zv O) now (at_ O d).toNat,rfl,by rw [show(Grp.pw (mu O P C O.length) (zv O) now (at_ O d).toNat).length=O.length from hlen],by omega,by omega,hk2,hnx,by rw [M.pw_mul hx,←hpw],hmin'⟩
theorem zFn (g:LG O P C) (hR:IsPr vO vP vC O P C) (sz:SzP O P C) (hx:gS O x) (hvx:FI vx x) (h0:0<O.length)
  (hk:∀m i:Nat,(m:Int)=at_ O 0 ^ i→OrdG O P C x i→K (.tup [.int .i64 m,.int .i64 0]) σ):zA Tryz.prog 47 [.agg [vO,vP,vC],vx] σ K:=by
 have g0:=hR.O.one;have g1:=hR.P.one;have g2:=hR.C.one;have hn6:=g.s.le;have hxl:=hx.len;refine zA.gh ?_;refine zC mix Tryz.func47 ?_
 conv=>arg 2;cbv
 refine zF rfl ?_;simp only [pwA,seval,-iQ0,g0,g1,g2,hvx.one,hvx.cells];have hkp:Keep σ (((σ.new [vO,vP,vC]).new [vx]).kill (σ.next+1)):=((zD σ _).new _).kill (by omega)
 have hs:PtrG (((σ.new [vO,vP,vC]).new [vx]).kill (σ.next+1)) σ.next vO vP vC:=⟨by simp only [pwA,seval,-iQ0],by simp only [pwA,seval,-iQ0];omega⟩
 refine zA.frz (s:=σ.next+1) (cs:=[vx]) (by simp only [pwA,seval,-iQ0]) ⟨hvx.bel 0,trivial⟩ fun o=>?_
 simp only [sbs,Go.Ab.sb,capOK,and_self,if_true,decide_true,Nat.le_refl];refine zAB (xs:=[x]) hs hR sz (zAh hvx) (SzL.one (by omega)) fun t ht=>?_
 obtain rfl:t=true:=ht.2 ⟨⟨g.pr,g.co⟩,fun z hz=>by
  simp only [List.mem_cons,List.not_mem_nil,or_false]at hz
  subst hz;exact zBh.2 hx⟩
 simp only [pwA,seval,-iQ0,hvx.sb];refine zDs g hs hR hx hvx h0 fun m i e1 e2 e3=>?_
 simp only [pwA,seval,-iQ0];exact Gh.fin0 hkp ⟨trivial,trivial,trivial⟩ (hk m i e1 e3)
def OrdL (p:Int) (W:List (List Int)) (n:Nat) (x:List Int) (i:Nat):Prop:=∀j:Nat,lmul p W (p ^ j) x=List.replicate n 0↔i≤j
theorem zFq (p:Int):∀k,pw_ p k=p ^ k
 | 0=>by simp [pw_]
 | k+1=>by rw [Int.pow_succ,←zFq p k];simp only [pw_];rw [Int.mul_comm]
theorem zOZ {z:List Int} (hz:El p n z):isZ z↔z=List.replicate n 0:=by
 constructor
 ·intro h
  refine List.ext_getElem (by rw [hz.1];simp) fun i h1 h2=>?_
  rw [h _ (List.getElem_mem h1)];simp
 ·rintro rfl y hy;exact List.eq_of_mem_replicate hy
end Go.Proofs
namespace Go.Proofs
open Go.Ab Go.Lie
variable {σ σ0 h h':PHeap} {K:PV→PHeap→Prop} {vC vP vB:PV} {bs:List Int} {s b n r0:Nat} {p:Int} {W:List (List Int)} {B:List (List (List Int))}
abbrev diC (vC:PV) (i:Nat) (hh:Int):List PV:=[vC,.int .i64 (i:Int),.int .u64 hh]
structure Di (σ:PHeap) (s:Nat) (vC:PV) (bs:List Int):Prop where
 ex:∃i hh,σ.obj s=some (diC vC i hh)∧i≤bs.length
 lt:s<σ.next
 fb:FB vC bs
 byt:Byt bs
theorem zOz (a:Int):pbin .shr .other (.int .u64 a) (.int .u64 33)=some (.int .u64 (a.fdiv 8589934592)):=rfl
theorem zMZ (a:Int):∃r:Int,pbin .and .other (.int .u64 a) (.int .u64 16777215)=some (.int .u64 r)∧0≤r∧r≤16777215:=by
 have h1:(BitVec.ofInt 64 a &&& BitVec.ofInt 64 16777215).toNat≤16777215:=by
  rw [BitVec.toNat_and];exact Nat.le_trans Nat.and_le_right (by decide)
 refine⟨_,rfl,?_⟩
 have:∀m:Nat,m≤16777215→IntKind.u64.wrap (m:Int)=(m:Int):=fun m hm=>by
  show(m:Int) % _=_
  exact Int.emod_eq_of_lt (by omega) (by show(m:Int)<18446744073709551616;omega)
 rw [show IntKind.u64.bits=64 from rfl,this _ h1]
 omega
theorem Di.keep (a:Di σ s vC bs) (k:Keep σ h):Di h s vC bs:=by
 obtain⟨i,hh,e,hi⟩:=a.ex;exact⟨⟨i,hh,by rw [k.obj _ a.lt];exact e,hi⟩,Nat.lt_of_lt_of_le a.lt k.next,a.fb,a.byt⟩
theorem zNx {sd:Int} (hb:FB vC bs) (hB:Byt bs) (hk:∀h,Keep σ h→Di h σ.next vC bs→h.next=σ.next+1→K (.ptr σ.next 0) h):zA Tryz.prog 29 [vC,.int .u64 sd] σ K:=by
 have hb0:=hb;obtain⟨w,av,rfl⟩:=hb;have hl:=hB.len;refine zN mix Tryz.func29 cf29 rfl ?_;dsimp only [if29,qI,eI,nI,qD,mI0,kI0,bI0,cI0,sI0,mD0,lD0,fD0,xD0,pD0,R0,S0];simp only [pwA,seval,-iQ0];generalize hC:(PV.fz w av bs.length (bs.map (.int .u8)))=vC at *
 refine zG (fun m vs h'=>∃(i:Nat) (hh:Int),i≤bs.length∧m=bs.length-i∧vs=[vC,.ptr σ.next 0,.int .i64 i]∧σ.new (diC vC 0 hh)=h') bs.length ?_ ?_
 ·exact⟨0,_,by omega,by omega,rfl,rfl⟩
 rintro m vs h' ⟨i,hh,hi,rfl,rfl,rfl⟩
 have hlen:pLen vC=some (.int .i64 bs.length):=by rw [←hC];rfl
 have wi1:IntKind.i64.wrap ((i:Int)+1)=((i+1:Nat):Int):=by rw [wrap64 (by omega) (by omega)];omega
 simp only [pwA,seval,-iQ0,hlen]
 by_cases hlt:i<bs.length
 rotate_left
 ·simp only [pwA,seval,-iQ0,hlt,decide_false]
  exact hk _ (zD _ _) ⟨⟨0,hh,by rw [zP,if_pos rfl],Nat.zero_le _⟩,Nat.lt_succ_self _,hb0,hB⟩ rfl
 obtain⟨b1,b2,b3⟩:=zE4 hB hlt;generalize bs.getD i 0=b at b1 b2 b3
 subst hC;simp only [pwA,seval,-iQ0,hlt,decide_true,b1,wi1];exact⟨_,by omega,i+1,_,by omega,rfl,rfl,rfl⟩
theorem zNj {n:Int} (D:Di σ s vC bs) (hn:1≤n) (hk:∀x h,0≤x→x<n→Mv σ s h→Di h s vC bs→K (.int .i64 x) h):zA Tryz.prog 30 [.ptr s 0,.int .i64 n] σ K:=by
 obtain⟨i,hh,ob,hi⟩:=D.ex;have hl:=D.byt.len;have hlt:=D.lt;have fb:=D.fb;obtain⟨w,av,rfl⟩:=D.fb;have q2:σ.rd1 s 2=some (.int .u64 hh):=by rw [zI ob];rfl
 have w2:∀y,σ.wr s 2 [.int .u64 y]=some (σ.set s (diC (.fz w av bs.length (bs.map (.int .u8))) i y)):=fun y=>by rw [zq ob,if_pos ⟨by simp,rfl⟩];rfl
 refine zC mix Tryz.func30 ?_
 conv=>arg 2;cbv
 refine zF rfl ?_;simp only [pwA,seval,-iQ0,q2,w2];generalize IntKind.u64.wrap (IntKind.u64.wrap (hh*6364136223846793005)+1442695040888963407)=hh1;have bel:∀(j:Nat) (y:Int),Bels 0 (diC (.fz w av bs.length (bs.map (.int .u8))) j y):=fun j y=>⟨trivial,trivial,trivial,trivial⟩
 have ob1:(σ.set s (diC (.fz w av bs.length (bs.map (.int .u8))) i hh1)).obj s=some (diC (.fz w av bs.length (bs.map (.int .u8))) i hh1):=by rw [zH,if_pos rfl]
 have fin:∀(j:Nat) (y x:Int),j≤bs.length→0≤x→K (.int .i64 (x.tmod n)) (σ.set s (diC (.fz w av bs.length (bs.map (.int .u8))) j y)):=fun j y x hj hx=>by
  rw [Int.tmod_eq_emod_of_nonneg hx];exact hk _ _ (Int.emod_nonneg x (by omega)) (Int.emod_lt_of_pos x (by omega)) ⟨_,_,ob,bel _ _,rfl⟩ ⟨⟨j,y,by rw [zH,if_pos rfl],hj⟩,hlt,fb,D.byt⟩
 have hset:∀(j:Nat) (y:Int),(σ.set s (diC (.fz w av bs.length (bs.map (.int .u8))) i hh1)).set s (diC (.fz w av bs.length (bs.map (.int .u8))) j y)=σ.set s (diC (.fz w av bs.length (bs.map (.int .u8))) j y):=fun j y=>zFo _ _ _ _
 have finI:=fin i hh1;have p0:(σ.set s (diC (.fz w av bs.length (bs.map (.int .u8))) i hh1)).rd1 s 0=some (.fz w av bs.length (bs.map (.int .u8))):=by rw [zI ob1];rfl
 have p1:(σ.set s (diC (.fz w av bs.length (bs.map (.int .u8))) i hh1)).rd1 s 1=some (.int .i64 i):=by rw [zI ob1];rfl
 have p2:(σ.set s (diC (.fz w av bs.length (bs.map (.int .u8))) i hh1)).rd1 s 2=some (.int .u64 hh1):=by rw [zI ob1];rfl
 have w1:(σ.set s (diC (.fz w av bs.length (bs.map (.int .u8))) i hh1)).wr s 1 [.int .i64 ((i+1:Nat):Int)]=some (σ.set s (diC (.fz w av bs.length (bs.map (.int .u8))) (i+1) hh1)):=by
  rw [zq ob1,if_pos ⟨by simp,rfl⟩,←hset (i+1) hh1];rfl
 generalize σ.set s (diC (.fz w av bs.length (bs.map (.int .u8))) i hh1)=σ1 at *
 obtain⟨x,hm,x0,x1⟩:=zMZ (hh1.fdiv 8589934592);have wx:IntKind.i64.wrap x=x:=wrap64 (by omega) (by omega)
 have hn0:n≠0:=by omega
 simp only [pwA,seval,-iQ0,p2,zOz,hm,wx]
 by_cases hlt':i<bs.length
 rotate_left
 ·simp only [pwA,seval,-iQ0,p0,p1,hlt',decide_false,hn0]
  exact finI x (by omega) x0
 obtain⟨b1,b2,b3⟩:=zE4 D.byt hlt';generalize bs.getD i 0=b at b1 b2 b3
 have e6:IntKind.i64.wrap b=b:=wrap64 (by omega) (by omega)
 have e7:IntKind.i64.wrap (x+b)=x+b:=wrap64 (by omega) (by omega)
 have wi1:IntKind.i64.wrap ((i:Int)+1)=((i+1:Nat):Int):=by rw [wrap64 (by omega) (by omega)];omega
 simp only [pwA,seval,-iQ0,p0,p1,hlt',decide_true,b1,e6,e7,wi1,w1,hn0];exact fin (i+1) hh1 _ (by omega) (by omega)
end Go.Proofs
namespace Go.Proofs
open Go.Ab Go.Lie
variable {σ:PHeap} {K:PV→PHeap→Prop} {va vb vx:PV} {p:Int} {W:List (List Int)} {B:List (List (List Int))} {xs ys:List (List Int)} {x:List Int}
theorem CodR.zero {α:Type} {nil val z:α} {c:Int} (h:CodR p W B xs nil val z c) (hc:c=0):((isLie p W B∧Els p W.length xs)∧isLz p W.length W B)∧z=val:=by
 rcases h with ⟨d,h1,h2,h3,h4⟩|⟨h1,h2,h3⟩
 ·omega
 ·exact⟨h1.zero,h3⟩
theorem zCd (ha:FII va xs) (hb:FII vb ys) (sz:SzL xs) (hk:∀t:Bool,(t=true↔xs=ys)→K (.bool t) σ):zA Tryz.prog 26 [va,vb] σ K:=by
 obtain⟨wx,ax,rx,rfl,hrx⟩:=ha;obtain⟨wy,ay,ry,rfl,hry⟩:=hb;have hl:=sz.l;refine zC mix Tryz.func26 ?_
 conv=>arg 2;cbv
 refine zF rfl ?_;simp only [pwA,seval,-iQ0]
 by_cases hxy:xs.length=ys.length
 rotate_left
 ·have hne:¬(xs.length:Int)=(ys.length:Int):=by omega
  simp only [pwA,seval,-iQ0,hne];exact hk false ⟨fun h=>(by cases h),fun h=>absurd (by rw [h]) hxy⟩
 have heq:(xs.length:Int)=(ys.length:Int):=by omega
 simp only [pwA,seval,-iQ0,heq];refine zG (fun m us g=>∃i:Nat,i≤ys.length∧m=ys.length-i∧us=[.fz wx ax xs.length rx,.fz wy ay ys.length ry,.int .i64 i]∧g=σ∧∀j,j<i→xs[j]? = ys[j]?) ys.length ⟨0,by omega,by omega,rfl,rfl,fun j hj=>absurd hj (Nat.not_lt_zero _)⟩ ?_
 rintro m us g ⟨i,hi,rfl,rfl,rfl,he⟩
 simp only [pwA,seval,-iQ0,heq];refine iteI (fun hlt=>?_) fun hge=>?_
 rotate_left
 ·refine hk true ⟨fun _=>List.ext_getElem? fun j=>?_,fun _=>rfl⟩
  rcases Nat.lt_or_ge j i with e|e
  ·exact he j e
  ·rw [List.getElem?_eq_none (by omega),List.getElem?_eq_none (by omega)]
 have hltx:i<xs.length:=by omega
 have hlty:i<ys.length:=by omega
 have wi1:IntKind.i64.wrap ((i:Int)+1)=((i+1:Nat):Int):=wrapS hlty (by omega)
 obtain⟨w1,a1,h1⟩:=hrx.rowI hltx;obtain⟨w2,a2,h2⟩:=hry.rowI hlty;have hle:=sz.r _ (List.getElem_mem hltx);simp only [pwA,seval,-iQ0,h1,h2,hltx,hlty];refine qz ⟨w1,a1,rfl⟩ ⟨w2,a2,rfl⟩ hle fun t ht=>?_
 cases t with
 | false=>
  simp only [pwA,seval,-iQ0];refine hk false ⟨fun h=>(by cases h),fun h=>?_⟩
  have:=ht.2 (by simp only [h])
  cases this
 | true=>
  have hv:=ht.1 rfl;simp only [pwA,seval,-iQ0,wi1];refine⟨_,by omega,i+1,by omega,rfl,rfl,fun j hj=>?_⟩
  rcases Nat.lt_or_ge j i with e|e
  ·exact he j e
  ·obtain rfl:j=i:=by omega
   rw [List.getElem?_eq_getElem hltx,List.getElem?_eq_getElem hlty,hv]
theorem zN4 {T h:PHeap} {s bytes n:Nat} {v x:PV} {cs:List PV} {K:PV×PHeap→Prop} (km:KM T s h) (a:PSl T.next 1 h v n cs)
  (h1:(n+1)*bytes≤140737488355328) (h2:n+1≤4611686018427387904) (k:∀v' h',KM T s h'→(∀t,t<T.next→h'.obj t=h.obj t)→PSl T.next 1 h' v' (n+1) (cs++[x])→K (v',h')):optK (qH 1 bytes (h.new [x]) v (.sl h.next 0 1 (.known 1))) K:=by
 obtain⟨σ',m,q⟩:=km;have hn:=m.next;refine PSl.push (σb:=σ') (bytes:=bytes) q (by rw [hn];exact a) h1 h2 fun v' h' k1 k2=>k v' h' ⟨σ',m,k1⟩ (fun t ht=>by rw [k1.obj t (by omega),q.obj t (by omega)]) (by rw [←hn];exact k2)
theorem Di.same {h h':PHeap} {s:Nat} {vC:PV} {bs:List Int} (a:Di h s vC bs) (ho:h'.obj s=h.obj s) (hn:s<h'.next):Di h' s vC bs:=by
 obtain⟨i,hh,e,hi⟩:=a.ex;exact⟨⟨i,hh,by rw [ho];exact e,hi⟩,hn,a.fb,a.byt⟩
end Go.Proofs
namespace Go.Proofs
open Go.Ab Go.Lie
variable {σ:PHeap} {K:PV→PHeap→Prop} {p p':Int} {n:Nat} {W W':List (List Int)} {B B':List (List (List Int))} {vP vB vL vU vV vX vC vP' vB':PV} {s:Nat} {u gens:List (List Int)} {x bs:List Int}
theorem zGF {va vb:PV} {xs ys:List (List (List Int))} (ha:FIII va xs) (hb:FIII vb ys) (hl:xs.length≤1048576) (sz:∀q∈xs,SzL q) (hk:∀t:Bool,(t=true↔xs=ys)→K (.bool t) σ):zA Tryz.prog 122 [va,vb] σ K:=by
 have fl:∀{A:Prop},¬A→((false=true)↔A):=fun h=>⟨fun x=>(by cases x),fun x=>absurd x h⟩
 obtain⟨wx,ax,rx,rfl,hrx⟩:=ha;obtain⟨wy,ay,ry,rfl,hry⟩:=hb;refine zC mix Tryz.func122 ?_
 conv=>arg 2;cbv
 refine zF rfl ?_;simp only [pwA,seval,-iQ0]
 by_cases hxy:xs.length=ys.length
 rotate_left
 ·have hne:¬(xs.length:Int)=(ys.length:Int):=by omega
  simp only [pwA,seval,-iQ0,hne];exact hk _ (fl fun h=>hxy (by rw [h]))
 have hne:(xs.length:Int)=(ys.length:Int):=by omega
 simp only [pwA,seval,-iQ0,eq_true hne];refine zG (fun m vs h'=>∃i:Nat,i≤xs.length∧m=xs.length-i∧vs=[.fz wx ax xs.length rx,.fz wy ay ys.length ry,.int .i64 i]∧σ=h'∧xs.take i=ys.take i) xs.length ⟨0,by omega,by omega,rfl,rfl,rfl⟩ ?_
 rintro m vs h' ⟨i,hi,rfl,rfl,rfl,heq⟩
 simp only [pwA,seval,-iQ0];refine iteI (fun hlt=>?_) fun hge=>?_
 rotate_left
 ·have hie:i=xs.length:=by omega
  subst hie;rw [List.take_length,hxy,List.take_length]at heq
  exact hk _ ⟨fun _=>heq,fun _=>rfl⟩
 have hlt2:i<ys.length:=by omega
 obtain⟨w4,a4,r4,hr,hr4⟩:=hrx.rowL hlt;obtain⟨w5,a5,r5,hr2,hr5⟩:=hry.rowL hlt2;simp only [pwA,seval,-iQ0,hlt,hlt2,hr,hr2];refine zCd (xs:=xs[i]) (ys:=ys[i]) ⟨w4,a4,r4,rfl,hr4⟩ ⟨w5,a5,r5,rfl,hr5⟩ (sz _ (List.getElem_mem hlt)) fun t ht=>?_
 cases t with
 | true=>
  simp only [pwA,seval,-iQ0,wrapS hlt (by omega:xs.length≤4611686018427387904)]
  refine⟨_,by omega,i+1,by omega,rfl,rfl,?_⟩
  rw [List.take_succ_eq_append_getElem hlt,List.take_succ_eq_append_getElem hlt2,heq,ht.1 rfl]
 | false=>
  simp only [pwA,seval,-iQ0];refine hk _ (fl fun h=>?_)
  have:=ht.2 (by subst h;rfl)
  cases this
end Go.Proofs
namespace Go.Grp
end Go.Grp
namespace Go.Proofs
open Go.Ab Go.Lie Go.Grp
variable {σ:PHeap} {K:PV→PHeap→Prop} {n c:Nat} {p:Int} {W:List (List Int)} {B:List (List (List Int))} {vP vB vM:PV} {s:Nat} {O:List Int} {P:List (List Int)} {C:List (List (List Int))} {vO vQ vC:PV} {lo hi:Nat}
def LGR (p:Int) (W:List (List Int)) (B:List (List (List Int))) (O:List Int) (P:List (List Int)) (C:List (List (List Int))) (c:Int):Prop:=
 (CodeL p W B [] c∧c≠0∧O=[]∧P=[]∧C=[])∨(CodeL p W B [] 0∧c=0∧O=List.replicate W.length p∧P=lgPs p W.length W B W.length∧C=lgCs p W.length W B W.length)
theorem LGR.unique {O':List Int} {P':List (List Int)} {C':List (List (List Int))} {c c':Int} (h:LGR p W B O P C c) (g:LGR p W B O' P' C' c'):(O=O'∧P=P'∧C=C')∧c=c':=by
 rcases h with ⟨h1,h2,h3,h4,h5⟩|⟨h1,h2,h3,h4,h5⟩<;>rcases g with ⟨g1,g2,g3,g4,g5⟩|⟨g1,g2,g3,g4,g5⟩
 ·exact⟨⟨by rw [h3,g3],by rw [h4,g4],by rw [h5,g5]⟩,h1.unique g1⟩
 ·exact absurd (h1.unique g1) h2
 ·exact absurd (g1.unique h1) g2
 ·exact⟨⟨by rw [h3,g3],by rw [h4,g4],by rw [h5,g5]⟩,by rw [h2,g2]⟩
theorem lg_bd {c:Int} (h:LGR p W B O P C c):SzP O P C:=by
 rcases h with ⟨_,_,rfl,rfl,rfl⟩|⟨h1,_,rfl,rfl,rfl⟩
 ·exact⟨by simp,⟨by simp,fun y hy=>by cases hy⟩,⟨by simp,fun y hy=>by cases hy⟩⟩
 ·have h6:=h1.zero.1.1.1.w.le
  refine⟨by simp;omega,⟨by simp [lgPs];omega,fun y hy=>?_⟩,⟨by simp [lgCs];omega,fun q hq=>?_⟩⟩
  ·obtain⟨i,_,rfl⟩:=List.mem_map.1 hy
   rw [show(lgP p W.length W B i).length=W.length from ZF _];omega
  ·obtain⟨i,_,rfl⟩:=List.mem_map.1 hq
   refine⟨by simp [lgR];omega,fun y hy=>?_⟩
   obtain⟨k,_,rfl⟩:=List.mem_map.1 hy;rw [show(lgC p W.length W B i k).length=W.length from ZF _];omega
theorem zGT (hR:IsR vP vB W B) (szr:SzR W B)
  (hk:∀vO vQ vC O P C c t,LGR p W B O P C c→IsPr vO vQ vC O P C→Own σ.top t (.agg [vO,vQ,vC])→σ.top≤t→K (.tup [.agg [vO,vQ,vC],.int .i64 c]) (σ.up t)):zA Tryz.prog 37 [.agg [.int .i64 p,vP,vB]] σ K:=by
 have h1:=hR.P.one;have h2:=hR.B.one;refine zA.gh ?_;generalize hT:(σ.new [.int .i64 p,vP,vB]).new [.fz true .nils 0 [],.fz true .nils 0 [],.fz true .nils 0 []]=T;have hTn:T.next=σ.next+2:=by rw [←hT];rfl
 have hTt:T.top=σ.top:=by rw [←hT];rfl
 have hkT:Keep σ T:=by rw [←hT];exact(zD σ _).new _
 have hs:PtrR T σ.next p vP vB:=⟨by rw [←hT];simp only [pwA,seval,-iQ0],by omega⟩
 have hO3:∀{g:PHeap} {u0 u1 u2:PV},Keep T g→u0.one=true→u1.one=true→u2.one=true→g.wr (σ.next+1) 0 [u0,u1,u2]=some (g.set (σ.next+1) [u0,u1,u2])∧(g.set (σ.next+1) [u0,u1,u2]).rd (σ.next+1) 0 3=some [u0,u1,u2]:=fun {g u0 u1 u2} k z0 z1 z2=>by
  have hres:g.obj (σ.next+1)=some [.fz true .nils 0 [],.fz true .nils 0 [],.fz true .nils 0 []]:=by rw [k.obj _ (by omega),←hT];simp only [pwA,seval,-iQ0]
  exact⟨by rw [zq hres,if_pos ⟨by simp,by simp only [List.all_cons,List.all_nil,z0,z1,z2];rfl⟩];rfl,by rw [qo,if_pos rfl];rfl⟩
 refine zC mix Tryz.func37 ?_
 conv=>arg 2;cbv
 refine zF rfl ?_;simp only [pwA,seval,-iQ0,h1,h2];rw [hT];refine QT (xs:=[]) hs hR szr ⟨true,.nils,[],rfl,All2.nil _⟩ ⟨by simp,fun y hy=>by cases hy⟩ fun c hc=>?_
 by_cases hc0:c=0
 rotate_left
 ·obtain⟨g1,g2⟩:=hO3 (Keep.refl T) (u0:=.fz true .nils 0 []) (u1:=.fz true .nils 0 []) (u2:=.fz true .nils 0 []) rfl rfl rfl
  simp only [pwA,seval,-iQ0,hc0,g1,g2];exact Gh.fin0T (t:=σ.top) (hkT.set (by omega) _) (by show σ.top≤T.top;omega) ⟨⟨trivial,trivial,trivial,trivial⟩,trivial,trivial⟩ fun _=>hk _ _ _ [] [] [] _ σ.top (.inl ⟨hc,hc0,rfl,rfl,rfl⟩) ⟨⟨true,.nils,rfl⟩,⟨true,.nils,[],rfl,All2.nil _⟩,⟨true,.nils,[],rfl,All2.nil _⟩⟩ ⟨⟨.inl rfl,.inl rfl,.inl rfl,trivial⟩,List.nodup_nil,fun o ho=>by cases ho⟩ (Nat.le_refl _)
 subst hc0;obtain⟨⟨hl,_⟩,hz⟩:=hc.zero;obtain⟨cc,lz⟩:=Lz.of hl hz;simp only [pwA,seval,-iQ0];refine zGI lz hs hR fun vO vQ vC t f1 f2 f3 ho ht=>?_
 have hpr:IsPr vO vQ vC (List.replicate W.length p) (lgPs p W.length W B W.length) (lgCs p W.length W B W.length):=⟨f1,f2,f3⟩;obtain⟨g1,g2⟩:=hO3 ((Keep.refl T).up ht) f1.one f2.one f3.one;simp only [pwA,seval,-iQ0,g1,g2];refine Gh.fin0T (t:=t) ((hkT.up ht).set (by omega) _) (Nat.le_refl _) ⟨⟨f1.bel _,f2.bel _,f3.bel _,trivial⟩,trivial,trivial⟩ fun _=>hk _ _ _ _ _ _ _ t (.inr ⟨hc,rfl,rfl,rfl,rfl⟩) hpr (by rw [hTt]at ho;exact ho) (by omega)
theorem zDN (hR:IsR vP vB W B) (szr:SzR W B)
  (hk:∀vO vQ vC O P C c,LGR p W B O P C c→IsPr vO vQ vC O P C→K (.tup [.agg [vO,vQ,vC],.int .i64 c]) σ):zA Tryz.prog 28 [.agg [.int .i64 p,vP,vB]] σ K:=by
 have h1:=hR.P.one;have h2:=hR.B.one;refine zA.gh ?_;generalize hT:(σ.new [.int .i64 p,vP,vB]).new [.fz true .nils 0 [],.fz true .nils 0 [],.fz true .nils 0 []]=T;have hTn:T.next=σ.next+2:=by rw [←hT];rfl
 have hkT:Keep σ T:=by rw [←hT];exact(zD σ _).new _
 have ld:∀{g:PHeap},Keep T g→g.rd σ.next 0 3=some [.int .i64 p,vP,vB]:=fun {g} k=>by
  have ob:g.obj σ.next=some [.int .i64 p,vP,vB]:=by rw [k.obj _ (by omega),←hT];simp only [pwA,seval,-iQ0]
  rw [zh ob];rfl
 have hO3:∀{g:PHeap} {u0 u1 u2:PV},Keep T g→u0.one=true→u1.one=true→u2.one=true→g.wr (σ.next+1) 0 [u0,u1,u2]=some (g.set (σ.next+1) [u0,u1,u2])∧(g.set (σ.next+1) [u0,u1,u2]).rd (σ.next+1) 0 3=some [u0,u1,u2]:=fun {g u0 u1 u2} k z0 z1 z2=>by
  have hres:g.obj (σ.next+1)=some [.fz true .nils 0 [],.fz true .nils 0 [],.fz true .nils 0 []]:=by rw [k.obj _ (by omega),←hT];simp only [pwA,seval,-iQ0]
  exact⟨by rw [zq hres,if_pos ⟨by simp,by simp only [List.all_cons,List.all_nil,z0,z1,z2];rfl⟩];rfl,by rw [qo,if_pos rfl];rfl⟩
 have l3:=ld (Keep.refl T);refine zC mix Tryz.func28 ?_
 conv=>arg 2;cbv
 refine zF rfl ?_;simp only [pwA,seval,-iQ0,h1,h2];rw [hT];simp only [pwA,seval,-iQ0,l3];have kT2:Keep T ((T.new []).kill (σ.next+2)):=((Keep.refl T).new _).kill (by omega)
 refine zA.frz (s:=σ.next+2) (cs:=[]) (by rw [zP,if_pos hTn.symm]) trivial fun o1=>?_
 simp only [sbs,Go.Ab.sb,capOK,and_self,if_true,decide_true,Nat.le_refl,hR.P.sb,hR.B.sb];generalize (T.new []).kill (σ.next+2)=T2 at *
 have l4:=ld kT2;refine zB1 (xs:=[]) hR szr ⟨true,_,[],rfl,All2.nil _⟩ ⟨by simp,fun y hy=>by cases hy⟩ fun c hc=>?_
 by_cases hc0:c=0
 rotate_left
 ·obtain⟨g1,g2⟩:=hO3 kT2 (u0:=.fz true .nils 0 []) (u1:=.fz true .nils 0 []) (u2:=.fz true .nils 0 []) rfl rfl rfl
  simp only [pwA,seval,-iQ0,hc0,g1,g2];exact Gh.fin0 ((hkT.trans kT2).set (by omega) _) ⟨⟨trivial,trivial,trivial,trivial⟩,trivial,trivial⟩ (hk _ _ _ [] [] [] _ (.inl ⟨hc,hc0,rfl,rfl,rfl⟩) ⟨⟨true,.nils,rfl⟩,⟨true,.nils,[],rfl,All2.nil _⟩,⟨true,.nils,[],rfl,All2.nil _⟩⟩)
 subst hc0;obtain⟨⟨hl,_⟩,hz⟩:=hc.zero;obtain⟨cc,lz⟩:=Lz.of hl hz;simp only [pwA,seval,-iQ0,l4];refine zIk lz hR fun vO vQ vC f1 f2 f3=>?_
 obtain⟨g1,g2⟩:=hO3 kT2 f1.one f2.one f3.one;simp only [pwA,seval,-iQ0,g1,g2];exact Gh.fin0 ((hkT.trans kT2).set (by omega) _) ⟨⟨f1.bel _,f2.bel _,f3.bel _,trivial⟩,trivial,trivial⟩ (hk _ _ _ _ _ _ _ (.inr ⟨hc,rfl,rfl,rfl,rfl⟩) ⟨f1,f2,f3⟩)
end Go.Proofs
namespace Go.Grp
end Go.Grp
namespace Go.Proofs
open Go.Ab Go.Lie Go.Grp
variable {σ:PHeap} {K:PV→PHeap→Prop} {O O':List Int} {P P':List (List Int)} {C C':List (List (List Int))} {vO vQ vC vO' vQ' vC' vP vx vy vB:PV} {x y bs:List Int} {p:Int} {n c:Nat} {W:List (List Int)} {B:List (List (List Int))} {sp s:Nat}
theorem zLr (o:OkW p n W) (hx:El p n x):lmul p W (p ^ n) x=List.replicate n 0:=by
 refine qJ o (zJ o hx hx).1 (by simp) (zJ o hx hx).2 (ZH o.pr).2 ?_
 rw [←zFq];exact(qP o hx _).trans ((QX o fun j hj=>hx.beyond hj).trans (Eqv.of_eq fun j=>(zm n j).symm))
theorem zNN (o:OkW p n W) (k:Int):lmul p W k (List.replicate n 0)=List.replicate n 0:=by
 have hz:El p n (List.replicate n 0):=ZH o.pr;refine qJ o (zJ o hz hz).1 (by simp) (zJ o hz hz).2 (ZH o.pr).2 ?_
 exact(qP o hz k).trans (Eqv.of_eq fun j=>by rw [zm];simp)
theorem zFW (o:OkW p n W) (hx:El p n x) {i j:Nat} (hij:i≤j) (h:lmul p W (p ^ i) x=List.replicate n 0):lmul p W (p ^ j) x=List.replicate n 0:=by
 have e:p ^ j=p ^ (j-i)*p ^ i:=by rw [←Int.pow_add];congr 1;omega
 rw [e,←zDw o hx,h,zNN o]
theorem zGG (hs:PtrR σ s p vP vB) (hR:IsR vP vB W B) (o:OkW p n W) (hpow:ipow p n≤729) (hx:El p n x) (hvx:FI vx x) (hk:∀m i:Nat,(m:Int)=p ^ i→OrdL p W n x i→K (.int .i64 m) σ):zA Tryz.prog 134 [.ptr s 0,vx] σ K:=by
 have hn6:=o.le;have hpr:2≤p∧p≤7:=o.pr;have hp0:σ.rd1 s 0=some (.int .i64 p):=by rw [zI hs.obj];rfl
 obtain⟨wx,ax,rfl⟩:=hvx;have hxl:=hx.1;have bnd:∀i,i≤n→1≤p ^ i∧p ^ i≤729:=fun i hi=>by
  have h1:1≤p ^ i:=by have:=Int.pow_pos (n:=p) (m:=i) (by have:=hpr.1;omega);omega
  have h2:p ^ i≤p ^ n:=by
   have h3:1≤p ^ (n-i):=by have:=Int.pow_pos (n:=p) (m:=n-i) (by have:=hpr.1;omega);omega
   have h4:=Int.mul_le_mul_of_nonneg_left h3 (show 0≤p ^ i by omega)
   rw [Int.mul_one,←Int.pow_add,show i+(n-i)=n by omega]at h4
   exact h4
  rw [zD3]at hpow
  omega
 refine zC mix Tryz.func134 ?_
 conv=>arg 2;cbv
 refine zF rfl ?_;simp only [pwA,seval,-iQ0];refine zG (fun m us h'=>∃(i k:Nat) (w:Bool) (a:AV) (now:List Int),m=n-i∧us=[.ptr s 0,.fz w a n (pis now),.int .i64 k]∧σ=h'∧i≤n∧(k:Int)=p ^ i∧El p n now∧now=lmul p W (p ^ i) x∧∀j:Nat,lmul p W (p ^ j) x=List.replicate n 0→i≤j) n ⟨0,1,wx,ax,x,by omega,by rw [hxl];rfl,rfl,by omega,by simp,hx,by rw [Int.pow_zero,zNO o hx],fun j _=>Nat.zero_le j⟩ ?_
 rintro m us h' ⟨i,k,w,a,now,rfl,rfl,rfl,hi,hki,hnow,he,hmin⟩
 have hnl:=hnow.1;have hz:=zOZ hnow;have b1:=bnd i hi;simp only [pwA,seval,-iQ0];refine ZV hnl.symm (by omega) ?_
 by_cases hn0:now=List.replicate n 0
 ·have hzz:=hz.2 hn0
  simp only [pwA,seval,-iQ0,hzz];exact hk k i hki fun j=>⟨hmin j,fun h=>zFW o hx h (by rw [←he,hn0])⟩
 have hzz:¬isZ now:=fun h=>hn0 (hz.1 h)
 have hin:i<n:=by
  rcases Nat.lt_or_ge i n with h|h
  ·exact h
  ·exact absurd (by rw [he];exact zFW o hx h (zLr o hx)) hn0
 have b2:=bnd (i+1) hin;simp only [pwA,seval,-iQ0,hzz,hp0];refine QM o hs hR.P hnow ⟨w,a,by rw [hnl]⟩ (k:=p) (by omega) fun v1 f1=>?_
 have hl2:=(zJ o (k:=p) (m:=0) hnow hnow).1;obtain⟨w1,a1,rfl⟩:=f1;have hk2:((k*p.toNat:Nat):Int)=p ^ (i+1):=by
  rw [Int.natCast_mul,Int.toNat_of_nonneg (by omega),hki,Int.pow_succ]
 have ew:IntKind.i64.wrap ((k:Int)*p)=((k*p.toNat:Nat):Int):=by
  rw [show(k:Int)*p=((k*p.toNat:Nat):Int) by rw [Int.natCast_mul,Int.toNat_of_nonneg (by omega)]]
  exact wrap64 (by omega) (by omega)
 simp only [pwA,seval,-iQ0,hzz,hp0,ew];refine⟨_,by omega,i+1,k*p.toNat,w1,a1,lmul p W p now,rfl,by rw [show(lmul p W p now).length=n from hl2],hin,hk2,zJ o hnow hnow,by rw [he,zDw o hx,Int.pow_succ,Int.mul_comm],fun j hj=>?_⟩
 rcases Nat.lt_or_ge i j with h|h
 ·exact h
 ·exact absurd (by rw [he];exact zFW o hx h hj) hn0
theorem zDT (lz:Lz p W.length W B c) (hl:isLie p W B) (hR:IsR vP vB W B) (szr:SzR W B) (hx:El p W.length x) (hvx:FI vx x) (hk:∀m i:Nat,(m:Int)=p ^ i→OrdL p W W.length x i→K (.tup [.int .i64 m,.int .i64 0]) σ):zA Tryz.prog 46 [.agg [.int .i64 p,vP,vB],vx] σ K:=by
 have h1:=hR.P.one;have h2:=hR.B.one;have o:=lz.r.o;have hn6:=o.le;have hxl:=hx.1;refine zA.gh ?_;refine zC mix Tryz.func46 ?_
 conv=>arg 2;cbv
 refine zF rfl ?_;simp only [pwA,seval,-iQ0,h1,h2,hvx.one,hvx.cells];have hkp:Keep σ (((σ.new [.int .i64 p,vP,vB]).new [vx]).kill (σ.next+1)):=((zD σ _).new _).kill (by omega)
 have hs:PtrR (((σ.new [.int .i64 p,vP,vB]).new [vx]).kill (σ.next+1)) σ.next p vP vB:=⟨by simp only [pwA,seval,-iQ0],by simp only [pwA,seval,-iQ0];omega⟩
 refine zA.frz (s:=σ.next+1) (cs:=[vx]) (by simp only [pwA,seval,-iQ0]) ⟨hvx.bel 0,trivial⟩ fun o1=>?_
 simp only [sbs,sb,capOK,and_self,if_true,decide_true,Nat.le_refl,hvx.sb];refine zBb (xs:=[x]) hs hR szr (zAh hvx) (SzL.one (by omega)) fun t ht=>?_
 obtain rfl:t=true:=ht.2 ⟨hl,el1 hx⟩;simp only [pwA,seval,-iQ0];refine zGG hs hR o lz.pow hx hvx fun m i e1 e2=>?_
 simp only [pwA,seval,-iQ0];exact Gh.fin0 hkp ⟨trivial,trivial,trivial⟩ (hk m i e1 e2)
theorem zDt (h0:O.length=0) (hx:gS O x) (hvx:FI vx x) (hk:K (.int .i64 1) σ):zA Tryz.prog 135 [.ptr sp 0,vx] σ K:=by
 have hxl:=hx.len;obtain rfl:x=[]:=List.length_eq_zero_iff.1 (by omega)
 obtain⟨wx,ax,rfl⟩:=hvx;refine zC mix Tryz.func135 ?_
 conv=>arg 2;cbv
 refine zF rfl ?_;simp only [pwA,seval,-iQ0];refine zG (fun m us h'=>m=0∧us=[.ptr sp 0,.int .i64 1,.int .i64 0,.fz wx ax 0 (pis [])]∧σ=h') 0 ⟨rfl,rfl,rfl⟩ ?_
 rintro m us h' ⟨rfl,rfl,rfl⟩
 have hz:isZ []:=fun x hx=>by cases hx
 simp only [pwA,seval,-iQ0];refine ZV rfl (by simp) ?_
 simp only [pwA,seval,-iQ0,hz];exact hk
theorem zE9 (g:LG O P C) (hR:IsPr vO vQ vC O P C) (sz:SzP O P C) (hx:gS O x) (hvx:FI vx x)
  (hk:(0<O.length→∀m i:Nat,(m:Int)=at_ O 0 ^ i→OrdG O P C x i→K (.tup [.int .i64 m,.int .i64 0]) σ)∧(O.length=0→K (.tup [.int .i64 1,.int .i64 0]) σ)):zA Tryz.prog 47 [.agg [vO,vQ,vC],vx] σ K:=by
 rcases Nat.eq_zero_or_pos O.length with h0|h0
 rotate_left
 ·exact zFn g hR sz hx hvx h0 (hk.1 h0)
 have g0:=hR.O.one;have g1:=hR.P.one;have g2:=hR.C.one;have hxl:=hx.len;refine zA.gh ?_;refine zC mix Tryz.func47 ?_
 conv=>arg 2;cbv
 refine zF rfl ?_;simp only [pwA,seval,-iQ0,g0,g1,g2,hvx.one,hvx.cells];have hkp:Keep σ (((σ.new [vO,vQ,vC]).new [vx]).kill (σ.next+1)):=((zD σ _).new _).kill (by omega)
 have hs:PtrG (((σ.new [vO,vQ,vC]).new [vx]).kill (σ.next+1)) σ.next vO vQ vC:=⟨by simp only [pwA,seval,-iQ0],by simp only [pwA,seval,-iQ0];omega⟩
 refine zA.frz (s:=σ.next+1) (cs:=[vx]) (by simp only [pwA,seval,-iQ0]) ⟨hvx.bel 0,trivial⟩ fun o=>?_
 simp only [sbs,Go.Ab.sb,capOK,and_self,if_true,decide_true,Nat.le_refl];refine zAB (xs:=[x]) hs hR sz (zAh hvx) (SzL.one (by omega)) fun t ht=>?_
 obtain rfl:t=true:=ht.2 ⟨⟨g.pr,g.co⟩,fun z hz=>by
  simp only [List.mem_cons,List.not_mem_nil,or_false]at hz
  subst hz;exact zBh.2 hx⟩
 simp only [pwA,seval,-iQ0,hvx.sb];refine zDt h0 hx hvx ?_;simp only [pwA,seval,-iQ0];exact Gh.fin0 hkp ⟨trivial,trivial,trivial⟩ (hk.2 h0)
theorem pt_pw (z:Lz p n W B c) (hx:El p n x):∀k:Nat,El p n (Grp.pw (rm p n W B) (zv (rO p n)) x k)∧ptG p n W B (Grp.pw (rm p n W B) (zv (rO p n)) x k) n=lmul p W k (ptG p n W B x n)
 | 0=>⟨by rw [show Grp.pw (rm p n W B) (zv (rO p n)) x 0=zv (rO p n) from rfl,zv_rO];exact ZH z.r.o.pr,by
  show ptG p n W B (zv (rO p n)) n=_;rw [zC7 z,←z.pw_eq (pt_el z x) 0];rfl⟩
 | k+1=>by
  obtain⟨h1,h2⟩:=pt_pw z hx k;obtain⟨h3,h4⟩:=zBX z h1 hx;refine⟨h3,?_⟩;show ptG p n W B (rm p n W B _ _) n=_;rw [h4,h2,←z.pw_eq (pt_el z x),←z.pw_eq (pt_el z x)]
  rfl
theorem zNE (z:Lz p n W B c) (h0:0<n) (hx:El p n x) {i i':Nat} (h:OrdL p W n x i) (h':OrdG (rO p n) (lgPs p n W B n) (lgCs p n W B n) (vcG p n W B x) i'):i=i':=by
 have key:∀j:Nat,i≤j↔i'≤j:=fun j=>by
  have hp0:0≤p ^ j:=Int.le_of_lt (Int.pow_pos (by have:=z.r.o.pr.1;omega))
  have hN:((p ^ j).toNat:Int)=p ^ j:=Int.toNat_of_nonneg hp0;rw [←h j,←h' j (p ^ j).toNat (by rw [rO_at h0];exact hN)]
  obtain⟨e1,e2⟩:=pt_pw z (vc_el z hx) (p ^ j).toNat;rw [pt_vc z hx,hN]at e2
  rw [←e2];constructor
  ·intro e
   refine zGr z e1 (by rw [zv_rO];exact ZH z.r.o.pr) ?_
   rw [zC7 z];exact e
  ·intro e
   have e':Grp.pw (rm p n W B) (zv (rO p n)) (vcG p n W B x) (p ^ j).toNat=zv (rO p n):=e;rw [e',zC7 z]
 have h1:=(key i).1 (Nat.le_refl _);have h2:=(key i').2 (Nat.le_refl _);omega
theorem zFX (hR:IsPr vO vQ vC O P C) (hR':IsPr vO' vQ' vC' O' P' C') (sz:SzP O P C) (hk:∀t:Bool,(t=true↔O=O'∧P=P'∧C=C')→K (.bool t) σ):zA Tryz.prog 39 [.agg [vO,vQ,vC],.agg [vO',vQ',vC']] σ K:=by
 have h0:=hR.O.one;have h1:=hR.P.one;have h2:=hR.C.one;have g0:=hR'.O.one;have g1:=hR'.P.one;have g2:=hR'.C.one;refine zA.gh ?_;refine zC mix Tryz.func39 ?_
 conv=>arg 2;cbv
 refine zF rfl ?_;simp only [pwA,seval,-iQ0,h0,h1,h2,g0,g1,g2];have hkp:Keep σ ((σ.new [vO,vQ,vC]).new [vO',vQ',vC']):=(zD σ _).new _;have a0:((σ.new [vO,vQ,vC]).new [vO',vQ',vC']).rd1 σ.next 0=some vO:=by simp only [pwA,seval,-iQ0]
 have a1:((σ.new [vO,vQ,vC]).new [vO',vQ',vC']).rd1 σ.next 1=some vQ:=by simp only [pwA,seval,-iQ0]
 have a2:((σ.new [vO,vQ,vC]).new [vO',vQ',vC']).rd1 σ.next 2=some vC:=by simp only [pwA,seval,-iQ0]
 have b0:((σ.new [vO,vQ,vC]).new [vO',vQ',vC']).rd1 (σ.next+1) 0=some vO':=by simp only [pwA,seval,-iQ0]
 have b1:((σ.new [vO,vQ,vC]).new [vO',vQ',vC']).rd1 (σ.next+1) 1=some vQ':=by simp only [pwA,seval,-iQ0]
 have b2:((σ.new [vO,vQ,vC]).new [vO',vQ',vC']).rd1 (σ.next+1) 2=some vC':=by simp only [pwA,seval,-iQ0]
 generalize (σ.new [vO,vQ,vC]).new [vO',vQ',vC']=H at *
 simp only [pwA,seval,-iQ0,a0,b0];refine qz hR.O hR'.O sz.O fun t ht=>?_
 cases t with
 | false=>
  simp only [pwA,seval,-iQ0];exact Gh.fin0 hkp trivial (hk _ ⟨fun h=>(by cases h),fun h=>ht.2 h.1⟩)
 | true=>
 simp only [pwA,seval,-iQ0,a1,a2,b1,b2];refine zCd hR.P hR'.P sz.P fun t ht2=>?_
 cases t with
 | false=>
  simp only [pwA,seval,-iQ0,a1,a2,b1,b2];exact Gh.fin0 hkp trivial (hk _ ⟨fun h=>(by cases h),fun h=>ht2.2 h.2.1⟩)
 | true=>
  simp only [pwA,seval,-iQ0,a1,a2,b1,b2];refine zGF hR.C hR'.C sz.C.l (fun q hq=>sz.C.r q hq) fun t ht3=>?_
  simp only [pwA,seval,-iQ0];exact Gh.fin0 hkp trivial (hk _ ⟨fun h=>⟨ht.1 rfl,ht2.1 rfl,ht3.1 h⟩,fun h=>ht3.2 h.2.2⟩)
theorem zL0 (hb:FB vC bs) (hB:Byt bs) (hk:∀p vP vB W B vx x,DrR p W B→IsR vP vB W B→FI vx x→x.length≤7→K (.tup [.agg [.int .i64 p,vP,vB],vx]) σ):zA Tryz.prog 121 [vC] σ K:=by
 refine zA.gh ?_;generalize hT:σ.new [.int .i64 0,.fz true .nils 0 [],.fz true .nils 0 []]=T;have hTn:T.next=σ.next+1:=by rw [←hT];rfl
 have hkT:Keep σ T:=by rw [←hT];exact zD σ _
 have obT:T.obj σ.next=some [.int .i64 0,.fz true .nils 0 [],.fz true .nils 0 []]:=by rw [←hT];simp only [pwA,seval,-iQ0]
 refine zC mix Tryz.func121 ?_
 conv=>arg 2;cbv
 refine zF rfl ?_;simp only [pwA,seval,-iQ0,hb.one];rw [hT];refine zKX hb hB fun sd hsd=>?_
 have so1:So (T.new (srcC vC 0 sd)) T.next vC bs:=⟨0,sd,by rw [zP,if_pos rfl],Nat.lt_succ_self _,hb,hB,Nat.zero_le _,hsd⟩
 have km1:KM (T.new (srcC vC 0 sd)) T.next (T.new (srcC vC 0 sd)):=so1.km;have kT1:Keep T (T.new (srcC vC 0 sd)):=zD _ _;have hs1:T.next<(T.new (srcC vC 0 sd)).next:=Nat.lt_succ_self _;generalize hU:T.new (srcC vC 0 sd)=U at *
 have hUn:U.next=T.next+1:=by rw [←hU];rfl
 simp only [pwA,seval,-iQ0];refine zKO so1 fun p vP vB W B h2 d hR m2 so2=>?_
 have km2:=km1.mv hs1 m2;have g1:=hR.P.one;have g2:=hR.B.one;have h2n:=km2.next;have hpb:=d.p;have hwl:=d.wl;simp only [pwA,seval,-iQ0,g1,g2];have so3:So (h2.new [.int .i64 p,vP,vB]) T.next vC bs:=so2.keep (zD _ _);have km3:KM U T.next (h2.new [.int .i64 p,vP,vB]):=km2.new _;refine zGL so3 hR (by omega) (by omega) fun vx x h4 hvx hxl m4 so4=>?_
 have km4:=km3.mv hs1 m4;have ob4:h4.obj h2.next=some [.int .i64 p,vP,vB]:=by rw [m4.obj (by omega),zP,if_pos rfl]
 have rd4:h4.rd h2.next 0 3=some [.int .i64 p,vP,vB]:=by rw [zh ob4];rfl
 have hU6:Keep T h4:=km4.keepOf kT1 (Nat.le_refl _);have hres:h4.obj σ.next=some [.int .i64 0,.fz true .nils 0 [],.fz true .nils 0 []]:=by rw [hU6.obj _ (by omega)];exact obT
 have x1:h4.wr σ.next 0 [.int .i64 p,vP,vB]=some (h4.set σ.next [.int .i64 p,vP,vB]):=by rw [zq hres,if_pos ⟨by simp,by simp only [List.all_cons,List.all_nil,g1,g2];rfl⟩];rfl
 have x2:(h4.set σ.next [.int .i64 p,vP,vB]).rd σ.next 0 3=some [.int .i64 p,vP,vB]:=by rw [qo,if_pos rfl];rfl
 simp only [pwA,seval,-iQ0,rd4,x1,x2,g1,g2];exact Gh.fin0 ((hkT.trans hU6).set (Nat.le_refl _) _) ⟨⟨trivial,hR.P.bel _,hR.B.bel _,trivial⟩,hvx.bel _,trivial⟩ (hk p vP vB W B vx x d hR hvx (by omega))
theorem zDW (hb:FB vC bs) (hB:Byt bs) (hk:∀p vP vB W B vx x,DrR p W B→IsR vP vB W B→FI vx x→x.length≤7→K (.tup [.agg [.int .i64 p,vP,vB],vx]) σ):zA Tryz.prog 36 [vC] σ K:=by
 refine zA.gh ?_;refine zC mix Tryz.func36 ?_
 conv=>arg 2;cbv
 refine zF rfl ?_;simp only [pwA,seval,-iQ0,hb.one];refine zL0 hb hB fun p vP vB W B vx x d hR hvx hx=>?_
 have g1:=hR.P.one;have g2:=hR.B.one;simp only [pwA,seval,-iQ0,g1,g2];exact Gh.fin0 (zD _ _) ⟨⟨trivial,hR.P.bel _,hR.B.bel _,trivial⟩,hvx.bel _,trivial⟩ (hk p vP vB W B vx x d hR hvx hx)
end Go.Proofs
namespace Go.Proofs
open Go.Ab Go.Lie
variable {σ:PHeap} {K:PV→PHeap→Prop} {p:Int} {W:List (List Int)} {B:List (List (List Int))} {vC:PV} {bs x y z:List Int} {k:Int}
structure RoI (H h:PHeap) (sD:Nat) (vC:PV) (bs:List Int) (p:Int) (n i:Nat) (v:PV) (xs:List Int):Prop where
 km:KM H sD h
 di:Di h sD vC bs
 el:El p i xs
 va:(i<n∧PSl H.next 1 h v i (pis xs))∨(i=n∧FI v xs)
theorem RoI.fz {H h:PHeap} {sD i n:Nat} {vC v:PV} {bs xs:List Int} {p:Int} (km:KM H sD h) (di:Di h sD vC bs) (hs:sD<H.next) (el:El p i xs) (hi:i≤n) (a:PSl H.next 1 h v i (pis xs)) {I:List PV→PHeap→Prop} {us:List PV} {pre post:List PV} (hus:us=pre++v::post)
  (hb:(∀t o cs,sbs t o cs pre=pre)∧∀t o cs,sbs t o cs post=post) (k:∀v' h',RoI H h' sD vC bs p n i v' xs→I (pre++v'::post) h'):GL I us h:=by
 subst hus
 by_cases e:i=n
 ·obtain⟨t,cap,rfl,q1,q2,q3,q4,q5⟩:=a
  refine .fz t (pis xs) q2 (zM _ _) fun o=>?_
  have e1:sbs t o (pis xs) (pre++PV.sl t 0 i cap::post)=pre++PV.fz true (.sl o 0 i cap) i (pis xs)::post:=by
   rw [zBo,hb.1];simp only [sbs,sb,q1.ok,and_self,if_true,hb.2]
  rw [e1];have hl:=el.1;refine .here (k _ _ ⟨km.kill q4,di.same (by rw [zCV,if_neg (by omega)]) di.lt,el,.inr ⟨e,true,.sl o 0 i cap,by rw [hl]⟩⟩)
 ·exact .here (k _ _ ⟨km,di,el,.inl ⟨by omega,a⟩⟩)
end Go.Proofs
namespace Go.Proofs.YtgkbfiilhocioaaGreat
open Go.ChangeShapes Go.WideShapes Go.ChangeAt Go.RowKit Go.Ab Go.Joins Go.Lie Go.Proofs
variable {H:Type} {enc:TypeId×Value→H} {W w0:World} {j:Inj} {h:AHeap}
theorem cell8:Tryz.prog.cellsOf 5=1:=by kernel_rfl
theorem lay8:Lay1 enc Tryz.prog W 5 (fun pv (n:Int)=>pv=.int .u8 n∧0≤n∧n≤255):=by
 intro w0 j h held fuel v x m hx;obtain⟨n,hn,_,hw⟩:=DataW.trod_int Tryz.underlying5 hx;simp only [List.cons.injEq,and_true]at hn
 subst hn;simp only [Lit.wf,Bool.and_eq_true,decide_eq_true_eq]at hw
 have h1:IntKind.u8.min=0:=by rfl
 have h2:IntKind.u8.max=255:=by rfl
 rw [h1,h2]at hw
 exact⟨j,h,.int .u8 n,n,m,Inj.le.refl _,Ext.refl m.wf,rfl,trivial,rfl,rfl,hw.1,hw.2⟩
theorem FL.bytes {v:PV} {xs:List Int} (h:FL (fun pv (n:Int)=>pv=.int .u8 n∧0≤n∧n≤255) v xs):FB v xs:=by
 obtain⟨w,a,rows,rfl,hr⟩:=h;refine⟨w,a,?_⟩
 congr 1
 apply List.ext_getElem?;intro k;rw [List.getElem?_map];rcases Nat.lt_or_ge k xs.length with x|x
 ·obtain⟨pv,h1,h2⟩:=hr.get x
  rw [h1,gi x,h2.1];rfl
 ·rw [List.getElem?_eq_none (by rw [hr.1];exact x),List.getElem?_eq_none x];rfl
theorem layB:Lay1 enc Tryz.prog W 37 (fun v (xs:List Int)=>FB v xs∧∀b∈xs,0≤b∧b≤255):=by
 intro w0 j h held fuel v x m hx;obtain⟨j',h',pv,a,g1,g2,g3,g4,g5,g6,g7,g8⟩:=zLy Tryz.underlying37 cell8 lay8 w0 j h held fuel v x m hx;exact⟨j',h',pv,a,g1,g2,g3,g4,g5,g6,FL.bytes g7,g7.all fun _ _ k=>k.2⟩
end Go.Proofs.YtgkbfiilhocioaaGreat
