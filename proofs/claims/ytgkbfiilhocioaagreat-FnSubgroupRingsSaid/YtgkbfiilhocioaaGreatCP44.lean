/- Sums, intersections, spans and membership. -/
import Derived.Test.YtgkbfiilhocioaaGreatCP43
import Derived.Test.YtgkbfiilhocioaaGreatCP32
import Derived.Test.YtgkbfiilhocioaaGreatCP34
import Derived.Test.YtgkbfiilhocioaaGreatCP29
import Derived.Test.YtgkbfiilhocioaaGreatCP37
import Derived.Test.YtgkbfiilhocioaaGreatCP31
import Derived.Test.YtgkbfiilhocioaaGreatCP42
import Derived.Test.YtgkbfiilhocioaaGreatCP28
import Derived.Test.YtgkbfiilhocioaaGreatCAbPn
open Int renaming reduceNatCast'→iQ0
set_option maxRecDepth 100000
set_option linter.unusedSimpArgs false
set_option linter.unusedVariables false
set_option linter.unusedSectionVars false
namespace Go.Proofs
open Go.Ab Go.Lie
variable {σ σ0 h h':PHeap} {K:PV→PHeap→Prop} {vC vP vB:PV} {bs:List Int} {s b n r0:Nat} {p:Int} {sP sB:Nat} {capP capB:Cap} {W:List (List Int)} {B:List (List (List Int))}
theorem DrR.ok (hp:isP p) (hF:OkF p n W B):DrR p W B:=⟨by have:=hp.bd;omega,by rw [hF.w.len];exact hF.w.le,by rw [hF.b.len];exact hF.w.le,hF.sm⟩
theorem zKT (so:So σ s vC bs) (hk:∀p n vP vB W B h,isP p→OkF p n W B→IsR vP vB W B→Mv σ s h→So h s vC bs→K (.agg [.int .i64 p,vP,vB]) h):zA Tryz.prog 304 [.ptr s 0] σ K:=
 zA.gh (zEo so fun p n sP capP cs sB capB ls h W B hp hn1 hpow hF km so2 rs=>Gh.km km so2 so.lt fun σ' m' so' kp=>RS.fin (rs.low (b':=σ'.next) (by rw [m'.next];exact Nat.le_refl _)) kp (Nat.le_refl _) fun vP vB hR=>hk p n vP vB W B σ' hp hF hR m' so')
theorem zKO (so:So σ s vC bs) (hk:∀p vP vB W B h,DrR p W B→IsR vP vB W B→Mv σ s h→So h s vC bs→K (.agg [.int .i64 p,vP,vB]) h):zA Tryz.prog 252 [.ptr s 0] σ K:=by
 have hsl:=so.lt;refine zA.gh ?_;generalize hT:σ.new [.int .i64 0,.fz true .nils 0 [],.fz true .nils 0 []]=T;have hTn:T.next=σ.next+1:=by rw [←hT];rfl
 have hkT:Keep σ T:=by rw [←hT];exact zC σ _
 have soT:So T s vC bs:=so.keep hkT;have hsT:s<T.next:=soT.lt;have obT:T.obj σ.next=some [.int .i64 0,.fz true .nils 0 [],.fz true .nils 0 []]:=by rw [←hT];simp only [pwA,seval,-iQ0]
 have hres:∀{g:PHeap} {u0 u1 u2:PV},KM T s g→u0.one=true→u1.one=true→u2.one=true→g.wr σ.next 0 [u0,u1,u2]=some (g.set σ.next [u0,u1,u2])∧(g.set σ.next [u0,u1,u2]).rd σ.next 0 3=some [u0,u1,u2]:=fun {g u0 u1 u2} k z0 z1 z2=>by
  have hres:g.obj σ.next=some [.int .i64 0,.fz true .nils 0 [],.fz true .nils 0 []]:=by rw [k.obj (by omega) (by omega)];exact obT
  exact⟨by rw [zn hres,if_pos ⟨by simp,by simp only [List.all_cons,List.all_nil,z0,z1,z2];rfl⟩];rfl,by rw [qx,if_pos rfl];rfl⟩
 refine zL mix Tryz.func252 cf252 rfl ?_;dsimp only [if252,qI,eI,nI,qD,eD,mI0,lI0,LI0,fI0,xI0,cI0,C1,C2,mD0,lD0,fD0,R0,S0];simp only [pwA,seval,-iQ0];rw [hT];refine zKT soT fun p1 n1 vP1 vB1 W1 B1 h1 hp1 hF1 hR1 m1 so1=>?_
 have km1:=soT.km.mv hsT m1;have g1:=hR1.P.one;have g2:=hR1.B.one;have h01:=km1.next;have km1':KM T s (h1.new [.int .i64 p1,vP1,vB1]):=km1.new _;have so1':So (h1.new [.int .i64 p1,vP1,vB1]) s vC bs:=so1.keep (zC _ _);have ob1:(h1.new [.int .i64 p1,vP1,vB1]).obj h1.next=some [.int .i64 p1,vP1,vB1]:=by rw [zM,if_pos rfl]
 have lt1:h1.next<(h1.new [.int .i64 p1,vP1,vB1]).next:=Nat.lt_succ_self _;simp only [pwA,seval,-iQ0,g1,g2];generalize h1.new [PV.int .i64 p1,vP1,vB1]=g1_ at *
 have hr0:T.next≤h1.next:=h01;generalize h1.next=r0 at *
 refine zD0 hR1 hF1.w hF1.b hp1 fun t ht=>?_
 cases t with
 | true=>
  have x0:g1_.rd r0 0 3=some [.int .i64 p1,vP1,vB1]:=by rw [zi ob1];rfl
  obtain⟨x1,x2⟩:=hres (u0:=.int .i64 p1) (u1:=vP1) (u2:=vB1) km1' rfl g1 g2;simp only [pwA,seval,-iQ0,x0,x1,x2];refine Gh.km (((so.kmK hkT).trans hsl km1').set (Nat.le_refl _) _) (so1'.set (by omega) _) hsl fun σ' m' so' kp=>?_
  exact Gh.fin0 kp ⟨trivial,hR1.P.bel _,hR1.B.bel _,trivial⟩ (hk p1 vP1 vB1 W1 B1 σ' (DrR.ok hp1 hF1) hR1 m' so')
 | false=>
 simp only [pwA,seval,-iQ0];refine qY so1' (by decide) fun x h2 hx m2 so2=>?_
 have km2:=km1'.mv hsT m2;have x0:=hx.1;have x2:=hx.lt (by decide)
 obtain⟨n,hn3,hn4,wn⟩:∃n:Nat,3≤n∧n≤4∧IntKind.i64.wrap (3+x)=(n:Int):=⟨(3+x).toNat,by omega,by omega,by rw [wrap64 (by omega) (by omega)];omega⟩
 simp only [pwA,seval,-iQ0,wn];refine qY (so2.keep (zC _ _)) (by decide) fun y h3 hy m3 so3=>?_
 have km3:=(km2.new [.int .i64 3,.int .i64 5]).mv hsT m3;have y0:=hy.1;have y2:=hy.lt (by decide)
 have h02:=km2.next;have ob3:h3.obj h2.next=some (pis [3,5]):=by rw [m3.obj (by omega),zM,if_pos rfl];rfl
 obtain⟨k,rfl⟩:∃k:Nat,y=k:=⟨y.toNat,by omega⟩
 have hk2:k<2:=by omega
 obtain⟨p,hp,hp35,hr⟩:∃p:Int,isP p∧(p=3∨p=5)∧h3.rd1 h2.next k=some (.int .i64 p):=by
  have e:k=0∨k=1:=by omega
  rcases e with rfl|rfl
  ·exact⟨3,.inr (.inl rfl),.inl rfl,by rw [zI ob3];rfl⟩
  ·exact⟨5,.inr (.inr (.inl rfl)),.inr rfl,by rw [zI ob3];rfl⟩
 have r0h2:r0<h2.next:=by rw [m2.next];exact lt1
 have ob3':h3.obj r0=some [.int .i64 p1,vP1,vB1]:=by rw [m3.obj (by omega),zM,if_neg (by omega),m2.obj (by omega)];exact ob1
 have lt3:r0<h3.next:=by rw [m3.next];show r0<h2.next+1;omega
 have hn1:1≤n:=by omega
 have hn6:n≤6:=by omega
 have hpb:=hp.bd;have hp27:2≤p∧p≤7:=by omega
 simp only [pwA,seval,-iQ0,hr,hk2];refine zCA hn1 hn6 fun sP capP cs sB capB ls h5 k5 rs5=>?_
 have so5:=so3.keep k5;have km5:=km3.keep k5;have ob5:h5.obj r0=some [.int .i64 p1,vP1,vB1]:=by rw [k5.obj r0 lt3];exact ob3'
 have lt5:r0<h5.next:=Nat.lt_of_lt_of_le lt3 k5.next;have h03:=km3.next;have w5:h5.wr r0 0 [.int .i64 p,.sl sP 0 n capP,.sl sB 0 n capB]=some (h5.set r0 [.int .i64 p,.sl sP 0 n capP,.sl sB 0 n capB]):=by rw [zn ob5,if_pos ⟨by simp,by rfl⟩];rfl
 have okp0:okp p:=hpb;have gs:GS E0 FI (OkF p n) T (h5.set r0 [.int .i64 p,.sl sP 0 n capP,.sl sB 0 n capB]) s vC bs r0 p n sP capP sB capB:=
  ⟨km5.set hr0 _,so5.set (by omega) _,hsT,by rw [zH,if_pos rfl],⟨hr0,lt5⟩,⟨cs,ls,_,_,(rs5.low h03).move (fun t ht=>by rw [zH,if_neg (by have:=(rs5.lt ht).1;omega)]) (Nat.le_refl _),OkF.zero okp0 hn6,fun t ht e=>by have:=(rs5.lt ht).1;omega,fun u x e=>e.elim⟩,fun u x e=>e.elim⟩
 clear rs5;have wn1:IntKind.i64.wrap ((n:Int)-1)=((n-1:Nat):Int):=by rw [wrap64 (by omega) (by omega)];omega
 have fin:∀{g:PHeap},GS E0 FI (OkF p n) T g s vC bs r0 p n sP capP sB capB→g.rd r0 0 3=some [.int .i64 p,.sl sP 0 n capP,.sl sB 0 n capB]∧g.wr σ.next 0 [.int .i64 p,.sl sP 0 n capP,.sl sB 0 n capB]=some (g.set σ.next [.int .i64 p,.sl sP 0 n capP,.sl sB 0 n capB])
   ∧(g.set σ.next [.int .i64 p,.sl sP 0 n capP,.sl sB 0 n capB]).rd σ.next 0 3=some [.int .i64 p,.sl sP 0 n capP,.sl sB 0 n capB]∧Gh σ K (.agg [.int .i64 p,.sl sP 0 n capP,.sl sB 0 n capB]) (g.set σ.next [.int .i64 p,.sl sP 0 n capP,.sl sB 0 n capB]):=fun {g} a=>by
  obtain⟨x1,x2⟩:=hres (u0:=.int .i64 p) (u1:=.sl sP 0 n capP) (u2:=.sl sB 0 n capB) a.km rfl rfl rfl;refine⟨a.rd.1,x1,x2,?_⟩;obtain⟨cs,ls,W,B,rs,f,ne,_⟩:=a.rs;refine Gh.km (((so.kmK hkT).trans hsl a.km).set (Nat.le_refl _) _) (a.so.set (by omega) _) hsl fun σ' m' so' kp=>?_
  refine RS.fin ((rs.low (b':=σ'.next) (by rw [m'.next];omega)).move (fun t ht=>?_) (Nat.le_refl _)) kp (Nat.le_refl _) fun vP vB hR=>hk p vP vB W B σ' (DrR.ok hp f) hR m' so'
  have:=(rs.lt ht).1
  rw [zH,if_neg (by omega)]
 have rowB:∀{W:List (List Int)} {B:List (List (List Int))} {i:Nat},OkF p n W B→i<n→(B.getD i []).length=n-1-i:=fun {W B i} q hi=>by
  have h1:i<B.length:=by rw [q.b.len];exact hi
  rw [zR h1];exact q.b.row i h1
 have hle:El p n (unitL n (n-1)):=zT okp0 (by omega)
 have i0n:(0:Int)<(n:Int):=by omega
 have i1n:(1:Int)<(n:Int):=by omega
 have i0m:(0:Int)<((n-1-0:Nat):Int):=by omega
 have i1m:(1:Int)<((n-1-0:Nat):Int):=by omega
 have i0q:(0:Int)<((n-1-1:Nat):Int):=by omega
 simp only [pwA,seval,-iQ0,w5];clear w5;generalize h5.set r0 [PV.int .i64 p,.sl sP 0 n capP,.sl sB 0 n capB]=g5 at *
 obtain⟨f3,f0,f1,f2⟩:=gs.rd;simp only [pwA,seval,-iQ0,f3,wn1];refine QN (vP:=.sl sP 0 n capP) (vB:=.sl sB 0 n capB) (n:=n) (k:=n-1) rfl rfl rfl (by omega) (by omega) fun vl hlv=>?_
 obtain⟨t6,c6,rB⟩:=gs.rdB (i:=0) (by omega) (fun W B q=>rowB q (by omega))
 simp only [pwA,seval,-iQ0,f3,f2,rB,i0n];refine QN (vP:=.sl sP 0 n capP) (vB:=.sl sB 0 n capB) (n:=n) (k:=2) rfl rfl rfl (by omega) (by omega) fun v6 hv6=>?_
 obtain⟨g6,w6,gs6,_⟩:=gs.putB (F':=OkF p n) (i:=0) (k:=0) (by omega) rB (by omega) (fun _ _ h=>h) hv6 hv6.one (fun W B _ q=>q.setB (by omega) (zT q.w.pr (by omega)) (fun j hj=>by rw [qL (by omega),if_neg (by omega)]))
 simp only [pwA,seval,-iQ0,f2,rB,w6,i0n,i0m,hv6.cells];clear f3 f0 f1 f2 rB w6 gs
 by_cases hn4':n=4
 rotate_left
 ·as_aux_lemma=>
  have hn4'':¬(n:Int)=4:=by omega
  simp only [pwA,seval,-iQ0,hn4'',decide_false];obtain⟨f3,f0,f1,f2⟩:=gs6.rd;simp only [pwA,seval,-iQ0,f3,f1,wn1];refine zZ (vP:=.sl sP 0 n capP) (vB:=.sl sB 0 n capB) (n:=n) (k:=n-1) gs6.so hp27 rfl rfl rfl (by omega) (by omega) fun v9 x9 k9 hx9 hz9 hv9 m9 so9=>?_
  have gt9:=gs6.mv m9 so9;obtain⟨p3,p0,p1,p2⟩:=gt9.rd;obtain⟨h9,w9,gs9⟩:=gt9.putP (F':=OkF p n) (i:=1) (w:=x9) (by omega) hv9 (fun W B q=>q.setP hx9 (fun j hj=>hz9 j (by omega)))
  simp only [pwA,seval,-iQ0,p1,w9,i1n,hv9.cells];obtain⟨e1,e2,e3,e4⟩:=fin gs9;simp only [pwA,seval,-iQ0,e1,e2,e3];exact e4
 have hd4:decide ((n:Int)=4)=true:=decide_eq_true (by omega)
 by_cases hp5:p=5
 rotate_left
 ·as_aux_lemma=>
  simp only [pwA,seval,-iQ0,hd4,hp5,decide_true,decide_false];obtain⟨f3,f0,f1,f2⟩:=gs6.rd;simp only [pwA,seval,-iQ0,f3,f1,wn1];refine zZ (vP:=.sl sP 0 n capP) (vB:=.sl sB 0 n capB) (n:=n) (k:=n-1) gs6.so hp27 rfl rfl rfl (by omega) (by omega) fun v9 x9 k9 hx9 hz9 hv9 m9 so9=>?_
  have gt9:=gs6.mv m9 so9;obtain⟨p3,p0,p1,p2⟩:=gt9.rd;obtain⟨h9,w9,gs9⟩:=gt9.putP (F':=OkF p n) (i:=1) (w:=x9) (by omega) hv9 (fun W B q=>q.setP hx9 (fun j hj=>hz9 j (by omega)))
  simp only [pwA,seval,-iQ0,p1,w9,i1n,hv9.cells];obtain⟨e1,e2,e3,e4⟩:=fin gs9;simp only [pwA,seval,-iQ0,e1,e2,e3];exact e4
 obtain⟨f3,f0,f1,f2⟩:=gs6.rd;obtain⟨t7,c7,rB⟩:=gs6.rdB (i:=0) (by omega) (fun W B q=>rowB q (by omega))
 obtain⟨g7,w7,gs7,_⟩:=gs6.putB (F':=OkF p n) (i:=0) (k:=1) (by omega) rB (by omega) (fun _ _ h=>h) hlv hlv.one (fun W B _ q=>q.setB (by omega) hle (fun j hj=>by rw [qL (by omega),if_neg (by omega)]))
 have hp5':decide (p=5)=true:=decide_eq_true hp5;simp only [pwA,seval,-iQ0,hd4,hp5',decide_true,f2,rB,w7,i0n,i1m,hlv.cells];clear f3 f0 f1 f2 rB w7;refine qY gs7.so (by decide) fun z g8 hz8 m8 so8=>?_
 have gs8:=gs7.mv m8 so8
 by_cases hz0:z=0
 ·as_aux_lemma=>
  obtain⟨f3,f0,f1,f2⟩:=gs8.rd;obtain⟨t,c,rB⟩:=gs8.rdB (i:=1) (by omega) (fun W B q=>rowB q (by omega))
  have hsB:=gs8.sBb;simp only [pwA,seval,-iQ0,hz0,decide_true,f3,f2,rB,i1n];refine zZ (vP:=.sl sP 0 n capP) (vB:=.sl sB 0 n capB) (n:=n) (k:=3) gs8.so hp27 rfl rfl rfl (by omega) (by omega) fun v x g4 hx hz hv m4 so4=>?_
  have gs4:=gs8.mv m4 so4;obtain⟨p3,p0,p1,p2⟩:=gs4.rd;have rB':g4.rd1 sB 1=some (.sl t 0 (n-1-1) c):=by rw [m4.rd1 (by omega)];exact rB
  obtain⟨gb,w5,gsb,_⟩:=gs4.putB (F':=OkF p n) (i:=1) (k:=0) (w:=x) (by omega) rB' (by omega) (fun _ _ h=>h) hv hv.one (fun W B hB q=>q.setB (by omega) hx (fun j hj=>hz j (by omega)))
  simp only [pwA,seval,-iQ0,p2,rB',w5,hv.cells,i1n,i0q];clear f3 f0 f1 f2 rB p3 p0 p1 p2 rB' w5;obtain⟨f3,f0,f1,f2⟩:=gsb.rd;simp only [pwA,seval,-iQ0,f3,f1];refine zZ (vP:=.sl sP 0 n capP) (vB:=.sl sB 0 n capB) (n:=n) (k:=3) gsb.so hp27 rfl rfl rfl (by omega) (by omega) fun va xa ka hxa hza hva ma soa=>?_
  have gta:=gsb.mv ma soa;obtain⟨p3,p0,p1,p2⟩:=gta.rd;obtain⟨ha,wa,gsa⟩:=gta.putP (F':=OkF p n) (i:=0) (w:=xa) (by omega) hva (fun W B q=>q.setP hxa (fun j hj=>hza j (by omega)))
  simp only [pwA,seval,-iQ0,p1,wa,i0n,hva.cells];clear f3 f0 f1 f2 p3 p0 p1 p2 wa;obtain⟨f3,f0,f1,f2⟩:=gsa.rd;simp only [pwA,seval,-iQ0,f3,f1,wn1];refine zZ (vP:=.sl sP 0 n capP) (vB:=.sl sB 0 n capB) (n:=n) (k:=n-1) gsa.so hp27 rfl rfl rfl (by omega) (by omega) fun v9 x9 k9 hx9 hz9 hv9 m9 so9=>?_
  have gt9:=gsa.mv m9 so9;obtain⟨p3,p0,p1,p2⟩:=gt9.rd;obtain⟨h9,w9,gs9⟩:=gt9.putP (F':=OkF p n) (i:=1) (w:=x9) (by omega) hv9 (fun W B q=>q.setP hx9 (fun j hj=>hz9 j (by omega)))
  simp only [pwA,seval,-iQ0,p1,w9,i1n,hv9.cells];obtain⟨e1,e2,e3,e4⟩:=fin gs9;simp only [pwA,seval,-iQ0,e1,e2,e3];exact e4
 ·as_aux_lemma=>
  simp only [pwA,seval,-iQ0,hz0,decide_false];obtain⟨f3,f0,f1,f2⟩:=gs8.rd;simp only [pwA,seval,-iQ0,f3,f1];refine zZ (vP:=.sl sP 0 n capP) (vB:=.sl sB 0 n capB) (n:=n) (k:=3) gs8.so hp27 rfl rfl rfl (by omega) (by omega) fun va xa ka hxa hza hva ma soa=>?_
  have gta:=gs8.mv ma soa;obtain⟨p3,p0,p1,p2⟩:=gta.rd;obtain⟨ha,wa,gsa⟩:=gta.putP (F':=OkF p n) (i:=0) (w:=xa) (by omega) hva (fun W B q=>q.setP hxa (fun j hj=>hza j (by omega)))
  simp only [pwA,seval,-iQ0,p1,wa,i0n,hva.cells];clear f3 f0 f1 f2 p3 p0 p1 p2 wa;obtain⟨f3,f0,f1,f2⟩:=gsa.rd;simp only [pwA,seval,-iQ0,f3,f1,wn1];refine zZ (vP:=.sl sP 0 n capP) (vB:=.sl sB 0 n capB) (n:=n) (k:=n-1) gsa.so hp27 rfl rfl rfl (by omega) (by omega) fun v9 x9 k9 hx9 hz9 hv9 m9 so9=>?_
  have gt9:=gsa.mv m9 so9;obtain⟨p3,p0,p1,p2⟩:=gt9.rd;obtain⟨h9,w9,gs9⟩:=gt9.putP (F':=OkF p n) (i:=1) (w:=x9) (by omega) hv9 (fun W B q=>q.setP hx9 (fun j hj=>hz9 j (by omega)))
  simp only [pwA,seval,-iQ0,p1,w9,i1n,hv9.cells];obtain⟨e1,e2,e3,e4⟩:=fin gs9;simp only [pwA,seval,-iQ0,e1,e2,e3];exact e4
theorem zKQ (so:So σ s vC bs) (hk:∀p vP vB W B h,DrR p W B→IsR vP vB W B→Mv σ s h→So h s vC bs→K (.agg [.int .i64 p,vP,vB]) h):zA Tryz.prog 163 [.ptr s 0] σ K:=by
 have hsl:=so.lt;refine zA.gh ?_;generalize hT:σ.new [.int .i64 0,.fz true .nils 0 [],.fz true .nils 0 []]=T;have hTn:T.next=σ.next+1:=by rw [←hT];rfl
 have hkT:Keep σ T:=by rw [←hT];exact zC σ _
 have soT:So T s vC bs:=so.keep hkT;have hsT:s<T.next:=soT.lt;have obT:T.obj σ.next=some [.int .i64 0,.fz true .nils 0 [],.fz true .nils 0 []]:=by rw [←hT];simp only [pwA,seval,-iQ0]
 have hres:∀{g:PHeap} {u0 u1 u2:PV},KM T s g→u0.one=true→u1.one=true→u2.one=true→g.wr σ.next 0 [u0,u1,u2]=some (g.set σ.next [u0,u1,u2])∧(g.set σ.next [u0,u1,u2]).rd σ.next 0 3=some [u0,u1,u2]:=fun {g u0 u1 u2} k z0 z1 z2=>by
  have hres:g.obj σ.next=some [.int .i64 0,.fz true .nils 0 [],.fz true .nils 0 []]:=by rw [k.obj (by omega) (by omega)];exact obT
  exact⟨by rw [zn hres,if_pos ⟨by simp,by simp only [List.all_cons,List.all_nil,z0,z1,z2];rfl⟩];rfl,by rw [qx,if_pos rfl];rfl⟩
 have fin:∀{g:PHeap} {p:Int} {vP vB:PV} {W:List (List Int)} {B:List (List (List Int))},DrR p W B→IsR vP vB W B→KM T s g→So g s vC bs→Gh σ K (.agg [.int .i64 p,vP,vB]) (g.set σ.next [.int .i64 p,vP,vB]):=fun {g p vP vB W B} d hR km so1=>by
  refine Gh.km (((so.kmK hkT).trans hsl km).set (Nat.le_refl _) _) (so1.set (by omega) _) hsl fun σ' m' so' kp=>?_
  exact Gh.fin0 kp ⟨trivial,hR.P.bel _,hR.B.bel _,trivial⟩ (hk p vP vB W B σ' d hR m' so')
 refine zD mix Tryz.func163 ?_
 conv=>arg 2;cbv
 refine zF rfl ?_;simp only [pwA,seval,-iQ0];rw [hT];refine qY soT (by decide) fun x h1 hx m1 so1=>?_
 have km1:=soT.km.mv hsT m1
 by_cases hx0:x=0
 ·simp only [pwA,seval,-iQ0,hx0,decide_true]
  refine zKU so1 fun p vP vB W B h2 d hR m2 so2=>?_
  have km2:=km1.mv hsT m2;have g1:=hR.P.one;have g2:=hR.B.one;obtain⟨x1,x2⟩:=hres (u0:=.int .i64 p) (u1:=vP) (u2:=vB) km2 rfl g1 g2;simp only [pwA,seval,-iQ0,g1,g2,x1,x2];exact fin d hR km2 so2
 ·simp only [pwA,seval,-iQ0,hx0,decide_false]
  refine zKO so1 fun p vP vB W B h2 d hR m2 so2=>?_
  have km2:=km1.mv hsT m2;have g1:=hR.P.one;have g2:=hR.B.one;obtain⟨x1,x2⟩:=hres (u0:=.int .i64 p) (u1:=vP) (u2:=vB) km2 rfl g1 g2;simp only [pwA,seval,-iQ0,g1,g2,x1,x2];exact fin d hR km2 so2
end Go.Proofs
namespace Go.Proofs
open Go.Ab Go.Lie
variable {σ σ0 h h':PHeap} {K:PV→PHeap→Prop} {vC vP vB:PV} {bs:List Int} {s b n r0:Nat} {p:Int} {W:List (List Int)} {B:List (List (List Int))}
theorem KM.keepOf (k:KM σ s h) (hk:Keep σ0 σ) (hs:σ0.next≤s):Keep σ0 h:=by
 obtain⟨σ',⟨c0,c1,h0,h1,rfl⟩,q⟩:=k;exact(hk.set hs _).trans q
end Go.Proofs
namespace Go.Proofs
open Go.Ab Go.Lie
variable {σ σ0 h h':PHeap} {K:PV→PHeap→Prop} {vC vP vB vx vy:PV} {bs x y:List Int} {s b n r0:Nat} {p:Int} {W:List (List Int)} {B:List (List (List Int))}
theorem el1 (h:El p n x):Els p n [x]:=fun y hy=>by rw [List.mem_singleton.1 hy];exact h
theorem zDf (hx:FI vx x) (hy:FI vy y) (hl:x.length≤1048576) (hk:∀t:Bool,(t=true↔x=y)→K (.bool t) σ):zA Tryz.prog 35 [vx,vy] σ K:=by
 obtain⟨wx,ax,rfl⟩:=hx;obtain⟨wy,ay,rfl⟩:=hy;refine zD mix Tryz.func35 ?_
 conv=>arg 2;cbv
 refine zF rfl ?_;simp only [pwA,seval,-iQ0]
 by_cases hxy:x.length=y.length
 rotate_left
 ·have hne:¬(x.length:Int)=(y.length:Int):=by omega
  simp only [pwA,seval,-iQ0,hne];exact hk false ⟨fun h=>(by cases h),fun h=>absurd (by rw [h]) hxy⟩
 have heq:(x.length:Int)=(y.length:Int):=by omega
 simp only [pwA,seval,-iQ0,heq];refine zG (fun m us g=>∃i:Nat,i≤y.length∧m=y.length-i∧us=[.fz wx ax x.length (pis x),.fz wy ay y.length (pis y),.int .i64 i]∧g=σ∧∀j,j<i→x[j]? = y[j]?) y.length ⟨0,by omega,by omega,rfl,rfl,fun j hj=>absurd hj (Nat.not_lt_zero _)⟩ ?_
 rintro m us g ⟨i,hi,rfl,rfl,rfl,he⟩
 simp only [pwA,seval,-iQ0,heq];refine iteI (fun hlt=>?_) fun hge=>?_
 rotate_left
 ·refine hk true ⟨fun _=>List.ext_getElem? fun j=>?_,fun _=>rfl⟩
  rcases Nat.lt_or_ge j i with e|e
  ·exact he j e
  ·rw [List.getElem?_eq_none (by omega),List.getElem?_eq_none (by omega)]
 have hltx:i<x.length:=by omega
 have hlty:i<y.length:=by omega
 have wi1:IntKind.i64.wrap ((i:Int)+1)=((i+1:Nat):Int):=wrapS hlty (by omega)
 simp only [pwA,seval,-iQ0,pisAt hltx,pisAt hlty,hltx,hlty,wi1];refine iteI (fun hv=>?_) fun hv=>?_
 ·refine⟨_,by omega,i+1,by omega,rfl,rfl,fun j hj=>?_⟩
  rcases Nat.lt_or_ge j i with e|e
  ·exact he j e
  ·obtain rfl:j=i:=by omega
   rw [List.getElem?_eq_getElem hltx,List.getElem?_eq_getElem hlty,←at_eq hltx,←at_eq hlty,hv]
 ·refine hk false ⟨fun h=>(by cases h),fun h=>absurd ?_ hv⟩
  rw [h]
theorem zPh (hb:FB vC bs) (hk:∀t:Bool,(t=true↔4096<bs.length)→K (.bool t) σ):zA Tryz.prog 24 [vC] σ K:=by
 obtain⟨w,a,rfl⟩:=hb;refine zD mix Tryz.func24 ?_
 conv=>arg 2;cbv
 refine zF rfl ?_;simp only [pwA,seval,-iQ0];refine hk _ ?_;rw [decide_eq_true_eq];omega
end Go.Proofs
namespace Go.Grp
end Go.Grp
namespace Go.Proofs
open Go.Ab Go.Lie Go.Grp
variable {σ:PHeap} {K:PV→PHeap→Prop} {O:List Int} {P:List (List Int)} {C:List (List (List Int))} {vO vP vC vx vy vB:PV} {x y:List Int} {p:Int} {n:Nat} {W:List (List Int)} {B:List (List (List Int))} {sp s:Nat}
theorem zHV:isExp O x↔gS O x:=by
 constructor
 ·rintro ⟨h1,h2⟩
  exact⟨h1,fun j hj=>by have:=h2 j (by omega);omega,fun j hj=>by omega⟩
 ·intro h
  exact⟨h.len,fun j hj=>by have:=h.bd j (by rw [←h.len];exact hj);omega⟩
theorem zHI (hR:IsPr vO vP vC O P C) (szO:O.length≤1048576) (bO:∀o∈O,isP o) (hy:FI vy y) (hb:y.length≤1048576) (hk:∀t:Bool,(t=true↔isExp O y)→K (.bool t) σ):zA Tryz.prog 129 [.agg [vO,vP,vC],vy] σ K:=by
 have h0:=hR.O.one;have h1:=hR.P.one;have h2:=hR.C.one;refine zA.gh ?_;refine zD mix Tryz.func129 ?_
 conv=>arg 2;cbv
 refine zF rfl ?_;simp only [pwA,seval,-iQ0,h0,h1,h2];refine zEr (t:=0) (by omega) (Nat.zero_le _) hR.O szO bO hy hb fun t ht=>?_
 simp only [pwA,seval,-iQ0];exact Gh.fin0 (zC σ _) trivial (hk _ (ht.trans ⟨fun h=>h.1,fun h=>⟨h,fun x hx=>by simp at hx⟩⟩))
theorem zFt (p:Int):∀k,pw_ p k=p ^ k
 | 0=>by simp [pw_]
 | k+1=>by rw [Int.pow_succ,←zFt p k];simp only [pw_];rw [Int.mul_comm]
end Go.Proofs
namespace Go.Grp
end Go.Grp
namespace Go.Proofs
open Go.Ab Go.Lie Go.Grp
variable {σ h h':PHeap} {K:PV→PHeap→Prop} {O x y:List Int} {P:List (List Int)} {C:List (List (List Int))} {vO vP vC vx vL:PV} {L:List (List Int)} {D R:List (Option (List Int))} {rb rr:List PV} {d n sT:Nat}
def DRf (n:Nat) (c:PV) (r:Option (List Int)):Prop:=(c=.fz true .nils 0 []∧r=none)∨∃w a y,c=.fz w a n (pis y)∧y.length=n∧r=some y
theorem DRf.get (h:All2 (DRf n) rb D) {d:Nat} (hd:d<D.length):(rb[d]? = some (.fz true .nils 0 [])∧D[d]? = some none)∨∃w a y,rb[d]? = some (.fz w a n (pis y))∧y.length=n∧D[d]? = some (some y):=by
 have hb:d<rb.length:=by rw [h.1];exact hd
 rw [List.getElem?_eq_getElem hb,List.getElem?_eq_getElem hd];rcases h.2 d _ _ (List.getElem?_eq_getElem hb) (List.getElem?_eq_getElem hd)with ⟨e1,e2⟩|⟨w,a,y,e1,e3,e2⟩
 ·exact .inl ⟨by rw [e1],by rw [e2]⟩
 ·exact .inr ⟨w,a,y,by rw [e1],e3,by rw [e2]⟩
theorem DRf.put (h:All2 (DRf n) rb D) {v:PV} (hv:FI v y) (hy:y.length=n):All2 (DRf n) (rb.set d v) (D.set d (some y)):=by
 obtain⟨w,a,rfl⟩:=hv;refine⟨by rw [List.length_set,List.length_set];exact h.1,fun k c r hc hr=>?_⟩
 rw [List.getElem?_set]at hc hr
 by_cases e:d=k
 ·rw [if_pos e]at hc hr
  split at hc
  ·split at hr
   ·cases hc;cases hr;exact .inr ⟨w,a,y,by rw [hy],hy,rfl⟩
   ·cases hr
  ·cases hc
 ·rw [if_neg e]at hc hr
  exact h.2 k c r hc hr
theorem DRf.start (n m:Nat):All2 (DRf n) (List.replicate m (.fz true .nils 0 [])) (List.replicate m none):=by
 refine⟨by simp,fun k c r hc hr=>?_⟩
 rw [List.getElem?_replicate]at hc hr
 split at hc
 ·rename_i h
  rw [if_pos h]at hr
  cases hc;cases hr;exact .inl ⟨rfl,rfl⟩
 ·cases hc
theorem zIq (g:LG O P C) (hR:IsPr vO vP vC O P C) (hT:σ.obj sT=some rb) (hTl:sT<σ.next) (hD:OkD O D) (hrb:All2 (DRf O.length) rb D) (hx:gS O x) (hvx:FI vx x)
  (hk:∀v z,FI v z→gS O z→(dep z<O.length→D[dep z]? = some none)→Rdu O P C D x z→K (.tup [.int .i64 (dep z),v]) σ):zA Tryz.prog 181 [.agg [vO,vP,vC],.sl sT 0 O.length (.known O.length),vx] σ K:=by
 have h0:=hR.O.one;have h1:=hR.P.one;have h2:=hR.C.one;have s:=g.s;have F:=g.F;have G:=F.g;have hn6:=s.le;have hxl:=hx.len;refine zA.gh ?_;have hne:¬sT=σ.next:=Nat.ne_of_lt hTl;refine zD mix Tryz.func181 ?_
 conv=>arg 2;cbv
 refine zF rfl ?_;simp only [pwA,seval,-iQ0,h0,h1,h2];refine ownFI hvx (by omega) fun v0 hv0=>?_
 simp only [pwA,seval,-iQ0];refine zG (fun m vs h'=>∃(d:Nat) (z:List Int) (v:PV),d≤O.length∧m=O.length-d∧vs=[.sl sT 0 O.length (.known O.length),.ptr σ.next 0,v,.int .i64 d]∧σ.new [vO,vP,vC]=h'∧TT O d z∧FI v z∧Rdu O P C D x z) O.length ⟨0,x,v0,by omega,by omega,rfl,rfl,hx,hv0,.refl _⟩ ?_
 rintro m vs h' ⟨d,z,v,hd,rfl,rfl,rfl,hz,hv,hr⟩
 have hzS:gS O z:=hz.mono (Nat.zero_le _);have hzl:=hz.len;simp only [pwA,seval,-iQ0];refine iteI (fun hlt=>?_) fun hge=>?_
 rotate_left
 ·have hde:d=O.length:=by omega
  subst hde;have hz0:z=zv O:=hz.ext (s.zv _) fun j h1 h2=>by omega
  have hdz:dep z=O.length:=by rw [hz0];exact zGT s
  exact Gh.fin0 (zC σ _) ⟨trivial,hv.bel _,trivial⟩ (by rw [←hdz];exact hk v z hv hzS (fun h=>by omega) hr)
 have hlt':d<O.length:=by omega
 have hdz:d<z.length:=by omega
 obtain⟨wz,az,rfl⟩:=hv;have hvz:FI (.fz wz az z.length (pis z)) z:=⟨wz,az,rfl⟩;have w1:IntKind.i64.wrap ((d:Int)+1)=((d+1:Nat):Int):=by rw [wrap64 (by omega) (by omega)];omega
 have bz:=hzS.bd d hlt';have bO:=s.pr d hlt'
 by_cases hz0:at_ z d=0
 ·simp only [pwA,seval,-iQ0,hdz,pisAt hdz,hz0,w1]
  refine⟨_,by omega,d+1,z,_,by omega,rfl,rfl,⟨hz.len,hz.bd,fun j hj=>?_⟩,hvz,hr⟩
  rcases Nat.lt_or_ge j d with h|h
  ·exact hz.zero j h
  ·rw [show j=d by omega];exact hz0
 have hrd:=zI hT d;rcases DRf.get hrb (d:=d) (by rw [hD.len];exact hlt')with ⟨e1,e2⟩|⟨w,a,y,e1,e3,e2⟩
 ·rw [e1]at hrd
  have hdp:dep z=d:=zAR (fun j hj=>hz.zero j hj) hz0
  simp only [pwA,seval,-iQ0,hdz,pisAt hdz,hz0,hlt',hne,hrd];exact Gh.fin0 (zC σ _) ⟨trivial,hvz.bel _,trivial⟩ (by rw [←hdp];exact hk _ z hvz hzS (fun _=>by rw [hdp];exact e2) hr)
 ·rw [e1]at hrd
  obtain⟨y1,y2⟩:=hD.row _ _ e2;have yS:gS O y:=y1.mono (Nat.zero_le _);have hnn:¬((O.length:Int)=0):=by omega
  have hneg:IntKind.i64.wrap (0-at_ z d)=-at_ z d:=by rw [wrap64 (by omega) (by omega)];omega
  simp only [pwA,seval,-iQ0,hdz,pisAt hdz,hz0,hlt',hne,hrd,hnn,h0,h1,h2,hneg];refine zEp g hR yS ⟨w,a,by rw [e3]⟩ (k:=-at_ z d) (by omega) fun v1 f1=>?_
  rw [Int.neg_neg]at f1
  obtain⟨q1,q2,q3,q4⟩:=zEP s F g.cent hlt' hzS y1 y2;have q5:TT O (d+1) (gm O P C z (Grp.pw (gm O P C) (zv O) (ginv (gS O) (gm O P C) (zv O) y) (at_ z d).toNat)):=⟨q1.len,q1.bd,fun j hj=>by
   rcases Nat.lt_or_ge j d with h|h
   ·rw [q3 j h];exact hz.zero j h
   ·rw [show j=d by omega];exact q4⟩
  have hr2:=hr.trans (Rdu.stepR s F g.cent hD e2 hlt' hz hz0 q1 q2 q5);simp only [pwA,seval,-iQ0,h0,h1,h2];refine zAN s hR hzS (G.pw (G.inv_in yS).1 _) hvz f1 fun v2 f2=>?_
  simp only [pwA,seval,-iQ0,w1];exact⟨_,by omega,d+1,_,v2,by omega,rfl,rfl,q5,f2,hr2⟩
structure FullI (O:List Int) (P:List (List Int)) (C:List (List (List Int))) (D R:List (Option (List Int))) (k:Nat):Prop where
 len:R.length=O.length
 dom:∀d,k≤d→d<O.length→((∃y,R[d]? = some (some y))↔∃y,D[d]? = some (some y))
 row:∀(d:Nat) (y:List Int),k≤d→R[d]? = some (some y)→TT O d y∧at_ y d=1
 red:∀(d e:Nat) (y z:List Int),k≤d→k≤e→d≠e→R[d]? = some (some y)→R[e]? = some (some z)→at_ y e=0
 iff:∀N,gB O P C N→((∀(d:Nat) (y:List Int),k≤d→R[d]? = some (some y)→N y)↔∀(d:Nat) (y:List Int),k≤d→D[d]? = some (some y)→N y)
theorem FullI.start (n:Nat) (hn:O.length=n) (hD:D.length=n):FullI O P C D (List.replicate n none) n:=by
 have no:∀{E:List (Option (List Int))} {d y},E.length=n→n≤d→E[d]? = some (some y)→False:=fun hE hd h=>by
  rw [List.getElem?_eq_none (by omega)]at h;cases h
 exact⟨by simp [hn],fun d h1 h2=>by omega,fun d y h1 h2=>(no (by simp) h1 h2).elim,fun d e y z h1 _ _ h2=>(no (by simp) h1 h2).elim,fun N _=>⟨fun _ d y h1 h2=>(no hD h1 h2).elim,fun _ d y h1 h2=>(no (by simp) h1 h2).elim⟩⟩
theorem FullI.skip {k:Nat} (f:FullI O P C D R (k+1)) (hk:k<O.length) (h1:D[k]? = some none) (h2:R[k]? = some none):FullI O P C D R k:=by
 have up:∀{d:Nat} {y:List Int},k≤d→(R[d]? = some (some y)∨D[d]? = some (some y))→k+1≤d:=fun {d y} hd h=>by
  rcases Nat.lt_or_ge k d with e|e
  ·exact e
  ·rw [show d=k by omega,h1,h2]at h
   rcases h with h|h<;>cases h
 refine⟨f.len,fun d a b=>?_,fun d y a b=>f.row d y (up a (.inl b)) b,fun d e y z a b c h h'=>f.red d e y z (up a (.inl h)) (up b (.inl h')) c h h',fun N hN=>?_⟩
 ·constructor
  ·rintro ⟨y,hy⟩;exact(f.dom d (up a (.inl hy)) b).1 ⟨y,hy⟩
  ·rintro ⟨y,hy⟩;exact(f.dom d (up a (.inr hy)) b).2 ⟨y,hy⟩
 ·constructor
  ·intro g d y a b
   exact(f.iff N hN).1 (fun d y a' b'=>g d y (by omega) b') d y (up a (.inr b)) b
  ·intro g d y a b
   exact(f.iff N hN).2 (fun d y a' b'=>g d y (by omega) b') d y (up a (.inl b)) b
theorem FullI.put {k:Nat} {x y:List Int} (f:FullI O P C D R (k+1)) (hk:k<O.length) (h1:D[k]? = some (some y)) (hx:TT O k x) (hx1:at_ x k=1) (hz:∀(e:Nat) (z:List Int),k<e→R[e]? = some (some z)→at_ x e=0)
  (hN:∀N,gB O P C N→(∀(d:Nat) (y:List Int),k+1≤d→R[d]? = some (some y)→N y)→(N y↔N x)):FullI O P C D (R.set k (some x)) k:=by
 have hl:k<R.length:=by rw [f.len];exact hk
 have ge:∀{d:Nat} {w:List Int},(R.set k (some x))[d]? = some (some w)→(d=k∧w=x)∨(d≠k∧R[d]? = some (some w)):=fun {d w} h=>by
  rw [List.getElem?_set]at h
  split at h
  ·rename_i e
   cases h;exact .inl ⟨e.symm,rfl⟩
  ·rename_i e;exact .inr ⟨fun h=>e h.symm,h⟩
 have at_k:(R.set k (some x))[k]? = some (some x):=by rw [List.getElem?_set,if_pos rfl,if_pos hl]
 have at_n:∀{d:Nat} {w:List Int},d≠k→R[d]? = some (some w)→(R.set k (some x))[d]? = some (some w):=fun {d w} h e=>by rw [List.getElem?_set,if_neg (fun h'=>h h'.symm)];exact e
 refine⟨by rw [List.length_set];exact f.len,fun d a b=>?_,fun d w a b=>?_,fun d e w z a b c h h'=>?_,fun N hN'=>?_⟩
 ·by_cases e:d=k
  ·subst e;exact⟨fun _=>⟨y,h1⟩,fun _=>⟨x,at_k⟩⟩
  ·constructor
   ·rintro ⟨w,hw⟩
    rcases ge hw with ⟨e',_⟩|⟨_,hw⟩
    ·exact absurd e' e
    ·exact(f.dom d (by omega) b).1 ⟨w,hw⟩
   ·rintro ⟨w,hw⟩
    obtain⟨z,hz'⟩:=(f.dom d (by omega) b).2 ⟨w,hw⟩
    exact⟨z,at_n e hz'⟩
 ·rcases ge b with ⟨rfl,rfl⟩ | ⟨e,hw⟩
  ·exact⟨hx,hx1⟩
  ·exact f.row d w (by omega) hw
 ·rcases ge h with ⟨e1,e2⟩ | ⟨e1,hw⟩
  ·rcases ge h' with ⟨e3,_⟩ | ⟨e3,hz'⟩
   ·omega
   ·rw [e2];exact hz e z (by omega) hz'
  ·rcases ge h' with ⟨e3,e4⟩ | ⟨e3,hz'⟩
   ·have:=(f.row d w (by omega) hw).1.zero
    rw [e3];exact this k (by omega)
   ·exact f.red d e w z (by omega) (by omega) c hw hz'
 ·have key:((∀(d:Nat) (w:List Int),k≤d→(R.set k (some x))[d]? = some (some w)→N w)↔(N x∧∀(d:Nat) (w:List Int),k+1≤d→R[d]? = some (some w)→N w)):=by
   constructor
   ·intro h
    exact⟨h k x (Nat.le_refl _) at_k,fun d w a b=>h d w (by omega) (at_n (by omega) b)⟩
   ·rintro ⟨h2,h3⟩ d w a b
    rcases ge b with ⟨_,rfl⟩|⟨e,hw⟩
    ·exact h2
    ·exact h3 d w (by omega) hw
  have key2:((∀(d:Nat) (w:List Int),k≤d→D[d]? = some (some w)→N w)↔(N y∧∀(d:Nat) (w:List Int),k+1≤d→D[d]? = some (some w)→N w)):=by
   constructor
   ·intro h
    exact⟨h k y (Nat.le_refl _) h1,fun d w a b=>h d w (by omega) b⟩
   ·rintro ⟨h2,h3⟩ d w a b
    by_cases e:d=k
    ·subst e;rw [h1]at b;cases b;exact h2
    ·exact h3 d w (by omega) b
  rw [key,key2,←f.iff N hN'];constructor
  ·rintro ⟨a,b⟩;exact⟨(hN N hN' b).2 a,b⟩
  ·rintro ⟨a,b⟩;exact⟨(hN N hN' b).1 a,b⟩
end Go.Proofs
namespace Go.Grp
end Go.Grp
namespace Go.Proofs
open Go.Ab Go.Lie Go.Grp
variable {σ h h':PHeap} {K:PV→PHeap→Prop} {O x y:List Int} {P:List (List Int)} {C:List (List (List Int))} {vO vP vC vx vL:PV} {L:List (List Int)} {D R:List (Option (List Int))} {rb rr:List PV} {d n sT:Nat}
def rowsD (R:List (Option (List Int))) (k:Nat):List (List Int):=(R.take k).filterMap id
theorem zBu {k:Nat} (h:R[k]? = some none):rowsD R (k+1)=rowsD R k:=by
 unfold rowsD;have hl:k<R.length:=by
  rcases Nat.lt_or_ge k R.length with e|e
  ·exact e
  ·rw [List.getElem?_eq_none e]at h;cases h
 rw [List.getElem?_eq_getElem hl]at h
 rw [List.take_succ_eq_append_getElem hl,List.filterMap_append,Option.some.inj h]
 simp
theorem zBt {k:Nat} (h:R[k]? = some (some y)):rowsD R (k+1)=rowsD R k++[y]:=by
 unfold rowsD;have hl:k<R.length:=by
  rcases Nat.lt_or_ge k R.length with e|e
  ·exact e
  ·rw [List.getElem?_eq_none e]at h;cases h
 rw [List.getElem?_eq_getElem hl]at h
 rw [List.take_succ_eq_append_getElem hl,List.filterMap_append,Option.some.inj h]
 simp
theorem zFr (k:Nat):(rowsD R k).length≤k:=by
 unfold rowsD;refine Nat.le_trans (List.length_filterMap_le _ _) ?_;rw [List.length_take];omega
theorem zAM {v:List Int} {k:Nat}:v∈rowsD R k↔∃d,d<k∧R[d]? = some (some v):=by
 unfold rowsD;rw [List.mem_filterMap];constructor
 ·rintro ⟨o,ho,rfl⟩
  obtain⟨d,hd,e⟩:=List.mem_iff_getElem.1 ho;rw [List.length_take]at hd
  refine⟨d,by omega,?_⟩
  rw [List.getElem_take]at e
  rw [List.getElem?_eq_getElem (by omega),e]
 ·rintro ⟨d,hd,e⟩
  have hl:d<R.length:=by
   rcases Nat.lt_or_ge d R.length with e' | e'
   ·exact e'
   ·rw [List.getElem?_eq_none e']at e;cases e
  refine⟨some v,?_,rfl⟩;rw [List.mem_take_iff_getElem];rw [List.getElem?_eq_getElem hl]at e
  exact⟨d,by omega,Option.some.inj e⟩
theorem zDG (hy:TT O d y) (h1:at_ y d=1):dep y=d:=zAR (fun j hj=>hy.zero j hj) (by rw [h1];decide)
theorem zK6 (f:FullI O P C D R 0) (hD:OkD O D):CanD O P C D (rowsD R O.length):=by
 have hR:∀{d:Nat} {y:List Int},R[d]? = some (some y)→d<O.length:=fun {d y} h=>by
  rw [←f.len];rcases Nat.lt_or_ge d R.length with e|e
  ·exact e
  ·rw [List.getElem?_eq_none e]at h;cases h
 have get:∀{v:List Int},v∈rowsD R O.length→∃d,d<O.length∧R[d]? = some (some v)∧TT O d v∧at_ v d=1∧dep v=d:=fun {v} hv=>by
  obtain⟨d,hd,e⟩:=zAM.1 hv;obtain⟨h1,h2⟩:=f.row d v (Nat.zero_le _) e;exact⟨d,hd,e,h1,h2,zDG h1 h2⟩
 refine⟨fun v hv=>?_,?_,fun v hv w hw hne=>?_,fun d y hy=>?_,zFr _,fun N hN=>?_⟩
 ·obtain⟨d,hd,e,h1,h2,h3⟩:=get hv
  exact⟨h1.mono (Nat.zero_le _),by omega,by rw [h3];exact h2⟩
 ·have:∀k,k≤O.length→(rowsD R k).Pairwise fun a b=>dep a<dep b:=by
   intro k
   induction k with
   | zero=>intro _;simp [rowsD]
   | succ k ih=>
    intro hk;have hl:k<R.length:=by rw [f.len];omega
    rcases hc:R[k]? with _|_|y
    ·rw [List.getElem?_eq_getElem hl]at hc;cases hc
    ·rw [zBu hc];exact ih (by omega)
    ·rw [zBt hc,List.pairwise_append]
     obtain⟨h1,h2⟩:=f.row k y (Nat.zero_le _) hc;refine⟨ih (by omega),by simp,fun a ha b hb=>?_⟩
     rw [List.mem_singleton.1 hb,zDG h1 h2];obtain⟨d,hd,e⟩:=zAM.1 ha;obtain⟨h3,h4⟩:=f.row d a (Nat.zero_le _) e
     have:=zDG h3 h4;omega
  exact this _ (Nat.le_refl _)
 ·obtain⟨d,hd,e,h1,h2,h3⟩:=get hv
  obtain⟨d',hd',e',h1',h2',h3'⟩:=get hw;rw [h3'];exact f.red d d' v w (Nat.zero_le _) (Nat.zero_le _) (by omega) e e'
 ·have hd:d<O.length:=by
   rw [←hD.len];rcases Nat.lt_or_ge d D.length with e|e
   ·exact e
   ·rw [List.getElem?_eq_none e]at hy;cases hy
  obtain⟨z,hz⟩:=(f.dom d (Nat.zero_le _) hd).2 ⟨y,hy⟩;obtain⟨h1,h2⟩:=f.row d z (Nat.zero_le _) hz;exact⟨z,zAM.2 ⟨d,hd,hz⟩,zDG h1 h2⟩
 ·constructor
  ·intro h
   exact fun d y hy=>(f.iff N hN).1 (fun d y _ hy=>h y (zAM.2 ⟨d,hR hy,hy⟩)) d y (Nat.zero_le _) hy
  ·intro h v hv
   obtain⟨d,hd,e⟩:=zAM.1 hv;exact(f.iff N hN).2 (fun d y _ hy=>h d y hy) d v (Nat.zero_le _) e
theorem zKV (g:LG O P C) (hR:IsPr vO vP vC O P C) (hT:σ.obj sT=some rb) (hTl:sT<σ.next) (hD:OkD O D) (hrb:All2 (DRf O.length) rb D)
  (hk:∀v u,FII v u→CanD O P C D u→K v σ):zA Tryz.prog 185 [.agg [vO,vP,vC],.sl sT 0 O.length (.known O.length)] σ K:=by
 have h0:=hR.O.one;have h1:=hR.P.one;have h2:=hR.C.one;have s:=g.s;have F:=g.F;have G:=F.g;have hn6:=s.le;refine zA.gh ?_;have hne:¬sT=σ.next:=Nat.ne_of_lt hTl;have hw0:IntKind.i64.wrap ((O.length:Int)-1)=(O.length:Int)-1:=wrap64 (by omega) (by omega)
 refine zL mix Tryz.func185 cf185 rfl ?_;dsimp only [if185,qI,eI,nI,qD,eD,mI0,kI0,lI0,xI0,bI0,cI0,sI0,mD0,lD0,xD0,R0,S0];simp only [pwA,seval,-iQ0,h0,h1,h2,mk24 (n:=O.length) (by omega),mkL (n:=O.length) (by omega),hw0]
 have hb1:(σ.new [vO,vP,vC]).rd σ.next 0 3=some [vO,vP,vC]:=by simp only [pwA,seval,-iQ0]
 have hTp:(σ.new [vO,vP,vC]).obj sT=some rb:=by simp only [pwA,seval,-iQ0,hne];exact hT
 have hpn:(σ.new [vO,vP,vC]).next=σ.next+1:=rfl;have kp:Keep σ (σ.new [vO,vP,vC]):=zC σ _;generalize σ.new [vO,vP,vC]=T at *
 rw [←hpn];have hbel:Bel T.next vO∧Bel T.next vP∧Bel T.next vC:=⟨hR.O.bel _,hR.P.bel _,hR.C.bel _⟩;refine zG (fun m vs h'=>∃(k:Nat) (R:List (Option (List Int))) (rr:List PV),m=k∧k≤O.length∧vs=[.sl sT 0 O.length (.known O.length),.ptr σ.next 0,.sl T.next 0 O.length (.known O.length),.int .i64 ((k:Int)-1)]∧h'=T.new rr∧All2 (DRf O.length) rr R∧FullI O P C D R k∧(∀d,d<k→R[d]? = some none)) O.length ?_ ?_
 ·exact⟨O.length,List.replicate O.length none,_,rfl,Nat.le_refl _,rfl,rfl,DRf.start _ _,FullI.start _ rfl hD.len,fun d hd=>by rw [List.getElem?_replicate,if_pos hd]⟩
 rintro m vs h' ⟨k,R,rr,rfl,hkn,rfl,rfl,hrr,hf,hfree⟩
 have hobR:(T.new rr).obj T.next=some rr:=by rw [zM,if_pos rfl]
 have hobT:(T.new rr).obj sT=some rb:=by rw [zM,if_neg (by omega)];exact hTp
 have hld:(T.new rr).rd σ.next 0 3=some [vO,vP,vC]:=by rw [Qz,if_neg (by omega)];exact hb1
 have hlr:rr.length=O.length:=by rw [hrr.1];exact hf.len
 rcases Nat.eq_zero_or_pos m with rfl|hmp
 ·simp only [pwA,seval,-iQ0,show ¬((0:Int)≤((0:Nat):Int)-1) by omega]
  refine zG (fun m vs h'=>∃(i:Nat) (v:PV) (cs:List PV),i≤O.length∧m=O.length-i∧vs=[.sl T.next 0 O.length (.known O.length),v,.int .i64 i]∧Keep (T.new rr) h'∧PSl (T.new rr).next 1 h' v (rowsD R i).length cs∧All2 FI cs (rowsD R i)) O.length ?_ ?_
  ·exact⟨0,_,[],by omega,by omega,rfl,zC _ _,PSl.new (h:=T.new rr) (cs:=[]) (T.next+1) 1 rfl (Nat.le_refl _),All2.nil _⟩
  rintro m vs h' ⟨i,v,cs,hi,rfl,rfl,kk,ps,hall⟩
  have hrl:=zFr (R:=R) i;have hrd:=zI (h:=h') (by rw [kk.obj _ (by show T.next<T.next+1;omega)];exact hobR) i
  simp only [pwA,seval,-iQ0];refine iteI (fun hlt=>?_) fun hge=>?_
  rotate_left
  ·have hie:i=O.length:=by omega
   subst hie;have hcd:=zK6 hf hD;have kk2:=kk.keepOf2 kp;have hn1:σ.next≤(T.new rr).next:=by show σ.next≤T.next+1;omega
   have ps2:PSl σ.next 1 h' v (rowsD R O.length).length cs:=by
    obtain⟨s1,cap1,a1,a2,a3,a4,a5,a6⟩:=ps;exact⟨s1,cap1,a1,a2,a3,a4,by omega,a6⟩
   exact ps2.fin kk2 (hall.bI 0) fun o cap=>hk _ _ ⟨_,_,_,rfl,hall⟩ hcd
  have hlt':i<O.length:=by omega
  rcases DRf.get hrr (d:=i) (by rw [hf.len];exact hlt')with ⟨e1,e2⟩|⟨w,a,y,e1,e3,e2⟩
  ·rw [e1]at hrd
   simp only [pwA,seval,-iQ0,hlt',hrd,wrapS hlt' (by omega:O.length≤4611686018427387904)]
   exact⟨_,by omega,i+1,v,cs,by omega,rfl,rfl,kk,by rw [zBu e2];exact ps,by rw [zBu e2];exact hall⟩
  ·rw [e1]at hrd
   have hpos:(0:Int)<(O.length:Int):=by omega
   simp only [pwA,seval,-iQ0,hlt',hrd,hpos];refine PSl.push (bytes:=24) (σb:=T.new rr) kk ps (by omega) (by omega) fun v2 h2 k2 a2=>?_
   simp only [pwA,seval,-iQ0,wrapS hlt' (by omega:O.length≤4611686018427387904)]
   refine⟨_,by omega,i+1,v2,cs++[.fz w a O.length (pis y)],by omega,rfl,rfl,k2,?_,?_⟩
   ·rw [zBt e2,List.length_append];exact a2
   ·rw [zBt e2];exact hall.snoc ⟨w,a,by rw [e3]⟩
 obtain⟨k,rfl⟩:∃k,m=k+1:=⟨m-1,by omega⟩
 have e:((k+1:Nat):Int)-1=(k:Int):=by omega
 have hkn':k<O.length:=hkn;rw [e];have hrdT:=zI hobT k;have hrdR:=zI hobR k;have hw2:IntKind.i64.wrap ((k:Int)-1)=(k:Int)-1:=wrap64 (by omega) (by omega)
 rcases DRf.get hrb (d:=k) (by rw [hD.len];exact hkn')with ⟨e1,e2⟩|⟨w,a,y,e1,e3,e2⟩
 ·rw [e1]at hrdT
  simp only [pwA,seval,-iQ0,hkn',hrdT,hw2];exact⟨k,Nat.lt_succ_self k,k,R,rr,rfl,by omega,rfl,rfl,hrr,hf.skip hkn' e2 (hfree k (Nat.lt_succ_self k)),fun d hd=>hfree d (by omega)⟩
 rw [e1]at hrdT
 obtain⟨y1,y2⟩:=hD.row _ _ e2;have yS:gS O y:=y1.mono (Nat.zero_le _);have hnn:¬((O.length:Int)=0):=by omega
 have w1:IntKind.i64.wrap ((k:Int)+1)=((k+1:Nat):Int):=by rw [wrap64 (by omega) (by omega)];omega
 simp only [pwA,seval,-iQ0,hkn',hrdT,hnn,w1];refine zG (fun m vs h'=>∃(e:Nat) (x:List Int) (v:PV),k+1≤e∧e≤O.length∧m=O.length-e∧vs=[.sl sT 0 O.length (.known O.length),.ptr σ.next 0,.sl T.next 0 O.length (.known O.length),.int .i64 k,v,.int .i64 e]∧h'=T.new rr∧FI v x∧TT O k x∧at_ x k=1∧(∀(j:Nat) (z:List Int),k<j→j<e→R[j]? = some (some z)→at_ x j=0)∧(∀N,gB O P C N→(∀(d:Nat) (y:List Int),k+1≤d→R[d]? = some (some y)→N y)→(N y↔N x))) (O.length-(k+1)) ?_ ?_
 ·exact⟨k+1,y,.fz w a O.length (pis y),Nat.le_refl _,hkn,by omega,rfl,rfl,⟨w,a,by rw [e3]⟩,y1,y2,fun j z h1 h2=>by omega,fun _ _ _=>Iff.rfl⟩
 rintro m vs h' ⟨e,x,v,hke,heO,rfl,rfl,rfl,hv,hx,hx1,hx0,hN⟩
 have xS:gS O x:=hx.mono (Nat.zero_le _);have hxl:=hx.len;obtain⟨wx,ax,rfl⟩:=hv;have hvx:FI (.fz wx ax x.length (pis x)) x:=⟨wx,ax,rfl⟩;simp only [pwA,seval,-iQ0];refine iteI (fun hlt=>?_) fun hge=>?_
 rotate_left
 ·have hee:e=O.length:=by omega
  subst hee;have hwr:=zAF hobR (i:=k) (v:=.fz wx ax x.length (pis x)) (by omega) hvx.one
  rw [hxl]at hwr hvx
  have hss:(T.new rr).set T.next (rr.set k (.fz wx ax O.length (pis x)))=T.new (rr.set k (.fz wx ax O.length (pis x))):=zK3 T rr _;rw [hss]at hwr
  simp only [pwA,seval,-iQ0,hxl,hkn',hwr,hw2];refine⟨k,Nat.lt_succ_self k,k,R.set k (some x),rr.set k (.fz wx ax O.length (pis x)),rfl,by omega,rfl,rfl,DRf.put hrr (by rw [←hxl];exact⟨wx,ax,rfl⟩) hxl,hf.put hkn' e2 hx hx1 (fun j z h1 h2=>?_) hN,fun d hd=>?_⟩
  ·have hj:j<O.length:=by
    rw [←hf.len];rcases Nat.lt_or_ge j R.length with e|e
    ·exact e
    ·rw [List.getElem?_eq_none e]at h2;cases h2
   exact hx0 j z h1 hj h2
  ·rw [List.getElem?_set,if_neg (by omega)];exact hfree d (by omega)
 have hlt':e<O.length:=by omega
 have hrdE:=zI hobR e;have hex:e<x.length:=by omega
 have w2:IntKind.i64.wrap ((e:Int)+1)=((e+1:Nat):Int):=by rw [wrap64 (by omega) (by omega)];omega
 rcases DRf.get hrr (d:=e) (by rw [hf.len];exact hlt')with ⟨f1,f2⟩|⟨w',a',r,f1,f3,f2⟩
 ·rw [f1]at hrdE
  have natz:¬((0:Int)<((0:Nat):Int)):=by decide
  simp only [pwA,seval,-iQ0,hlt',hrdE,w2,natz,decide_false];refine⟨_,by omega,e+1,x,_,by omega,by omega,rfl,rfl,hvx,hx,hx1,fun j z h1 h2 h3=>?_,hN⟩
  rcases Nat.lt_or_ge j e with h|h
  ·exact hx0 j z h1 h h3
  ·rw [show j=e by omega,f2]at h3;cases h3
 rw [f1]at hrdE
 obtain⟨r1,r2⟩:=hf.row e r (by omega) f2
 have rS:gS O r:=r1.mono (Nat.zero_le _);have bx:=xS.bd e hlt';have bO:=s.pr e hlt';have hpos:(0:Int)<(O.length:Int):=by omega
 by_cases hz:at_ x e=0
 ·simp only [pwA,seval,-iQ0,hlt',hrdE,hpos,decide_true,hex,pisAt hex,hz,w2]
  refine⟨_,by omega,e+1,x,_,by omega,by omega,rfl,rfl,hvx,hx,hx1,fun j z h1 h2 h3=>?_,hN⟩
  rcases Nat.lt_or_ge j e with h|h
  ·exact hx0 j z h1 h h3
  ·rw [show j=e by omega];exact hz
 have hneg:IntKind.i64.wrap (0-at_ x e)=-at_ x e:=by rw [wrap64 (by omega) (by omega)];omega
 obtain⟨q1,q2,q3,q4⟩:=zEP s F g.cent hlt' xS r1 r2;simp only [pwA,seval,-iQ0,hlt',hrdE,hpos,decide_true,hex,pisAt hex,hz,hld,hneg];refine zEp g hR rS ⟨w',a',by rw [f3]⟩ (k:=-at_ x e) (by omega) fun v1 g1=>?_
 rw [Int.neg_neg]at g1
 simp only [pwA,seval,-iQ0,hld];refine zAN s hR xS (G.pw (G.inv_in rS).1 _) hvx g1 fun v2 g2=>?_
 simp only [pwA,seval,-iQ0,w2];generalize gm O P C x (Grp.pw (gm O P C) (zv O) (ginv (gS O) (gm O P C) (zv O) r) (at_ x e).toNat)=x' at *
 refine⟨_,by omega,e+1,x',v2,by omega,by omega,rfl,rfl,g2,⟨q1.len,q1.bd,fun j hj=>by rw [q3 j (by omega)];exact hx.zero j hj⟩,by rw [q3 k (by omega)];exact hx1,fun j z h1 h2 h3=>?_,fun N hN1 hN2=>(hN N hN1 hN2).trans ?_⟩
 ·rcases Nat.lt_or_ge j e with h | h
  ·rw [q3 j h];exact hx0 j z h1 h h3
  ·rw [show j=e by omega];exact q4
 ·have hr:=hN2 e r (by omega) f2
  have hp:=hN1.pw hr (at_ x e).toNat;constructor
  ·intro h;rw [←q2]at h;exact hN1.quotR G hp q1 h
  ·intro h;rw [←q2];exact hN1.cl h hp
end Go.Proofs
namespace Go.Grp
end Go.Grp
namespace Go.Proofs
open Go.Ab Go.Lie Go.Grp
variable {σ h h':PHeap} {K:PV→PHeap→Prop} {O x y:List Int} {P:List (List Int)} {C:List (List (List Int))} {vO vP vC vx vL:PV} {L:List (List Int)} {D R:List (Option (List Int))} {rb rr:List PV} {d n sT:Nat}
theorem All2.unsnoc {α β:Type} {R:α→β→Prop} {us:List α} {bs:List β} {b:β} (h:All2 R us (bs++[b])):∃us' a,us=us'++[a]∧All2 R us' bs∧R a b:=by
 have hl:=h.1;rw [List.length_append,List.length_singleton]at hl
 have hne:us≠[]:=fun e=>by rw [e]at hl;simp at hl
 refine⟨us.dropLast,us.getLast hne,(List.dropLast_concat_getLast hne).symm,⟨by rw [List.length_dropLast];omega,fun k c r hc hr=>?_⟩,?_⟩
 ·have hk:k<us.dropLast.length:=by
   rcases Nat.lt_or_ge k us.dropLast.length with e|e
   ·exact e
   ·rw [List.getElem?_eq_none e]at hc;cases hc
  rw [List.length_dropLast]at hk
  refine h.2 k c r ?_ ?_
  ·rw [List.getElem?_eq_getElem (by rw [List.length_dropLast];exact hk),List.getElem_dropLast]at hc
   rw [List.getElem?_eq_getElem (by omega)];exact hc
  ·rw [List.getElem?_append_left (by omega)];exact hr
 ·refine h.2 bs.length _ _ ?_ ?_
  ·rw [List.getLast_eq_getElem,List.getElem?_eq_getElem (by omega)]
   congr 2;omega
  ·rw [List.getElem?_append_right (Nat.le_refl _),Nat.sub_self];rfl
theorem zLz {α:Type} (Q:List α):Q=[]∨∃Q' x,Q=Q'++[x]:=by
 rcases Q.eq_nil_or_concat with h|⟨l,b,h⟩
 ·exact .inl h
 ·exact .inr ⟨l,b,by rw [h,List.concat_eq_append]⟩
theorem zDi (g:LG O P C) (hR:IsPr vO vP vC O P C) (hL:FII vL L) (sz:SzL L) (hg:∀x∈L,gS O x)
  (hk:∀v u,FII v u→CanG O (GC O P C L) u→K v σ):zA Tryz.prog 87 [.agg [vO,vP,vC],vL] σ K:=by
 have h0:=hR.O.one;have h1:=hR.P.one;have h2:=hR.C.one;have s:=g.s;have F:=g.F;have G:=F.g;have hC:=g.cent;have hn6:=s.le;have hp:=ZI.isp g.pr;have hLl:=sz.l;have hR0:=hR;obtain⟨⟨w0,a0,rfl⟩,hRP,hRC⟩:=hR;refine zA.gh ?_;refine zL mix Tryz.func87 cf87 rfl ?_;dsimp only [if87,qI,eI,nI,qD,eD,mI0,kI0,lI0,LI0,fI0,xI0,bI0,cI0,sI0,eI0,C1,C2,C3,mD0,lD0,fD0,xD0,R0,S0];simp only [pwA,seval,-iQ0,h1,h2,mk24 (n:=O.length) (by omega),mkL (n:=O.length) (by omega),hL.sb]
 have hbo:(σ.new [.fz w0 a0 O.length (pis O),vP,vC]).obj σ.next=some [.fz w0 a0 O.length (pis O),vP,vC]:=by simp only [pwA,seval,-iQ0]
 have hpn:(σ.new [.fz w0 a0 O.length (pis O),vP,vC]).next=σ.next+1:=rfl;have kp:Keep σ (σ.new [.fz w0 a0 O.length (pis O),vP,vC]):=zC σ _;generalize σ.new [.fz w0 a0 O.length (pis O),vP,vC]=T at *
 rw [←hpn];refine zMA hL sz fun vQ h1' rq kq pq hrq=>?_
 simp only [pwA,seval,-iQ0];have kself:∀{rb:List PV} {h:PHeap},Keep (T.new rb) h→h.rd σ.next 0 3=some [.fz w0 a0 O.length (pis O),vP,vC]∧h.rd1 σ.next 0=some (.fz w0 a0 O.length (pis O))∧h.obj T.next=some rb∧T.next<h.next:=fun {rb h} k=>by
  have e1:∀t,t<T.next→h.obj t=T.obj t:=fun t ht=>by rw [k.obj t (by show t<T.next+1;omega),zM,if_neg (by omega)]
  have e2:=e1 σ.next (by omega)
  rw [hbo]at e2
  refine⟨by rw [zi e2];rfl,by rw [zI e2];rfl,?_,k.next⟩
  ·rw [k.obj T.next (Nat.lt_succ_self _),zM,if_pos rfl]
 have kset:∀{rb rb':List PV} {h:PHeap},Keep (T.new rb) h→Keep (T.new rb') (h.set T.next rb'):=fun {rb rb' h} k=>⟨k.next,k.top,fun t ht=>by
  rw [zH]
  split
  ·rename_i e;rw [e,zM,if_pos rfl]
  ·rename_i e
   rw [k.obj t ht,zM,zM,if_neg e,if_neg e]⟩
 refine zG (fun m vs h'=>∃(D:List (Option (List Int))) (rb:List PV) (Q:List (List Int)) (vQ:PV) (rq:List PV),m=10*free D+Q.length∧vs=[.ptr σ.next 0,.int .i64 O.length,.sl T.next 0 O.length (.known O.length),vQ]∧Keep (T.new rb) h'∧PT (T.next+1) h' vQ Q.length rq∧All2 FI rq Q∧(∀x∈Q,gS O x)∧All2 (DRf O.length) rb D∧OkD O D∧QI O P C D Q∧(∀N,gB O P C N→((InD N D∧∀q∈Q,N q)↔∀q∈L,N q))∧Q.length+10*free D≤L.length+10*O.length) (10*free (List.replicate O.length none)+L.length) ?_ ?_
 ·refine⟨List.replicate O.length none,_,L,vQ,rq,rfl,rfl,kq,pq,hrq,hg,DRf.start _ _,OkD.start _ rfl,QI.start _,fun N _=>⟨fun h=>h.2,fun h=>⟨InD.start _,h⟩⟩,?_⟩
  have:=zAk (List.replicate O.length none)
  rw [List.length_replicate]at this
  omega
 clear kq pq hrq vQ rq h1'
 rintro m vs h' ⟨D,rb,Q,vQ,rq,rfl,rfl,kk,pq,hrq,hgQ,hrb,hD,hQI,hS,hbd⟩
 obtain⟨l3,l1,lT,lTn⟩:=kself kk;have hlen:=pq.pLen;have hf6:=zAk D;rw [hD.len]at hf6
 rcases zLz Q with rfl|⟨Q,x,rfl⟩
 ·have natz:¬((0:Int)<((0:Nat):Int)):=by decide
  simp only [List.length_nil]at hlen
  simp only [pwA,seval,-iQ0,hlen,natz,l3];refine zKV g hR0 lT lTn hD hrb fun v u hv hcd=>?_
  simp only [pwA,seval,-iQ0];exact Gh.fin0 (kk.keepOf2 kp) (hv.bel _) (hk v u hv (hcd.can s F hC hD hQI fun N hN=>⟨fun h=>(hS N hN).1 ⟨h,fun q hq=>(by cases hq)⟩,fun h=>((hS N hN).2 h).1⟩))
 have hll:(Q++[x]).length=Q.length+1:=by simp
 rw [hll]at pq hlen hbd
 obtain⟨rq',c,rfl,hrq',hc⟩:=All2.unsnoc hrq;obtain⟨sq,off,cap,vQ',rfl,hrd,hsl,pq'⟩:=pq.unsnoc;have hx:=hgQ x (by simp)
 have hgQ':∀q∈Q,gS O q:=fun q hq=>hgQ q (by simp [hq])
 have hpos:(0:Int)<((Q.length+1:Nat):Int):=by omega
 have hsub:IntKind.i64.wrap (((Q.length+1:Nat):Int)-1)=(Q.length:Int):=by rw [wrap64 (by omega) (by omega)];omega
 have hQlt:Q.length<Q.length+1:=Nat.lt_succ_self _;rw [hll];simp only [pwA,seval,-iQ0,hlen,hpos,hsub,hQlt,hrd,hsl,l3];refine zIq g hR0 lT lTn hD hrb hx hc fun vz z fz gz hz1 hz2=>?_
 have hzl:=gz.len
 by_cases hd:dep z<O.length
 rotate_left
 ·have hdn:dep z=O.length:=by have:=Zn z;omega
  have hz0:=zCx gz (by omega)
  simp only [pwA,seval,-iQ0,hdn];refine⟨_,?_,D,rb,Q,vQ',rq',rfl,rfl,kk,pq',hrq',hgQ',hrb,hD,(hQI.mem (Q':=x::Q) (fun q hq=>by
   rcases List.mem_append.1 hq with h|h
   ·exact List.mem_cons_of_mem _ h
   ·rw [List.mem_singleton.1 h];simp)).drop (by rw [←hz0];exact hz2),fun N hN=>?_,by omega⟩
  ·omega
  ·rw [←hS N hN]
   refine⟨fun⟨h1,h2⟩=>⟨h1,fun q hq=>?_⟩,fun⟨h1,h2⟩=>⟨h1,fun q hq=>h2 q (by simp [hq])⟩⟩
   rcases List.mem_append.1 hq with hq|hq
   ·exact h2 q hq
   ·rw [List.mem_singleton.1 hq,hz2.iff F hN h1,hz0];exact hN.one
 have hdz:dep z<z.length:=by omega
 have hOd:=hp _ (List.getElem_mem hd);have bO:=hOd.bd;have bz:=gz.bd _ hd;have nz:=qc hdz;have eO:at_ O (dep z)=O[dep z]:=at_eq hd;rw [eO]at bz
 have hdn:((dep z:Int)=(O.length:Int))=False:=by simp;omega
 obtain⟨wz,az,rfl⟩:=fz;have fz:FI (.fz wz az z.length (pis z)) z:=⟨wz,az,rfl⟩;simp only [pwA,seval,-iQ0,hdn,l3,l1,hdz,pisAt hdz,hd,pisAt hd];refine zF1 (p:=at_ O (dep z)) (by rw [eO];exact hOd) (by rw [eO];omega) fun q q1 q2 q3=>?_
 simp only [pwA,seval,-iQ0,hdn,l3,l1];refine zFx g hR0 gz fz (k:=q) (by rw [eO]at q2;omega) fun vy fy=>?_
 obtain⟨y1,y2⟩:=Qw s F hC hd (zAH gz) q.toNat;have hy1:at_ (Grp.pw (gm O P C) (zv O) z q.toNat) (dep z)=1:=by
  rw [y2,Int.toNat_of_nonneg (by omega),Int.mul_comm];exact q3
 have hNy:∀N,gB O P C N→N z→N (Grp.pw (gm O P C) (zv O) z q.toNat):=fun N hN h=>hN.pw h _
 generalize Grp.pw (gm O P C) (zv O) z q.toNat=y at *
 have yS:gS O y:=y1.mono (Nat.zero_le _);have hyl:=yS.len;obtain⟨wy,ay,rfl⟩:=fy;have fy:FI (.fz wy ay y.length (pis y)) y:=⟨wy,ay,rfl⟩;have hnone:D[dep z]? = some none:=hz1 hd;have hfree:=zD4 (y:=y) hnone;have hdb:dep z<rb.length:=by rw [hrb.1,hD.len];exact hd
 have hwr:=zAF lT (i:=dep z) (v:=.fz wy ay y.length (pis y)) hdb fy.one;have kk2:=kset (rb':=rb.set (dep z) (.fz wy ay y.length (pis y))) kk;have hrb2:=DRf.put (d:=dep z) hrb fy hyl;have hD2:=hD.put hd y1 hy1;obtain⟨k3,k1,kT,kTn⟩:=kself kk2;have pq2:=pq'.set (t:=T.next) (Nat.lt_succ_self _) (rb.set (dep z) (.fz wy ay y.length (pis y)));have hnx:(h'.set T.next (rb.set (dep z) (.fz wy ay y.length (pis y)))).next=h'.next:=rfl;simp only [pwA,seval,-iQ0,hd,hwr];generalize h'.set T.next (rb.set (dep z) (.fz wy ay y.length (pis y)))=h2 at *
 rw [←hnx];refine PT.push (bytes:=24) (σb:=T.new (rb.set (dep z) (.fz wy ay y.length (pis y)))) fz.one kk2 pq2 (by omega) (by omega) fun v3 h3 kk3 pq3=>?_
 obtain⟨m3,m1,mT,mTn⟩:=kself kk3;simp only [pwA,seval,-iQ0,m3,m1,hd,pisAt hd];refine zFx g hR0 yS fy (k:=at_ O (dep z)) (by rw [eO];omega) fun vo fo=>?_
 have gpo:gS O (Grp.pw (gm O P C) (zv O) y (at_ O (dep z)).toNat):=G.pw yS _;have fo1:=fo.one;have fo2:=fo.cells;simp only [pwA,seval,-iQ0,fo1,fo2,m3,m1,hd,pisAt hd];refine PT.push (bytes:=24) (σb:=T.new (rb.set (dep z) (.fz wy ay y.length (pis y)))) fo.one kk3 pq3 (by omega) (by omega) fun v4 h4 kk4 pq4=>?_
 have hrq4:All2 FI ((rq'++[.fz wz az z.length (pis z)])++[vo]) ((Q++[z])++[Grp.pw (gm O P C) (zv O) y (at_ O (dep z)).toNat]):=(hrq'.snoc fz).snoc fo;have hgQ2:∀q∈(Q++[z])++[Grp.pw (gm O P C) (zv O) y (at_ O (dep z)).toNat],gS O q:=fun q hq=>by
  rcases List.mem_append.1 hq with hq|hq
  ·rcases List.mem_append.1 hq with hq | hq
   ·exact hgQ' q hq
   ·rw [List.mem_singleton.1 hq];exact gz
  ·rw [List.mem_singleton.1 hq];exact gpo
 generalize hQ2:(Q++[z])++[Grp.pw (gm O P C) (zv O) y (at_ O (dep z)).toNat]=Q2 at *
 have hQ2l:Q2.length=Q.length+1+1:=by rw [←hQ2];simp
 have hmz:z∈Q2:=by rw [←hQ2];simp
 have hmQ:∀q∈Q,q∈Q2:=fun q hq=>by rw [←hQ2];simp [hq]
 have hmp:Grp.pw (gm O P C) (zv O) y (at_ O (dep z)).toNat∈Q2:=by rw [←hQ2];simp
 have hNQ2:∀N,gB O P C N→N y→((∀q∈Q2,N q)↔(∀q∈Q,N q)∧N z):=fun N hN hy=>by
  rw [←hQ2];refine⟨fun h=>⟨fun q hq=>h q (by simp [hq]),h z (by simp)⟩,fun⟨h3,h4⟩ q hq=>?_⟩
  rcases List.mem_append.1 hq with hq|hq
  ·rcases List.mem_append.1 hq with hq | hq
   ·exact h3 q hq
   ·rw [List.mem_singleton.1 hq];exact h4
  ·rw [List.mem_singleton.1 hq];exact hN.pw hy _
 generalize (rq'++[PV.fz wz az z.length (pis z)])++[vo]=rq2 at *
 rw [←hQ2l]at pq4
 simp only [pwA,seval,-iQ0];refine zG (fun m us h3=>∃(i:Nat) (vQ:PV) (E:List (List Int)) (re:List PV),i≤O.length∧m=O.length-i∧us=[.ptr σ.next 0,.int .i64 O.length,.sl T.next 0 O.length (.known O.length),vQ,.int .i64 (dep z),.fz wy ay y.length (pis y),.int .i64 i]∧Keep (T.new (rb.set (dep z) (.fz wy ay y.length (pis y)))) h3∧PT (T.next+1) h3 vQ (Q2++E).length re∧All2 FI re (Q2++E)∧(∀q∈E,gS O q)∧E.length≤i∧(∀(e:Nat) (b:List Int),e<i→D[e]? = some (some b)→gcom O P C y b∈E)∧∀N,gB O P C N→InD N D→N y→∀q∈E,N q) O.length ?_ ?_
 ·exact⟨0,v4,[],_,by omega,by omega,rfl,kk4,by rw [List.append_nil];exact pq4,by rw [List.append_nil];exact hrq4,fun q hq=>(by cases hq),Nat.le_refl _,fun e b h=>(by omega),fun N _ _ _ q hq=>(by cases hq)⟩
 clear kk4 pq4 v4 h4 kk3 pq3 v3 h3 m3 m1 mT mTn
 rintro m us h5 ⟨i,vQ5,E,re,hi,rfl,rfl,kk5,pq5,hre,hgE,hEl,hcE,hNE⟩
 obtain⟨m3,m1,mT,mTn⟩:=kself kk5;simp only [pwA,seval,-iQ0];refine iteI (fun hlt=>?_) fun hge=>?_
 rotate_left
 ·refine⟨10*free (D.set (dep z) (some y))+(Q2++E).length,?_,D.set (dep z) (some y),_,Q2++E,vQ5,re,rfl,rfl,kk5,pq5,hre,?_,hrb2,hD2,(hQI.mem (Q':=x::Q) (fun q hq=>by
   rcases List.mem_append.1 hq with h|h
   ·exact List.mem_cons_of_mem _ h
   ·rw [List.mem_singleton.1 h];simp)).put hz2 hnone (by simp [hmz]) (fun q hq=>by simp [hmQ q hq]) (List.mem_append.2 (.inl hmp)) (fun e b hb=>.inr (by
    have:=hcE e b (by
     rcases Nat.lt_or_ge e D.length with h|h
     ·have:=hD.len;omega
     ·rw [List.getElem?_eq_none h]at hb;cases hb) hb
    simp [this])),fun N hN=>?_,?_⟩
  ·simp only [List.length_append,List.length_singleton];omega
  ·intro q hq
   rcases List.mem_append.1 hq with hq|hq
   ·exact hgQ2 q hq
   ·exact hgE q hq
  ·rw [←hS N hN,InD.put hnone]
   constructor
   ·rintro ⟨⟨g1,g2⟩,g3⟩
    obtain⟨g4,g5⟩:=(hNQ2 N hN g2).1 fun q hq=>g3 q (by simp [hq])
    refine⟨g1,fun q hq=>?_⟩
    rcases List.mem_append.1 hq with hq|hq
    ·exact g4 q hq
    ·rw [List.mem_singleton.1 hq];exact(hz2.iff F hN g1).2 g5
   ·rintro ⟨g1,g2⟩
    have gz':=(hz2.iff F hN g1).1 (g2 x (by simp))
    have gy:=hNy N hN gz';refine⟨⟨g1,gy⟩,fun q hq=>?_⟩
    rcases List.mem_append.1 hq with hq|hq
    ·exact(hNQ2 N hN gy).2 ⟨fun q hq=>g2 q (by simp [hq]),gz'⟩ q hq
    ·exact hNE N hN g1 gy q hq
  ·simp only [List.length_append];omega
 have hlt':i<O.length:=by omega
 have w1:IntKind.i64.wrap ((i:Int)+1)=((i+1:Nat):Int):=by rw [wrap64 (by omega) (by omega)];omega
 have hrd3:=zI mT i
 by_cases hie:i=dep z
 ·subst hie
  simp only [pwA,seval,-iQ0,w1];refine⟨_,by omega,dep z+1,vQ5,E,re,by omega,rfl,rfl,kk5,pq5,hre,hgE,by omega,fun e b h1 h2=>?_,hNE⟩
  rcases Nat.lt_or_ge e (dep z)with h|h
  ·exact hcE e b h h2
  ·rw [show e=dep z by omega,hnone]at h2;cases h2
 have hie':¬((i:Int)=(dep z:Int)):=by omega
 have hgetn:(rb.set (dep z) (.fz wy ay y.length (pis y)))[i]? = rb[i]?:=by rw [List.getElem?_set,if_neg (by omega)]
 rw [hgetn]at hrd3
 rcases DRf.get hrb (d:=i) (by rw [hD.len];exact hlt')with ⟨e1,e2⟩|⟨w,a,b,e1,e3,e2⟩
 ·rw [e1]at hrd3
  have natz:¬((0:Int)<((0:Nat):Int)):=by decide
  simp only [pwA,seval,-iQ0,hie',hlt',hrd3,natz,decide_false,w1];refine⟨_,by omega,i+1,vQ5,E,re,by omega,rfl,rfl,kk5,pq5,hre,hgE,by omega,fun e b h1 h2=>?_,hNE⟩
  rcases Nat.lt_or_ge e i with h|h
  ·exact hcE e b h h2
  ·rw [show e=i by omega,e2]at h2;cases h2
 rw [e1]at hrd3
 have bS:gS O b:=(hD.row _ _ e2).1.mono (Nat.zero_le _);have hpos:(0:Int)<(O.length:Int):=by omega
 simp only [pwA,seval,-iQ0,hie',hlt',hrd3,hpos,decide_true,m3];refine zKW s g.co hR0 yS bS fy ⟨w,a,by rw [e3]⟩ fun vc fc=>?_
 have fc1:=fc.one;have fc2:=fc.cells;simp only [pwA,seval,-iQ0,hie',hlt',hrd3,hpos,decide_true,m3,fc1,fc2];refine PT.push (bytes:=24) (σb:=T.new (rb.set (dep z) (.fz wy ay y.length (pis y)))) fc.one kk5 pq5 (by rw [List.length_append];omega) (by rw [List.length_append];omega) fun v6 h6 kk6 pq6=>?_
 simp only [pwA,seval,-iQ0,w1];refine⟨_,by omega,i+1,v6,E++[gcom O P C y b],re++[vc],by omega,rfl,rfl,kk6,?_,?_,?_,?_,?_,?_⟩
 rotate_left
 ·rw [←List.append_assoc];exact hre.snoc fc
 ·intro q hq
  rcases List.mem_append.1 hq with hq|hq
  ·exact hgE q hq
  ·rw [List.mem_singleton.1 hq];exact G.com_in yS bS
 ·simp;omega
 ·intro e b' h1 h2
  rcases Nat.lt_or_ge e i with h|h
  ·simp [hcE e b' h h2]
  ·rw [show e=i by omega,e2]at h2;cases h2;simp
 ·intro N hN hD1 hy q hq
  rcases List.mem_append.1 hq with hq|hq
  ·exact hNE N hN hD1 hy q hq
  ·rw [List.mem_singleton.1 hq];exact hN.com_in hy (hD1 _ _ e2)
 ·rw [←List.append_assoc,List.length_append,List.length_singleton];exact pq6
end Go.Proofs
namespace Go.Proofs
open Go.Ab Go.Lie
variable {p:Int} {n:Nat} {W:List (List Int)} {B:List (List (List Int))} {id:Prop}
theorem zJg {u w:List (List Int)} {z:List Int}:z∈brL p W B n u w↔∃x∈u,∃y∈w,z=br p W B n x y:=by
 constructor
 ·intro h
  obtain⟨x,hx,h⟩:=List.mem_flatMap.1 h;obtain⟨y,hy,rfl⟩:=List.mem_map.1 h;exact⟨x,hx,y,hy,rfl⟩
 ·rintro ⟨x,hx,y,hy,rfl⟩
  exact List.mem_flatMap.2 ⟨x,hx,List.mem_map.2 ⟨y,hy,rfl⟩⟩
def wl (n:Nat) (id:Prop) (w:List (List Int)):Prop:=(id∧w=units n)∨(¬id∧w=[])
end Go.Proofs
namespace Go.Proofs
open Go.Ab Go.Lie
variable {σ:PHeap} {K:PV→PHeap→Prop} {p:Int} {n:Nat} {W:List (List Int)} {B:List (List (List Int))} {vP vB vL vU vV vX:PV} {s:Nat} {u v gens:List (List Int)} {id:Prop}
def ZT (p:Int) (W:List (List Int)) (u:List (List Int)):Prop:=Els p W.length u∧Canon p W.length W u u
theorem zMC {xs:List Int} (h:∀j,at_ xs j=0):isZ xs:=fun x hx=>by
 obtain⟨j,hj,rfl⟩:=List.mem_iff_getElem.1 hx;rw [←at_eq hj];exact h j
theorem zKk {L:List (List Int)} (c:Canon p W.length W L u):ZT p W u:=⟨c.els,c.self⟩
theorem zN2 (o:OkW p n W) (he:Els p n u) (hl:u.length≤1048576):SzL u:=⟨hl,fun x hx=>by rw [(he x hx).1];have:=o.le;omega⟩
theorem Q9 {us:List (List (List Int))} {wL:Bool} {aL:AV} {rL:List PV} (hs:PtrR σ s p vP vB) (hR:IsR vP vB W B) (szr:SzR W B) (hL:All2 FII rL us) (hul:us.length≤2) (hne:us≠[]) (sz:∀u∈us,SzL u)
  (hk:∀t:Bool,(t=true↔isLie p W B∧∀u∈us,ZT p W u)→K (.bool t) σ):zA Tryz.prog 91 [.ptr s 0,.fz wL aL us.length rL] σ K:=by
 have fl:∀{A:Prop},¬A→((false=true)↔A):=fun h=>⟨fun x=>(by cases x),fun x=>absurd x h⟩
 have hPP:=hR.P;obtain⟨wp,ap,rp,rfl,hrp⟩:=hR.P;refine zD mix Tryz.func91 ?_
 conv=>arg 2;cbv
 refine zF rfl ?_;simp only [pwA,seval,-iQ0];refine zG (fun m vs h'=>∃i:Nat,i≤us.length∧m=us.length-i∧vs=[.ptr s 0,.fz wL aL us.length rL,.int .i64 us.length,.int .i64 i]∧σ=h'∧∀j (h:j<us.length),j<i→isLie p W B∧ZT p W us[j]) us.length ⟨0,by omega,by omega,rfl,rfl,fun j h hj=>by omega⟩ ?_
 rintro m vs h' ⟨i,hi,rfl,rfl,rfl,hall⟩
 simp only [pwA,seval,-iQ0];refine iteI (fun hlt=>?_) fun hge=>?_
 rotate_left
 ·have hie:i=us.length:=by omega
  have hr3:σ.rd s 0 3=some [.int .i64 p,.fz wp ap W.length rp,vB]:=by rw [zi hs.obj];rfl
  simp only [pwA,seval,-iQ0,hr3];refine zDA hR szr fun t ht=>?_
  simp only [pwA,seval,-iQ0];refine hk _ ⟨fun e=>⟨ht.1 e,fun x hx=>?_⟩,fun x=>ht.2 x.1⟩
  obtain⟨j,hj,rfl⟩:=List.mem_iff_getElem.1 hx;exact(hall j hj (by omega)).2
 obtain⟨w4,a4,rs,hr,hrs⟩:=hL.rowL hlt;have hF:FII (.fz w4 a4 us[i].length rs) us[i]:=⟨w4,a4,rs,rfl,hrs⟩;have szi:=sz _ (List.getElem_mem hlt);have r1:σ.rd1 s 1=some (.fz wp ap W.length rp):=by rw [zI hs.obj];rfl
 have bad:¬(isLie p W B∧ZT p W us[i])→¬(isLie p W B∧∀u∈us,ZT p W u):=fun h x=>h ⟨x.1,x.2 _ (List.getElem_mem hlt)⟩
 by_cases hg:W.length<us[i].length
 ·have hg':(us[i].length:Int) > (W.length:Int):=by omega
  have hg'':(W.length:Int)<(us[i].length:Int):=by omega
  simp only [pwA,seval,-iQ0,hlt,hr,r1,hg',hg'',decide_true];exact hk _ (fl (bad fun x=>by have:=x.2.2.len;omega))
 have hg':¬(us[i].length:Int) > (W.length:Int):=by omega
 have hg'':¬(W.length:Int)<(us[i].length:Int):=by omega
 simp only [pwA,seval,-iQ0,hlt,hr,r1,hg',hg'',decide_false];refine zBh hs hR szr hF szi fun t ht=>?_
 cases t with
 | false=>
  simp only [pwA,seval,-iQ0];exact hk _ (fl (bad fun x=>by have:=ht.2 ⟨x.1,x.2.1⟩;cases this))
 | true=>
 obtain⟨hl,he⟩:=ht.1 rfl;have o:=hl.1.w;simp only [pwA,seval,-iQ0];refine zB7 hs hPP o hl.1.1 hF he szi.l fun vO out c hO=>?_
 simp only [pwA,seval,-iQ0];have hn6:=o.le;have hol:=c.len;have hiff:(out=us[i])↔ZT p W us[i]:=⟨fun e=>by rw [e]at c;exact⟨he,c⟩,fun x=>c.unique o x.2⟩
 refine zBQ hO hF (by omega) (fun x hx=>by rw [(c.els x hx).1];omega) fun t ht=>?_
 cases t with
 | false=>
  simp only [pwA,seval,-iQ0];exact hk _ (fl (bad fun x=>by have:=ht.2 (hiff.2 x.2);cases this))
 | true=>
 simp only [pwA,seval,-iQ0,wrapS hlt (by omega:us.length≤4611686018427387904)]
 refine⟨_,by omega,i+1,by omega,rfl,rfl,fun j h hj=>?_⟩
 by_cases e:j=i
 ·subst e;exact⟨hl,hiff.1 (ht.1 rfl)⟩
 ·exact hall j h (by omega)
theorem zCR {x y:List (List Int)} {vY:PV} (hs:PtrR σ s p vP vB) (hR:IsR vP vB W B) (o:OkW p n W) (q:OkB p n B) (hX:FII vX x) (hY:FII vY y) (hU:FII vU u) (ex:Els p n x) (ey:Els p n y) (hxl:x.length≤6) (hyl:y.length≤6) (hb:Base p n W u)
  (hk:∀t:Bool,(t=true↔∀a∈x,∀b∈y,Gen p n W u (at_ (br p W B n a b)))→K (.bool t) σ):zA Tryz.prog 93 [.ptr s 0,vX,vY,vU] σ K:=by
 have fl:∀{A:Prop},¬A→((false=true)↔A):=fun h=>⟨fun x=>(by cases x),fun x=>absurd x h⟩
 have hn6:=o.le;have hul:u.length≤n:=Z5 (fun v hv=>(hb.led v hv).2.1) hb.asc
 refine zD mix Tryz.func93 ?_
 conv=>arg 2;cbv
 refine zF rfl ?_;simp only [pwA,seval,-iQ0];refine zDo hs hR o q hX hY ex ey hxl hyl fun vZ hZ=>?_
 have ez:=zBm o q x y;have hlz:(brL p W B n x y).length≤36:=by
  rw [Qr]
  have:x.length*y.length≤6*6:=Nat.mul_le_mul hxl hyl
  omega
 have hiff:(∀a∈x,∀b∈y,Gen p n W u (at_ (br p W B n a b)))↔∀z∈brL p W B n x y,Gen p n W u (at_ z):=⟨fun h z hz=>by
  obtain⟨a,ha,b,hb,rfl⟩:=zJg.1 hz;exact h a ha b hb,fun h a ha b hb=>h _ (zJg.2 ⟨a,ha,b,hb,rfl⟩)⟩
 rw [hiff]at hk
 clear hiff;generalize brL p W B n x y=Z at *
 obtain⟨wz,az,rz,rfl,hrz⟩:=hZ;simp only [pwA,seval,-iQ0];refine zG (fun m vs h'=>∃i:Nat,i≤Z.length∧m=Z.length-i∧vs=[.ptr s 0,vU,.fz wz az Z.length rz,.int .i64 Z.length,.int .i64 i]∧σ=h'∧∀j (h:j<Z.length),j<i→Gen p n W u (at_ Z[j])) Z.length ⟨0,by omega,by omega,rfl,rfl,fun j h hj=>by omega⟩ ?_
 rintro m vs h' ⟨i,hi,rfl,rfl,rfl,hall⟩
 simp only [pwA,seval,-iQ0];refine iteI (fun hlt=>?_) fun hge=>?_
 rotate_left
 ·have hie:i=Z.length:=by omega
  refine hk _ ⟨fun _ z hz=>?_,fun _=>rfl⟩
  obtain⟨j,hj,rfl⟩:=List.mem_iff_getElem.1 hz;exact hall j hj (by omega)
 obtain⟨w4,a4,hr⟩:=hrz.rowI hlt;have hzi:=ez _ (List.getElem_mem hlt);simp only [pwA,seval,-iQ0,hlt,hr];refine zAs hs hR.P o hU (fun v hv=>⟨(hb.led v hv).1,(hb.led v hv).2.1⟩) (by omega) hzi rfl fun v1=>?_
 simp only [pwA,seval,-iQ0];have hrl:=(Zh o hb.els hzi).1;have hin:=zJG o hb hzi;refine ZX hrl.symm (by omega) ?_
 by_cases hz0:isZ (redL p W u Z[i])
 ·simp only [pwA,seval,-iQ0,hz0,decide_true,wrapS hlt (by omega:Z.length≤4611686018427387904)]
  refine⟨_,by omega,i+1,by omega,rfl,rfl,fun j h hj=>?_⟩
  by_cases e:j=i
  ·subst e;exact hin.1 (ZH hz0)
  ·exact hall j h (by omega)
 ·simp only [pwA,seval,-iQ0,hz0,decide_false]
  refine hk _ (fl fun x=>hz0 ?_)
  have:=hin.2 (x _ (List.getElem_mem hlt))
  exact zMC fun j=>this j
end Go.Proofs
namespace Go.Proofs
open Go.Ab Go.Lie
variable {σ:PHeap} {K:PV→PHeap→Prop} {p:Int} {n:Nat} {W:List (List Int)} {B:List (List (List Int))} {vP vB vL vU vV vX:PV} {s:Nat} {u v gens:List (List Int)} {id:Prop}
theorem zI8 (hR:IsR vP vB W B) (szr:SzR W B) (hU:FII vU u) (sz:SzL u)
  (hk:∀(t:Bool) (c:Int),((¬(isLie p W B∧ZT p W u)∧t=false∧c=1)∨((isLie p W B∧ZT p W u)∧(t=true↔∀x∈u,∀y∈u,Gen p W.length W u (at_ (br p W B W.length x y)))∧c=0))→K (.tup [.bool t,.int .i64 c]) σ):zA Tryz.prog 27 [.agg [.int .i64 p,vP,vB],vU] σ K:=by
 have h1:=hR.P.one;have h2:=hR.B.one;refine zA.gh ?_;refine zD mix Tryz.func27 ?_
 conv=>arg 2;cbv
 refine zF rfl ?_;simp only [pwA,seval,-iQ0,h1,h2,hU.one,hU.cells];refine zA.frz (s:=σ.next+1) (cs:=[vU]) (by simp only [pwA,seval,-iQ0]) ⟨hU.bel 0,trivial⟩ fun o1=>?_
 have hkp:Keep σ (((σ.new [.int .i64 p,vP,vB]).new [vU]).kill (σ.next+1)):=((zC σ _).new _).kill (by omega)
 have hp2:PtrR (((σ.new [.int .i64 p,vP,vB]).new [vU]).kill (σ.next+1)) σ.next p vP vB:=⟨by simp only [pwA,seval,-iQ0],by simp only [pwA,seval,-iQ0];omega⟩
 generalize ((σ.new [.int .i64 p,vP,vB]).new [vU]).kill (σ.next+1)=H at *
 simp only [sbs,sb,capOK,and_self,if_true,decide_true,Nat.le_refl];refine Q9 (us:=[u]) hp2 hR szr ((All2.nil FII).snoc hU) (by simp) (by simp) (fun x hx=>by rw [List.mem_singleton.1 hx];exact sz) fun t ht=>?_
 have ht':t=true↔isLie p W B∧ZT p W u:=by rw [ht];simp
 cases t with
 | false=>
  simp only [pwA,seval,-iQ0];exact Gh.fin0 hkp ⟨trivial,trivial,trivial⟩ (hk false 1 (.inl ⟨fun e=>(by have:=ht'.2 e;cases this),rfl,rfl⟩))
 | true=>
 have hl:=ht'.1 rfl;have o:=hl.1.1.w;have hn6:=o.le;have hul:=hl.2.2.len;simp only [pwA,seval,-iQ0];refine zCR hp2 hR o hl.1.1.b hU hU hU hl.2.1 hl.2.1 (by omega) (by omega) hl.2.2.base fun t ht=>?_
 simp only [pwA,seval,-iQ0];exact Gh.fin0 hkp ⟨trivial,trivial,trivial⟩ (hk t 0 (.inr ⟨hl,ht,rfl⟩))
end Go.Proofs
namespace Go.Proofs
open Go.Ab Go.Lie
variable {σ:PHeap} {K:PV→PHeap→Prop} {p:Int} {n:Nat} {W:List (List Int)} {B:List (List (List Int))} {vP vB vL vU vV vX:PV} {s:Nat} {u v gens:List (List Int)} {id:Prop}
theorem zIu {xs ys:List (List Int)} (hU:FII vU xs) (hV:FII vV ys) (hx:xs.length≤1048576) (hxl:∀x∈xs,x.length≤1048576) (hk:∀t:Bool,(t=true↔xs=ys)→K (.bool t) σ):zA Tryz.prog 173 [vU,vV] σ K:=by
 have fl:∀{A:Prop},¬A→((false=true)↔A):=fun h=>⟨fun x=>(by cases x),fun x=>absurd x h⟩
 obtain⟨wA,aA,rA,rfl,hrA⟩:=hU;obtain⟨wB,aB,rB,rfl,hrB⟩:=hV;refine zD mix Tryz.func173 ?_
 conv=>arg 2;cbv
 refine zF rfl ?_
 by_cases hl:xs.length=ys.length
 rotate_left
 ·have hl':¬(xs.length:Int)=(ys.length:Int):=by omega
  simp only [pwA,seval,-iQ0,hl'];exact hk _ (fl fun h=>hl (by rw [h]))
 have hl':(xs.length:Int)=(ys.length:Int):=by omega
 simp only [pwA,seval,-iQ0,eq_true hl'];refine zG (fun m vs h'=>∃i:Nat,i≤xs.length∧m=xs.length-i∧vs=[.fz wA aA xs.length rA,.fz wB aB ys.length rB,.int .i64 i]∧σ=h'∧xs.take i=ys.take i) xs.length ?_ ?_
 ·exact⟨0,by omega,by omega,rfl,rfl,rfl⟩
 rintro m vs h' ⟨i,hi,rfl,rfl,rfl,heq⟩
 simp only [pwA,seval,-iQ0];refine iteI (fun hlt=>?_) fun hge=>?_
 rotate_left
 ·have hie:i=xs.length:=by omega
  subst hie;rw [List.take_length,hl,List.take_length]at heq
  exact hk _ ⟨fun _=>heq,fun _=>rfl⟩
 have hlt2:i<ys.length:=by omega
 obtain⟨w4,a4,hr⟩:=hrA.rowI hlt;obtain⟨w5,a5,hr2⟩:=hrB.rowI hlt2;have hb:=hxl _ (List.getElem_mem hlt);simp only [pwA,seval,-iQ0,hlt,hlt2,hr,hr2];refine zEs rfl rfl (by omega) ?_
 by_cases he:xs[i]=ys[i]
 ·simp only [pwA,seval,-iQ0,he,wrapS hlt (by omega:xs.length≤4611686018427387904)]
  refine⟨_,by omega,i+1,by omega,rfl,rfl,?_⟩
  rw [List.take_succ_eq_append_getElem hlt,List.take_succ_eq_append_getElem hlt2,heq,he]
 ·simp only [pwA,seval,-iQ0,he]
  refine hk _ (fl fun h=>he ?_)
  subst h;rfl
end Go.Proofs
namespace Go.Grp
end Go.Grp
namespace Go.Proofs
open Go.Ab Go.Lie Go.Grp
variable {σ h h':PHeap} {K:PV→PHeap→Prop} {O x y:List Int} {P:List (List Int)} {C:List (List (List Int))} {vO vP vC vx vL vU:PV} {L u:List (List Int)} {D R:List (Option (List Int))} {rb rr:List PV} {d n sT sp:Nat}
def Z7 (O:List Int) (P:List (List Int)) (C:List (List (List Int))) (u:List (List Int)):Prop:=(∀x∈u,gS O x)∧CanG O (GC O P C u) u
theorem zCs (g:LG O P C) (hs:PtrG σ sp vO vP vC) (hR:IsPr vO vP vC O P C) (hL:FII vL L) (hg:∀x∈L,gS O x) (hLl:L.length≤1000000)
  (hk:∀v u,FII v u→CanG O (GC O P C L) u→K v σ):zA Tryz.prog 96 [.ptr sp 0,vL] σ K:=by
 have s:=g.s;have F:=g.F;have hC:=g.cent;have hp:=ZI.isp g.pr;have hL0:=hL;obtain⟨wl,al,rl,rfl,hrl⟩:=hL;refine zA.gh ?_;refine zD mix Tryz.func96 ?_
 conv=>arg 2;cbv
 refine zF rfl ?_;simp only [pwA,seval,-iQ0];refine zFU s hs hR fun ss sb h1 k1 n1 n2 q1=>?_
 simp only [pwA,seval,-iQ0];refine zPk s F hC hp q1 hR (OkD.start O.length rfl) ⟨by simp,fun k c r hc hr=>?_⟩ (QI.start _) hL0 hg hLl fun t rb' D' hrb' hD' hQ' hN' hf hf'=>?_
 ·rw [List.getElem?_replicate]at hc hr
  split at hc
  ·rename_i h
   rw [if_pos h]at hr
   cases hc;cases hr;exact .inl ⟨rfl,rfl⟩
  ·cases hc
 simp only [pwA,seval,-iQ0];refine zHk s F hC (q1.setB rb') hR hD' hrb' fun v u f1 cd=>?_
 simp only [pwA,seval,-iQ0];exact Gh.fin0 (k1.set n2 _) (f1.bel _) (hk v u f1 (cd.can s F hC hD' hQ' fun N hN=>(hN' N hN).trans ⟨fun h=>h.2,fun h=>⟨InD.start _,h⟩⟩))
theorem Z7.len (h:Z7 O P C u):u.length≤O.length:=h.2.len
theorem zBM {wL:Bool} {aL:AV} (g:LG O P C) (hs:PtrG σ sp vO vP vC) (hR:IsPr vO vP vC O P C) (sz:SzP O P C) (hU:FII vU u) (szu:SzL u) (hk:∀t:Bool,(t=true↔Z7 O P C u)→K (.bool t) σ):zA Tryz.prog 107 [.ptr sp 0,.fz wL aL 1 [vU]] σ K:=by
 have fl:∀{A:Prop},¬A→((false=true)↔A):=fun h=>⟨fun x=>(by cases x),fun x=>absurd x h⟩
 have s:=g.s;have F:=g.F;have hn6:=s.le;have r3:σ.rd sp 0 3=some [vO,vP,vC]:=by rw [zi hs.obj];rfl
 have hR0:=hR;obtain⟨⟨w0,a0,rfl⟩,_,_⟩:=hR;have r1:σ.rd1 sp 0=some (.fz w0 a0 O.length (pis O)):=by rw [zI hs.obj];rfl
 have hul:=szu.l;have hU0:=hU;obtain⟨wu,au,ru,rfl,hru⟩:=hU;refine zD mix Tryz.func107 ?_
 conv=>arg 2;cbv
 refine zF rfl ?_;simp only [pwA,seval,-iQ0,r3];refine zFD hR0 sz fun t ht=>?_
 obtain rfl:t=true:=ht.2 ⟨g.pr,g.co⟩;clear ht;simp only [pwA,seval,-iQ0];refine zG (fun m us h'=>∃i:Nat,i≤1∧m=1-i∧us=[.ptr sp 0,.fz wL aL 1 [.fz wu au u.length ru],.int .i64 ((1:Nat):Int),.int .i64 i]∧σ=h'∧(i=1→Z7 O P C u)) 1 ⟨0,by omega,by omega,rfl,rfl,fun h=>by omega⟩ ?_
 rintro m us h' ⟨i,hi,rfl,rfl,rfl,hall⟩
 rcases Nat.lt_or_ge i 1 with hi1|hi1
 rotate_left
 ·obtain rfl:i=1:=by omega
  have n1:¬(((1:Nat):Int)<((1:Nat):Int)):=by omega
  simp only [pwA,seval,-iQ0,n1,decide_false];exact hk true ⟨fun _=>hall rfl,fun _=>rfl⟩
 obtain rfl:i=0:=by omega
 have n0:((0:Nat):Int)<((1:Nat):Int):=by omega
 have n00:(0:Int)<((1:Nat):Int):=by omega
 have n01:(0:Nat)<1:=by omega
 simp only [pwA,seval,-iQ0,n0,n00,n01,decide_true,r1];refine iteI (fun hgt=>?_) fun hle=>?_
 ·refine hk _ (fl fun h=>?_)
  have:=h.len
  omega
 have hle':u.length≤O.length:=by omega
 refine zG (fun m us h'=>∃i:Nat,i≤u.length∧m=u.length-i∧us=[.ptr sp 0,.fz wu au u.length ru,.fz wL aL 1 [.fz wu au u.length ru],.int .i64 ((1:Nat):Int),.int .i64 ((0:Nat):Int),.fz wu au u.length ru,.int .i64 u.length,.int .i64 i]∧σ=h'∧∀x∈u.take i,isExp O x) u.length ⟨0,by omega,by omega,rfl,rfl,by simp⟩ ?_
 rintro m us h' ⟨i,hi',rfl,rfl,rfl,hall'⟩
 simp only [pwA,seval,-iQ0];refine iteI (fun hlt=>?_) fun hge=>?_
 rotate_left
 ·have hie:i=u.length:=by omega
  subst hie;rw [List.take_length]at hall'
  have hgu:∀x∈u,gS O x:=fun x hx=>(hall' x hx).gS
  simp only [pwA,seval,-iQ0];refine zCs g hs hR0 hU0 hgu (by omega) fun v z hv hz=>?_
  simp only [pwA,seval,-iQ0];have hzl:=hz.len;refine zBQ hv hU0 (by omega) (fun x hx=>by have:=(hz.one x hx).1.len;omega) fun t ht=>?_
  cases t with
  | false=>
   simp only [pwA,seval,-iQ0];refine hk _ (fl fun h=>?_)
   have:=ht.2 (hz.unique s F (GC.sub F hgu) h.2)
   cases this
  | true=>
   have e:=ht.1 rfl;have w1:IntKind.i64.wrap (((0:Nat):Int)+1)=((1:Nat):Int):=by rw [wrap64 (by omega) (by omega)];omega
   simp only [pwA,seval,-iQ0,w1];exact⟨0,by omega,1,Nat.le_refl _,by omega,rfl,fun _=>⟨hgu,by rw [e]at hz;exact hz⟩⟩
 obtain⟨w4,a4,hr⟩:=hru.rowI hlt;have hxi:=szu.r _ (List.getElem_mem hlt);simp only [pwA,seval,-iQ0,hlt,hr];refine Q4 hs hR0.O (by omega) (ZI.isp g.pr) ⟨w4,a4,rfl⟩ hxi fun t ht=>?_
 cases t with
 | false=>
  simp only [pwA,seval,-iQ0];refine hk _ (fl fun h=>?_)
  have:=ht.2 (zHV.2 (h.1 _ (List.getElem_mem hlt)))
  cases this
 | true=>
 have h1:=ht.1 rfl;simp only [pwA,seval,-iQ0,wrapS hlt (by omega:u.length≤4611686018427387904)]
 refine⟨_,by omega,i+1,by omega,rfl,rfl,fun x hx=>?_⟩
 rw [List.take_succ_eq_append_getElem hlt,List.mem_append,List.mem_singleton]at hx
 rcases hx with hx|hx
 ·exact hall' x hx
 ·rw [hx];exact h1
theorem zNP (g:LG O P C) {H:List Int→Prop} (hH:gB O P C H) (hu:CanG O H u) {x z:List Int} (hx:gS O x) (hz:gS O z) (h0:∀v∈u,at_ z (dep v)=0) (hN:∀N,gB O P C N→(∀v∈u,N v)→(N x↔N z)):z=zv O↔H x:=by
 have s:=g.s;constructor
 ·rintro rfl
  exact(hN H hH hu.mem).2 hH.one
 ·intro h
  have hzH:=(hN H hH hu.mem).1 h;rcases Nat.lt_or_ge (dep z) O.length with hd|hd
  ·obtain⟨v,hv,e⟩:=hu.all z hzH hd
   exact absurd (by rw [←e];exact h0 v hv) (qc (by rw [hz.len];exact hd))
  ·exact zCx hz hd
theorem zCc (hU:FII vU []) (hvx:FI vx []) (hk:∀w a,K (.fz w a 0 []) σ):zA Tryz.prog 209 [.ptr sp 0,vU,vx] σ K:=by
 obtain⟨wx,ax,rfl⟩:=hvx;have hUU:=hU;obtain⟨wl,al,rl,rfl,hrl⟩:=hU;refine zA.gh ?_;refine zD mix Tryz.func209 ?_
 conv=>arg 2;cbv
 refine zF rfl ?_;simp only [pwA,seval,-iQ0];refine Zf rfl (by simp) ⟨fun h0=>?_,fun cap hc=>?_⟩
 ·simp only [pwA,seval,-iQ0]
  refine zBD hUU (fun v hv=>by cases hv) (by simp) fun vp=>?_
  simp only [pwA,seval,-iQ0];refine zG (fun m vs h'=>vs=[.ptr sp 0,.fz wl al 0 rl,.fz true .nils 0 [],.fz true vp 0 (pis (deps [])),.int .i64 0,.int .i64 0]∧h'=σ) 0 ⟨rfl,rfl⟩ ?_
  rintro m vs h' ⟨rfl,rfl⟩
  simp only [pwA,seval,-iQ0];exact Gh.fin0 (Keep.refl _) trivial (hk _ _)
 ·simp only [pwA,seval,-iQ0]
  refine zBD hUU (fun v hv=>by cases hv) (by simp) fun vp=>?_
  simp only [pwA,seval,-iQ0];refine zG (fun m vs h'=>vs=[.ptr sp 0,.fz wl al 0 rl,.sl σ.next 0 0 cap,.fz true vp 0 (pis (deps [])),.int .i64 0,.int .i64 0]∧h'=σ.new []) 0 ⟨rfl,rfl⟩ ?_
  rintro m vs h' ⟨rfl,rfl⟩
  simp only [pwA,seval,-iQ0];exact Gh.finF (s:=σ.next) (cs:=[]) (zC σ _) (by simp only [pwA,seval,-iQ0]) (Nat.le_refl _) trivial hc.ok fun o=>hk _ _
theorem zIy (g:LG O P C) (hs:PtrG σ sp vO vP vC) (hR:IsPr vO vP vC O P C) (hU:FII vU u) (hu:Z7 O P C u) (hx:gS O x) (hvx:FI vx x) (hk:∀t:Bool,(t=true↔GC O P C u x)→K (.bool t) σ):zA Tryz.prog 120 [.ptr sp 0,vU,vx] σ K:=by
 have s:=g.s;have F:=g.F;have hn6:=s.le;have hul:=hu.len;rcases Nat.eq_zero_or_pos O.length with hn|hn
 ·obtain rfl:u=[]:=List.eq_nil_of_length_eq_zero (by omega)
  obtain rfl:x=[]:=List.eq_nil_of_length_eq_zero (by rw [hx.len,hn])
  refine zD mix Tryz.func120 ?_
  conv=>arg 2;cbv
  refine zF rfl ?_;simp only [pwA,seval,-iQ0];refine zCc hU hvx fun w a=>?_
  simp only [pwA,seval,-iQ0];refine ZX (xs:=[]) rfl (by simp) ?_
  simp only [pwA,seval,-iQ0];refine hk _ ?_;rw [decide_eq_true_iff];refine⟨fun _=>?_,fun _ x hx=>by cases hx⟩
  have:=(GC.sub (L:=[]) F (fun x hx=>by cases hx)).one
  rwa [show zv O=[] from List.eq_nil_of_length_eq_zero (by simp [zv,hn])]at this
 refine zD mix Tryz.func120 ?_
 conv=>arg 2;cbv
 refine zF rfl ?_;simp only [pwA,seval,-iQ0];refine zAX s F g.cent hn hs hR hU hu.2.one hu.2.asc (by omega) hx hvx fun o cap z hz h1 h0 hN=>?_
 have hzl:=hz.len;simp only [pwA,seval,-iQ0];refine ZX hzl.symm (by omega) ?_
 simp only [pwA,seval,-iQ0];refine hk _ ?_;rw [decide_eq_true_iff,zPP hzl];exact zNP g (GC.sub F hu.1) hu.2 hx hz h0 hN
theorem zKu (g:LG O P C) (hR:IsPr vO vP vC O P C) (sz:SzP O P C) (hU:FII vU u) (hu:Z7 O P C u) (hx:gS O x) (hvx:FI vx x)
  (hk:∀t:Bool,(t=true↔GC O P C u x)→K (.tup [.bool t,.int .i64 0]) σ):zA Tryz.prog 34 [.agg [vO,vP,vC],vU,vx] σ K:=by
 have h0:=hR.O.one;have h1:=hR.P.one;have h2:=hR.C.one;have s:=g.s;have F:=g.F;have hn6:=s.le;have hul:=hu.len;have hxl:=hx.len;have szu:SzL u:=⟨by omega,fun y hy=>by have:=(hu.1 y hy).len;omega⟩
 refine zA.gh ?_;refine zD mix Tryz.func34 ?_
 conv=>arg 2;cbv
 refine zF rfl ?_;simp only [pwA,seval,-iQ0,h0,h1,h2,hU.one,hU.cells];have hkp:Keep σ (((σ.new [vO,vP,vC]).new [vU]).kill (σ.next+1)):=((zC σ _).new _).kill (by omega)
 have hs:PtrG (((σ.new [vO,vP,vC]).new [vU]).kill (σ.next+1)) σ.next vO vP vC:=⟨by simp only [pwA,seval,-iQ0],by simp only [pwA,seval,-iQ0];omega⟩
 refine zA.frz (s:=σ.next+1) (cs:=[vU]) (by simp only [pwA,seval,-iQ0]) ⟨hU.bel 0,trivial⟩ fun o=>?_
 generalize ((σ.new [vO,vP,vC]).new [vU]).kill (σ.next+1)=H at *
 simp only [sbs,Go.Ab.sb,capOK,and_self,if_true,decide_true,Nat.le_refl];refine zBM g hs hR sz hU szu fun t ht=>?_
 obtain rfl:t=true:=ht.2 hu;clear ht;simp only [pwA,seval,-iQ0];refine Q4 hs hR.O (by omega) (ZI.isp g.pr) hvx (by omega) fun t ht=>?_
 obtain rfl:t=true:=ht.2 (zHV.2 hx);clear ht;simp only [pwA,seval,-iQ0];refine zIy g hs hR hU hu hx hvx fun t ht=>?_
 simp only [pwA,seval,-iQ0];exact Gh.fin0 hkp ⟨trivial,trivial,trivial⟩ (hk t ht)
theorem zFa (hR:IsPr vO vP vC O P C) (szO:O.length≤1048576) (bO:∀o∈O,isP o) (hL:FII vL L) (sz:SzL L) (hk:∀t:Bool,(t=true↔∀x∈L,isExp O x)→K (.bool t) σ):zA Tryz.prog 196 [.agg [vO,vP,vC],vL] σ K:=by
 have fl:∀{A:Prop},¬A→((false=true)↔A):=fun h=>⟨fun x=>(by cases x),fun x=>absurd x h⟩
 have h0:=hR.O.one;have h1:=hR.P.one;have h2:=hR.C.one;have hxl:=sz.l;obtain⟨wl,al,rl,rfl,hrl⟩:=hL;refine zA.gh ?_;refine zD mix Tryz.func196 ?_
 conv=>arg 2;cbv
 refine zF rfl ?_;simp only [pwA,seval,-iQ0,h0,h1,h2];have hkp:Keep σ (σ.new [vO,vP,vC]):=zC σ _;have hld:(σ.new [vO,vP,vC]).rd σ.next 0 3=some [vO,vP,vC]:=by simp only [pwA,seval,-iQ0]
 generalize σ.new [vO,vP,vC]=H at *
 refine zG (fun m us h'=>∃i:Nat,i≤L.length∧m=L.length-i∧us=[.fz wl al L.length rl,.ptr σ.next 0,.int .i64 i]∧H=h'∧∀x∈L.take i,isExp O x) L.length ⟨0,by omega,by omega,rfl,rfl,by simp⟩ ?_
 rintro m us h' ⟨i,hi,rfl,rfl,rfl,hall⟩
 simp only [pwA,seval,-iQ0];refine iteI (fun hlt=>?_) fun hge=>?_
 rotate_left
 ·have hie:i=L.length:=by omega
  subst hie;rw [List.take_length]at hall
  exact Gh.fin0 hkp trivial (hk _ ⟨fun _=>hall,fun _=>rfl⟩)
 obtain⟨w4,a4,hr⟩:=hrl.rowI hlt;have hxi:=sz.r _ (List.getElem_mem hlt);simp only [pwA,seval,-iQ0,hlt,hr,hld];refine zHI hR szO bO ⟨w4,a4,rfl⟩ hxi fun t ht=>?_
 cases t with
 | false=>
  simp only [pwA,seval,-iQ0];exact Gh.fin0 hkp trivial (hk _ (fl fun h=>by have:=ht.2 (h _ (List.getElem_mem hlt));cases this))
 | true=>
 have h3:=ht.1 rfl;simp only [pwA,seval,-iQ0,wrapS hlt (by omega:L.length≤4611686018427387904)]
 refine⟨_,by omega,i+1,by omega,rfl,rfl,fun x hx=>?_⟩
 rw [List.take_succ_eq_append_getElem hlt,List.mem_append,List.mem_singleton]at hx
 rcases hx with hx|hx
 ·exact hall x hx
 ·rw [hx];exact h3
theorem zNU (g:LG O P C) (hR:IsPr vO vP vC O P C) (hU:FII vU u) (szu:SzL u) (hk:∀t:Bool,(t=true↔Z7 O P C u)→K (.bool t) σ):zA Tryz.prog 103 [.agg [vO,vP,vC],vU] σ K:=by
 have fl:∀{A:Prop},¬A→((false=true)↔A):=fun h=>⟨fun x=>(by cases x),fun x=>absurd x h⟩
 have h1:=hR.P.one;have h2:=hR.C.one;have s:=g.s;have F:=g.F;have hn6:=s.le;have hul:=szu.l;have hU0:=hU;have hR0:=hR;obtain⟨⟨w0,a0,rfl⟩,_,_⟩:=hR;obtain⟨wu,au,ru,rfl,hru⟩:=hU;refine zA.gh ?_;refine zD mix Tryz.func103 ?_
 conv=>arg 2;cbv
 refine zF rfl ?_;have hkp:Keep σ (σ.new [.fz w0 a0 O.length (pis O),vP,vC]):=zC σ _
 by_cases hlen:u.length≤O.length
 rotate_left
 ·have hl:¬((u.length:Int)≤(O.length:Int)):=by omega
  simp only [pwA,seval,-iQ0,h1,h2,hlen,hl,decide_false];exact Gh.fin0 hkp trivial (hk _ (fl fun h=>hlen h.len))
 have hl:(u.length:Int)≤(O.length:Int):=by omega
 simp only [pwA,seval,-iQ0,h1,h2,hlen,hl,decide_true];refine zFa hR0 (by omega) (ZI.isp g.pr) hU0 szu fun t ht=>?_
 cases t with
 | false=>
  simp only [pwA,seval,-iQ0];exact Gh.fin0 hkp trivial (hk _ (fl fun h=>by have:=ht.2 fun x hx=>zHV.2 (h.1 x hx);cases this))
 | true=>
 have hgu:∀x∈u,gS O x:=fun x hx=>(ht.1 rfl x hx).gS
 simp only [pwA,seval,-iQ0];refine zDi g hR0 hU0 szu hgu fun v z hv hz=>?_
 simp only [pwA,seval,-iQ0];have hzl:=hz.len;refine zIu hv hU0 (by omega) (fun x hx=>by have:=(hz.one x hx).1.len;omega) fun t ht=>?_
 simp only [pwA,seval,-iQ0];exact Gh.fin0 hkp trivial (hk _ (ht.trans ⟨fun e=>⟨hgu,by rw [e]at hz;exact hz⟩,fun h=>hz.unique s F (GC.sub F hgu) h.2⟩))
end Go.Proofs
namespace Go.Proofs
open Go.Ab Go.Lie
variable {σ σ0 h h':PHeap} {K:PV→PHeap→Prop} {vC vP vB:PV} {bs:List Int} {s b n r0:Nat} {p:Int} {W:List (List Int)} {B:List (List (List Int))}
abbrev diC (vC:PV) (i:Nat) (hh:Int):List PV:=[vC,.int .i64 (i:Int),.int .u64 hh]
structure Di (σ:PHeap) (s:Nat) (vC:PV) (bs:List Int):Prop where
 ex:∃i hh,σ.obj s=some (diC vC i hh)∧i≤bs.length
 lt:s<σ.next
 fb:FB vC bs
 byt:Byt bs
theorem zO5 (a:Int):pbin .shr .other (.int .u64 a) (.int .u64 33)=some (.int .u64 (a.fdiv 8589934592)):=rfl
theorem zMd (a:Int):∃r:Int,pbin .and .other (.int .u64 a) (.int .u64 16777215)=some (.int .u64 r)∧0≤r∧r≤16777215:=by
 have h1:(BitVec.ofInt 64 a &&& BitVec.ofInt 64 16777215).toNat≤16777215:=by
  rw [BitVec.toNat_and];exact Nat.le_trans Nat.and_le_right (by decide)
 refine⟨_,rfl,?_⟩
 have:∀m:Nat,m≤16777215→IntKind.u64.wrap (m:Int)=(m:Int):=fun m hm=>by
  show(m:Int) % _=_
  exact Int.emod_eq_of_lt (by omega) (by show(m:Int)<18446744073709551616;omega)
 rw [show IntKind.u64.bits=64 from rfl,this _ h1]
 omega
theorem Di.keep (a:Di σ s vC bs) (k:Keep σ h):Di h s vC bs:=by
 obtain⟨i,hh,e,hi⟩:=a.ex;exact⟨⟨i,hh,by rw [k.obj _ a.lt];exact e,hi⟩,Nat.lt_of_lt_of_le a.lt k.next,a.fb,a.byt⟩
theorem zN5 {sd:Int} (hb:FB vC bs) (hB:Byt bs) (hk:∀h,Keep σ h→Di h σ.next vC bs→h.next=σ.next+1→K (.ptr σ.next 0) h):zA Tryz.prog 29 [vC,.int .u64 sd] σ K:=by
 have hb0:=hb;obtain⟨w,av,rfl⟩:=hb;have hl:=hB.len;refine zL mix Tryz.func29 cf29 rfl ?_;dsimp only [if29,qI,eI,nI,qD,mI0,kI0,bI0,cI0,sI0,mD0,lD0,fD0,xD0,pD0,R0,S0];simp only [pwA,seval,-iQ0];generalize hC:(PV.fz w av bs.length (bs.map (.int .u8)))=vC at *
 refine zG (fun m vs h'=>∃(i:Nat) (hh:Int),i≤bs.length∧m=bs.length-i∧vs=[vC,.ptr σ.next 0,.int .i64 i]∧σ.new (diC vC 0 hh)=h') bs.length ?_ ?_
 ·exact⟨0,_,by omega,by omega,rfl,rfl⟩
 rintro m vs h' ⟨i,hh,hi,rfl,rfl,rfl⟩
 have hlen:pLen vC=some (.int .i64 bs.length):=by rw [←hC];rfl
 have wi1:IntKind.i64.wrap ((i:Int)+1)=((i+1:Nat):Int):=by rw [wrap64 (by omega) (by omega)];omega
 simp only [pwA,seval,-iQ0,hlen]
 by_cases hlt:i<bs.length
 rotate_left
 ·simp only [pwA,seval,-iQ0,hlt,decide_false]
  exact hk _ (zC _ _) ⟨⟨0,hh,by rw [zM,if_pos rfl],Nat.zero_le _⟩,Nat.lt_succ_self _,hb0,hB⟩ rfl
 obtain⟨b1,b2,b3⟩:=zE8 hB hlt;generalize bs.getD i 0=b at b1 b2 b3
 subst hC;simp only [pwA,seval,-iQ0,hlt,decide_true,b1,wi1];exact⟨_,by omega,i+1,_,by omega,rfl,rfl,rfl⟩
theorem zNn {n:Int} (D:Di σ s vC bs) (hn:1≤n) (hk:∀x h,0≤x→x<n→Mv σ s h→Di h s vC bs→K (.int .i64 x) h):zA Tryz.prog 30 [.ptr s 0,.int .i64 n] σ K:=by
 obtain⟨i,hh,ob,hi⟩:=D.ex;have hl:=D.byt.len;have hlt:=D.lt;have fb:=D.fb;obtain⟨w,av,rfl⟩:=D.fb;have q2:σ.rd1 s 2=some (.int .u64 hh):=by rw [zI ob];rfl
 have w2:∀y,σ.wr s 2 [.int .u64 y]=some (σ.set s (diC (.fz w av bs.length (bs.map (.int .u8))) i y)):=fun y=>by rw [zn ob,if_pos ⟨by simp,rfl⟩];rfl
 refine zD mix Tryz.func30 ?_
 conv=>arg 2;cbv
 refine zF rfl ?_;simp only [pwA,seval,-iQ0,q2,w2];generalize IntKind.u64.wrap (IntKind.u64.wrap (hh*6364136223846793005)+1442695040888963407)=hh1;have bel:∀(j:Nat) (y:Int),Bels 0 (diC (.fz w av bs.length (bs.map (.int .u8))) j y):=fun j y=>⟨trivial,trivial,trivial,trivial⟩
 have ob1:(σ.set s (diC (.fz w av bs.length (bs.map (.int .u8))) i hh1)).obj s=some (diC (.fz w av bs.length (bs.map (.int .u8))) i hh1):=by rw [zH,if_pos rfl]
 have fin:∀(j:Nat) (y x:Int),j≤bs.length→0≤x→K (.int .i64 (x.tmod n)) (σ.set s (diC (.fz w av bs.length (bs.map (.int .u8))) j y)):=fun j y x hj hx=>by
  rw [Int.tmod_eq_emod_of_nonneg hx];exact hk _ _ (Int.emod_nonneg x (by omega)) (Int.emod_lt_of_pos x (by omega)) ⟨_,_,ob,bel _ _,rfl⟩ ⟨⟨j,y,by rw [zH,if_pos rfl],hj⟩,hlt,fb,D.byt⟩
 have hset:∀(j:Nat) (y:Int),(σ.set s (diC (.fz w av bs.length (bs.map (.int .u8))) i hh1)).set s (diC (.fz w av bs.length (bs.map (.int .u8))) j y)=σ.set s (diC (.fz w av bs.length (bs.map (.int .u8))) j y):=fun j y=>zFq _ _ _ _
 have finI:=fin i hh1;have p0:(σ.set s (diC (.fz w av bs.length (bs.map (.int .u8))) i hh1)).rd1 s 0=some (.fz w av bs.length (bs.map (.int .u8))):=by rw [zI ob1];rfl
 have p1:(σ.set s (diC (.fz w av bs.length (bs.map (.int .u8))) i hh1)).rd1 s 1=some (.int .i64 i):=by rw [zI ob1];rfl
 have p2:(σ.set s (diC (.fz w av bs.length (bs.map (.int .u8))) i hh1)).rd1 s 2=some (.int .u64 hh1):=by rw [zI ob1];rfl
 have w1:(σ.set s (diC (.fz w av bs.length (bs.map (.int .u8))) i hh1)).wr s 1 [.int .i64 ((i+1:Nat):Int)]=some (σ.set s (diC (.fz w av bs.length (bs.map (.int .u8))) (i+1) hh1)):=by
  rw [zn ob1,if_pos ⟨by simp,rfl⟩,←hset (i+1) hh1];rfl
 generalize σ.set s (diC (.fz w av bs.length (bs.map (.int .u8))) i hh1)=σ1 at *
 obtain⟨x,hm,x0,x1⟩:=zMd (hh1.fdiv 8589934592);have wx:IntKind.i64.wrap x=x:=wrap64 (by omega) (by omega)
 have hn0:n≠0:=by omega
 simp only [pwA,seval,-iQ0,p2,zO5,hm,wx]
 by_cases hlt':i<bs.length
 rotate_left
 ·simp only [pwA,seval,-iQ0,p0,p1,hlt',decide_false,hn0]
  exact finI x (by omega) x0
 obtain⟨b1,b2,b3⟩:=zE8 D.byt hlt';generalize bs.getD i 0=b at b1 b2 b3
 have e6:IntKind.i64.wrap b=b:=wrap64 (by omega) (by omega)
 have e7:IntKind.i64.wrap (x+b)=x+b:=wrap64 (by omega) (by omega)
 have wi1:IntKind.i64.wrap ((i:Int)+1)=((i+1:Nat):Int):=by rw [wrap64 (by omega) (by omega)];omega
 simp only [pwA,seval,-iQ0,p0,p1,hlt',decide_true,b1,e6,e7,wi1,w1,hn0];exact fin (i+1) hh1 _ (by omega) (by omega)
end Go.Proofs
namespace Go.Proofs
open Go.Ab Go.Lie
variable {σ:PHeap} {K:PV→PHeap→Prop} {va vb vx:PV} {p:Int} {W:List (List Int)} {B:List (List (List Int))} {xs ys:List (List Int)} {x:List Int}
theorem zCn (ha:FII va xs) (hb:FII vb ys) (sz:SzL xs) (hk:∀t:Bool,(t=true↔xs=ys)→K (.bool t) σ):zA Tryz.prog 26 [va,vb] σ K:=by
 obtain⟨wx,ax,rx,rfl,hrx⟩:=ha;obtain⟨wy,ay,ry,rfl,hry⟩:=hb;have hl:=sz.l;refine zD mix Tryz.func26 ?_
 conv=>arg 2;cbv
 refine zF rfl ?_;simp only [pwA,seval,-iQ0]
 by_cases hxy:xs.length=ys.length
 rotate_left
 ·have hne:¬(xs.length:Int)=(ys.length:Int):=by omega
  simp only [pwA,seval,-iQ0,hne];exact hk false ⟨fun h=>(by cases h),fun h=>absurd (by rw [h]) hxy⟩
 have heq:(xs.length:Int)=(ys.length:Int):=by omega
 simp only [pwA,seval,-iQ0,heq];refine zG (fun m us g=>∃i:Nat,i≤ys.length∧m=ys.length-i∧us=[.fz wx ax xs.length rx,.fz wy ay ys.length ry,.int .i64 i]∧g=σ∧∀j,j<i→xs[j]? = ys[j]?) ys.length ⟨0,by omega,by omega,rfl,rfl,fun j hj=>absurd hj (Nat.not_lt_zero _)⟩ ?_
 rintro m us g ⟨i,hi,rfl,rfl,rfl,he⟩
 simp only [pwA,seval,-iQ0,heq];refine iteI (fun hlt=>?_) fun hge=>?_
 rotate_left
 ·refine hk true ⟨fun _=>List.ext_getElem? fun j=>?_,fun _=>rfl⟩
  rcases Nat.lt_or_ge j i with e|e
  ·exact he j e
  ·rw [List.getElem?_eq_none (by omega),List.getElem?_eq_none (by omega)]
 have hltx:i<xs.length:=by omega
 have hlty:i<ys.length:=by omega
 have wi1:IntKind.i64.wrap ((i:Int)+1)=((i+1:Nat):Int):=wrapS hlty (by omega)
 obtain⟨w1,a1,h1⟩:=hrx.rowI hltx;obtain⟨w2,a2,h2⟩:=hry.rowI hlty;have hle:=sz.r _ (List.getElem_mem hltx);simp only [pwA,seval,-iQ0,h1,h2,hltx,hlty];refine zDf ⟨w1,a1,rfl⟩ ⟨w2,a2,rfl⟩ hle fun t ht=>?_
 cases t with
 | false=>
  simp only [pwA,seval,-iQ0];refine hk false ⟨fun h=>(by cases h),fun h=>?_⟩
  have:=ht.2 (by simp only [h])
  cases this
 | true=>
  have hv:=ht.1 rfl;simp only [pwA,seval,-iQ0,wi1];refine⟨_,by omega,i+1,by omega,rfl,rfl,fun j hj=>?_⟩
  rcases Nat.lt_or_ge j i with e|e
  ·exact he j e
  ·obtain rfl:j=i:=by omega
   rw [List.getElem?_eq_getElem hltx,List.getElem?_eq_getElem hlty,hv]
theorem zJI {T h:PHeap} {s bytes n:Nat} {v x:PV} {cs:List PV} {K:PV×PHeap→Prop} (km:KM T s h) (a:PSl T.next 1 h v n cs)
  (h1:(n+1)*bytes≤140737488355328) (h2:n+1≤4611686018427387904) (k:∀v' h',KM T s h'→(∀t,t<T.next→h'.obj t=h.obj t)→PSl T.next 1 h' v' (n+1) (cs++[x])→K (v',h')):optK (qW 1 bytes (h.new [x]) v (.sl h.next 0 1 (.known 1))) K:=by
 obtain⟨σ',m,q⟩:=km;have hn:=m.next;refine PSl.push (σb:=σ') (bytes:=bytes) q (by rw [hn];exact a) h1 h2 fun v' h' k1 k2=>k v' h' ⟨σ',m,k1⟩ (fun t ht=>by rw [k1.obj t (by omega),q.obj t (by omega)]) (by rw [←hn];exact k2)
theorem Di.same {h h':PHeap} {s:Nat} {vC:PV} {bs:List Int} (a:Di h s vC bs) (ho:h'.obj s=h.obj s) (hn:s<h'.next):Di h' s vC bs:=by
 obtain⟨i,hh,e,hi⟩:=a.ex;exact⟨⟨i,hh,by rw [ho];exact e,hi⟩,hn,a.fb,a.byt⟩
end Go.Proofs
namespace Go.Grp
end Go.Grp
namespace Go.Proofs
open Go.Ab Go.Lie Go.Grp
variable {σ:PHeap} {K:PV→PHeap→Prop} {n c:Nat} {p:Int} {W:List (List Int)} {B:List (List (List Int))} {vP vB vM:PV} {s:Nat} {O:List Int} {P:List (List Int)} {C:List (List (List Int))} {vO vQ vC:PV} {lo hi:Nat}
def LGR (p:Int) (W:List (List Int)) (B:List (List (List Int))) (O:List Int) (P:List (List Int)) (C:List (List (List Int))) (c:Int):Prop:=
 (CodeL p W B [] c∧c≠0∧O=[]∧P=[]∧C=[])∨(CodeL p W B [] 0∧c=0∧O=List.replicate W.length p∧P=lgPs p W.length W B W.length∧C=lgCs p W.length W B W.length)
theorem LGR.unique {O':List Int} {P':List (List Int)} {C':List (List (List Int))} {c c':Int} (h:LGR p W B O P C c) (g:LGR p W B O' P' C' c'):(O=O'∧P=P'∧C=C')∧c=c':=by
 rcases h with ⟨h1,h2,h3,h4,h5⟩|⟨h1,h2,h3,h4,h5⟩<;>rcases g with ⟨g1,g2,g3,g4,g5⟩|⟨g1,g2,g3,g4,g5⟩
 ·exact⟨⟨by rw [h3,g3],by rw [h4,g4],by rw [h5,g5]⟩,h1.unique g1⟩
 ·exact absurd (h1.unique g1) h2
 ·exact absurd (g1.unique h1) g2
 ·exact⟨⟨by rw [h3,g3],by rw [h4,g4],by rw [h5,g5]⟩,by rw [h2,g2]⟩
theorem lg_bd {c:Int} (h:LGR p W B O P C c):SzP O P C:=by
 rcases h with ⟨_,_,rfl,rfl,rfl⟩|⟨h1,_,rfl,rfl,rfl⟩
 ·exact⟨by simp,⟨by simp,fun y hy=>by cases hy⟩,⟨by simp,fun y hy=>by cases hy⟩⟩
 ·have h6:=h1.zero.1.1.1.w.le
  refine⟨by simp;omega,⟨by simp [lgPs];omega,fun y hy=>?_⟩,⟨by simp [lgCs];omega,fun q hq=>?_⟩⟩
  ·obtain⟨i,_,rfl⟩:=List.mem_map.1 hy
   rw [show(lgP p W.length W B i).length=W.length from ZM _];omega
  ·obtain⟨i,_,rfl⟩:=List.mem_map.1 hq
   refine⟨by simp [lgR];omega,fun y hy=>?_⟩
   obtain⟨k,_,rfl⟩:=List.mem_map.1 hy;rw [show(lgC p W.length W B i k).length=W.length from ZM _];omega
theorem zDS (hR:IsR vP vB W B) (szr:SzR W B)
  (hk:∀vO vQ vC O P C c,LGR p W B O P C c→IsPr vO vQ vC O P C→K (.tup [.agg [vO,vQ,vC],.int .i64 c]) σ):zA Tryz.prog 28 [.agg [.int .i64 p,vP,vB]] σ K:=by
 have h1:=hR.P.one;have h2:=hR.B.one;refine zA.gh ?_;generalize hT:(σ.new [.int .i64 p,vP,vB]).new [.fz true .nils 0 [],.fz true .nils 0 [],.fz true .nils 0 []]=T;have hTn:T.next=σ.next+2:=by rw [←hT];rfl
 have hkT:Keep σ T:=by rw [←hT];exact(zC σ _).new _
 have ld:∀{g:PHeap},Keep T g→g.rd σ.next 0 3=some [.int .i64 p,vP,vB]:=fun {g} k=>by
  have ob:g.obj σ.next=some [.int .i64 p,vP,vB]:=by rw [k.obj _ (by omega),←hT];simp only [pwA,seval,-iQ0]
  rw [zi ob];rfl
 have hO3:∀{g:PHeap} {u0 u1 u2:PV},Keep T g→u0.one=true→u1.one=true→u2.one=true→g.wr (σ.next+1) 0 [u0,u1,u2]=some (g.set (σ.next+1) [u0,u1,u2])∧(g.set (σ.next+1) [u0,u1,u2]).rd (σ.next+1) 0 3=some [u0,u1,u2]:=fun {g u0 u1 u2} k z0 z1 z2=>by
  have hres:g.obj (σ.next+1)=some [.fz true .nils 0 [],.fz true .nils 0 [],.fz true .nils 0 []]:=by rw [k.obj _ (by omega),←hT];simp only [pwA,seval,-iQ0]
  exact⟨by rw [zn hres,if_pos ⟨by simp,by simp only [List.all_cons,List.all_nil,z0,z1,z2];rfl⟩];rfl,by rw [qx,if_pos rfl];rfl⟩
 have l3:=ld (Keep.refl T);refine zD mix Tryz.func28 ?_
 conv=>arg 2;cbv
 refine zF rfl ?_;simp only [pwA,seval,-iQ0,h1,h2];rw [hT];simp only [pwA,seval,-iQ0,l3];have kT2:Keep T ((T.new []).kill (σ.next+2)):=((Keep.refl T).new _).kill (by omega)
 refine zA.frz (s:=σ.next+2) (cs:=[]) (by rw [zM,if_pos hTn.symm]) trivial fun o1=>?_
 simp only [sbs,Go.Ab.sb,capOK,and_self,if_true,decide_true,Nat.le_refl,hR.P.sb,hR.B.sb];generalize (T.new []).kill (σ.next+2)=T2 at *
 have l4:=ld kT2;refine zB8 (xs:=[]) hR szr ⟨true,_,[],rfl,All2.nil _⟩ ⟨by simp,fun y hy=>by cases hy⟩ fun c hc=>?_
 by_cases hc0:c=0
 rotate_left
 ·obtain⟨g1,g2⟩:=hO3 kT2 (u0:=.fz true .nils 0 []) (u1:=.fz true .nils 0 []) (u2:=.fz true .nils 0 []) rfl rfl rfl
  simp only [pwA,seval,-iQ0,hc0,g1,g2];exact Gh.fin0 ((hkT.trans kT2).set (by omega) _) ⟨⟨trivial,trivial,trivial,trivial⟩,trivial,trivial⟩ (hk _ _ _ [] [] [] _ (.inl ⟨hc,hc0,rfl,rfl,rfl⟩) ⟨⟨true,.nils,rfl⟩,⟨true,.nils,[],rfl,All2.nil _⟩,⟨true,.nils,[],rfl,All2.nil _⟩⟩)
 subst hc0;obtain⟨⟨hl,_⟩,hz⟩:=hc.zero;obtain⟨cc,lz⟩:=Lz.of hl hz;simp only [pwA,seval,-iQ0,l4];refine zBW lz hR fun vO vQ vC f1 f2 f3=>?_
 obtain⟨g1,g2⟩:=hO3 kT2 f1.one f2.one f3.one;simp only [pwA,seval,-iQ0,g1,g2];exact Gh.fin0 ((hkT.trans kT2).set (by omega) _) ⟨⟨f1.bel _,f2.bel _,f3.bel _,trivial⟩,trivial,trivial⟩ (hk _ _ _ _ _ _ _ (.inr ⟨hc,rfl,rfl,rfl,rfl⟩) ⟨f1,f2,f3⟩)
end Go.Proofs
namespace Go.Grp
end Go.Grp
namespace Go.Proofs
open Go.Ab Go.Lie Go.Grp
variable {σ:PHeap} {K:PV→PHeap→Prop} {O O':List Int} {P P':List (List Int)} {C C':List (List (List Int))} {vO vQ vC vO' vQ' vC' vP vx vy vB:PV} {x y bs:List Int} {p:Int} {n c:Nat} {W:List (List Int)} {B:List (List (List Int))} {sp s:Nat}
theorem pt_pw (z:Lz p n W B c) (hx:El p n x):∀k:Nat,El p n (Grp.pw (rm p n W B) (zv (rO p n)) x k)∧ptG p n W B (Grp.pw (rm p n W B) (zv (rO p n)) x k) n=lmul p W k (ptG p n W B x n)
 | 0=>⟨by rw [show Grp.pw (rm p n W B) (zv (rO p n)) x 0=zv (rO p n) from rfl,zv_rO];exact ZV z.r.o.pr,by
  show ptG p n W B (zv (rO p n)) n=_;rw [zFR z,←z.pw_eq (pt_el z x) 0];rfl⟩
 | k+1=>by
  obtain⟨h1,h2⟩:=pt_pw z hx k;obtain⟨h3,h4⟩:=zLJ z h1 hx;refine⟨h3,?_⟩;show ptG p n W B (rm p n W B _ _) n=_;rw [h4,h2,←z.pw_eq (pt_el z x),←z.pw_eq (pt_el z x)]
  rfl
end Go.Proofs
namespace Go.Grp
end Go.Grp
namespace Go.Proofs
open Go.Ab Go.Lie Go.Grp
variable {p:Int} {n c a:Nat} {W:List (List Int)} {B:List (List (List Int))} {x y l:List Int} {f g:Vec} {u v L M:List (List Int)} {H:List Int→Prop} {S:Vec→Prop}
theorem zH6 (o:OkW p n W) (hS:IsSub p n W S) (hL:∀l∈L,El p n l∧S (at_ l)) (hd:∀x,El p n x→S (at_ x)→dep x<n→∃l∈L,dep l=dep x∧at_ l (dep l)=1):∀x,El p n x→S (at_ x)→Gen p n W L (at_ x):=by
 have:∀(k:Nat) (x:List Int),n-dep x≤k→El p n x→S (at_ x)→Gen p n W L (at_ x):=by
  intro k
  induction k with
  | zero=>
   intro x hk hx _;have hz:∀j,at_ x j=0:=fun j=>by
    rcases Nat.lt_or_ge j (dep x)with h|h
    ·exact zV h
    ·exact hx.beyond (by omega)
   exact(zP L).eqv _ _ (Eqv.of_eq hz) (zP L).zero
  | succ k ih=>
   intro x hk hx hs;rcases Nat.lt_or_ge (dep x) n with hdx|hdx
   ·obtain⟨l,hl,e1,e2⟩:=hd x hx hs hdx
    obtain⟨l1,l2⟩:=hL l hl;have led:Led p n l:=⟨l1,by omega,e2⟩
    have h1:=zBe o hx l1;have h2:=zDr o hx l1;have h3:S (at_ (red1 p W x l)):=hS.eqv _ _ h2 (hS.sub hs (hS.mul (at_ x (dep l)) _ l2));have h4:dep x+1≤dep (red1 p W x l):=Go.Lie.dep_ge (by rw [h1.1];omega) fun j hj=>by
     rw [zDH o hx led (by omega)]
     split
     ·rfl
     ·exact zV (by omega)
    have h5:=ih _ (by omega) h1 h3
    have h6:=(zP L).add _ _ h5 ((zP L).mul (at_ x (dep l)) _ (zb (p:=p) (n:=n) (W:=W) hl));refine(zP L).eqv _ _ ?_ h6;refine Eqv.symm ((h2.add (Eqv.refl fun j=>at_ x (dep l)*at_ l j)).trans (Eqv.of_eq fun j=>by omega))
   ·exact ih x (by omega) hx hs
 exact fun x hx hs=>this _ x (Nat.le_refl _) hx hs
theorem zKc {O:List Int} {P:List (List Int)} {C:List (List (List Int))} (g:LG O P C) {H H':List Int→Prop} (hH:gB O P C H) (hH':gB O P C H') (hd:∀x,H x→dep x<O.length→∃l,H' l∧H l∧dep l=dep x∧at_ l (dep l)=1):∀x,H x→H' x:=by
 have s:=g.s;have F:=g.F
 have:∀(k:Nat) (x:List Int),O.length-dep x≤k→H x→H' x:=by
  intro k
  induction k with
  | zero=>
   intro x hk hx;rw [zCx (hH.inS hx) (by omega)];exact hH'.one
  | succ k ih=>
   intro x hk hx;rcases Nat.lt_or_ge (dep x) O.length with hdx|hdx
   ·obtain⟨l,l1,l2,e1,e2⟩:=hd x hx hdx
    have xS:=hH.inS hx;have lS:=hH.inS l2;have lT:=zAH lS;rw [e1]at lT e2
    have st:=zFp s F g.cent hdx (zAH xS) lT e2;have h1:=hH.cl (hH.pw l2 (at_ O (dep x)-at_ x (dep x)).toNat) hx;have h2:=ih _ (by have:=Go.Grp.dep_ge st (by omega);omega) h1
    exact hH'.quot F.g (hH'.pw l1 _) xS h2
   ·exact ih x (by omega) hx
 exact fun x hx=>this _ x (Nat.le_refl _) hx
theorem zGp (z:Lz p n W B c) (hx:El p n x):dep (ptG p n W B x n)=dep x∧at_ (ptG p n W B x n) (dep x)=at_ x (dep x):=by
 have he:=pt_el z x;have hl:=he.1;rcases Nat.lt_or_ge (dep (ptG p n W B x n)) n with h|h
 ·obtain⟨h1,h2⟩:=zDE z he (Nat.le_of_lt h) (fun j hj=>zV hj)
  rw [vc_pt z hx]at h1 h2
  have e:dep x=dep (ptG p n W B x n):=zAR h1 (by rw [h2 h];exact qc (by omega))
  exact⟨e.symm,by rw [e];exact(h2 h).symm⟩
 ·have hz:ptG p n W B x n=List.replicate n 0:=ZY (by rw [hl];simp) fun j hj=>by rw [zo];exact zV (by omega)
  have hx0:x=zv (rO p n):=zLK z hx (by rw [zv_rO];exact ZV z.r.o.pr) (by rw [hz,zFR z])
  have hd:dep x=n:=by
   have:=zGT (zEi z)
   rw [←hx0]at this
   simpa using this
  have h2:=Zn (ptG p n W B x n);refine⟨by omega,?_⟩
  rw [hd,at_ge (by omega),at_ge (by rw [hx.1];exact Nat.le_refl _)]
theorem zGZ (z:Lz p n W B c) (hx:El p n x):dep (vcG p n W B x)=dep x∧at_ (vcG p n W B x) (dep x)=at_ x (dep x):=by
 obtain⟨h1,h2⟩:=zGp z (vc_el z hx);rw [pt_vc z hx]at h1 h2
 exact⟨h1.symm,by rw [h1];exact h2.symm⟩
theorem zPb (o:OkW p n W) (hx:El p n x) {k:Int} (hk:isZ x∨Cop p k):∃m:Nat,dv p n W k x=lmul p W m x:=by
 rcases Nat.eq_zero_or_pos n with hn|hn
 ·refine⟨0,?_⟩
  subst hn;rw [List.length_eq_zero_iff.1 (dv_el o hx).1];exact(List.length_eq_zero_iff.1 (zJ o hx hx).1).symm
 rcases hk with h0|hc
 ·refine⟨1,?_⟩
  rw [(Zm o hx (k:=k)).nil h0];exact(zNQ o hx).symm
 ·obtain⟨e,w,h⟩:=Q7 hc hn
  -- a multiple that is not negative
  have hpos:0<pw_ p n:=by rw [zFt];exact Int.pow_pos (by have:=o.pr.1;omega)
  refine⟨(e % pw_ p n).toNat,?_⟩;have he:((e % pw_ p n).toNat:Int)=e % pw_ p n:=Int.toNat_of_nonneg (Int.emod_nonneg _ (by omega))
  rw [he];refine(dv_of o hc hx (zJ o hx hx) ?_).symm;have ed:e % pw_ p n=e-pw_ p n*(e / pw_ p n):=by have:=Int.emod_add_mul_ediv e (pw_ p n);omega
  refine((qP o hx _).mul k).trans ?_;rw [ed];have hk0:=(Qa o (f:=at_ x) fun j hj=>hx.beyond hj).mul (w-k*(e / pw_ p n))
  refine Eqv.trans (Eqv.of_eq fun j=>?_) (((Eqv.refl (at_ x)).add hk0).trans (Eqv.of_eq fun j=>by omega))
  have h':k*(e-pw_ p n*(e / pw_ p n))=1+(w-k*(e / pw_ p n))*pw_ p n:=by grind
  show k*((e-pw_ p n*(e / pw_ p n))*at_ x j)=at_ x j+(w-k*(e / pw_ p n))*(pw_ p n*at_ x j);rw [←Int.mul_assoc,h']
  grind
structure ESub (p:Int) (n:Nat) (W:List (List Int)) (B:List (List (List Int))) (E:List Int→Prop):Prop where
 el:∀x,E x→El p n x
 zero:E (List.replicate n 0)
 cl:∀x y,E x→E y→E (bch p n W B x y)
 mul:∀(k:Int) x,E x→E (lmul p W k x)
theorem ESub.fold {E:List Int→Prop} (h:ESub p n W B E):∀{xs:List (List Int)},(∀x∈xs,E x)→E (fold p n W B xs):=fun {xs} hx=>by
 have:∀(xs:List (List Int)) (y:List Int),E y→(∀x∈xs,E x)→E (xs.foldl (bch p n W B) y):=by
  intro xs
  induction xs with
  | nil=>exact fun y hy _=>hy
  | cons x xs ih=>exact fun y hy hx=>ih _ (h.cl _ _ hy (hx x (by simp))) fun z hz=>hx z (by simp [hz])
 exact this xs _ h.zero hx
theorem ESub.dv {E:List Int→Prop} (h:ESub p n W B E) (o:OkW p n W) {x:List Int} (hx:E x) {k:Int} (hk:isZ x∨Cop p k):E (Go.Proofs.dv p n W k x):=by
 obtain⟨m,e⟩:=zPb o (h.el x hx) hk;rw [e];exact h.mul _ x hx
theorem ESub.comm {E:List Int→Prop} (h:ESub p n W B E) {x y:List Int} (hx:E x) (hy:E y):E (Go.Proofs.comm p n W B x y):=h.fold fun z hz=>by
 simp only [List.mem_cons,List.not_mem_nil,or_false]at hz
 rcases hz with rfl|rfl|rfl|rfl
 ·exact h.mul _ _ hx
 ·exact h.mul _ _ hy
 ·exact hx
 ·exact hy
theorem Lz.comm_lw (z:Lz p n W B c) (hx:El p n x) (hy:El p n y) {k:Nat} (h:Lw p n W B k (at_ x)):Lw p n W B (k+1) (at_ (Go.Proofs.comm p n W B x y)):=z.comm_fil z.fil hx hy h
theorem Lz.c2 (z:Lz p n W B c) (hx:El p n x) (h:Lw p n W B 1 (at_ x)):isZ x∨Cop p 2:=(z.r.two z.hp z.hc hx h).imp id fun h=>h.1
theorem Lz.c12 (z:Lz p n W B c) (hx:El p n x) (h:Lw p n W B 2 (at_ x)):isZ x∨Cop p 12:=(z.r.twelve z.hp z.hc hx h).imp id fun h=>h.1
theorem ESub.br {E:List Int→Prop} (h:ESub p n W B E) (z:Lz p n W B c) {x y:List Int} (hx:El p n x) (hy:El p n y) (h0:E (Go.Proofs.comm p n W B x y)) (h1:E (Go.Proofs.comm p n W B (Go.Proofs.comm p n W B x y) x)) (h2:E (Go.Proofs.comm p n W B (Go.Proofs.comm p n W B x y) y)):E (Go.Proofs.br p W B n x y):=by
 have o:=z.r.o;rw [←z.brkP hx hy];have hc:=zAl z hx hy;have w1:=z.comm_lw hx hy (z.r.all hx);have w2:=z.r.down (z.comm_lw hc hx w1);have w3:=z.r.down (z.comm_lw hc hy w1);refine h.fold fun w hw=>?_
 simp only [List.mem_cons,List.not_mem_nil,or_false]at hw
 rcases hw with rfl|rfl|rfl
 ·exact h0
 ·exact h.mul _ _ (h.dv o h1 (z.c2 (zAl z hc hx) w2))
 ·exact h.mul _ _ (h.dv o h2 (z.c2 (zAl z hc hy) w3))
theorem ESub.add {E:List Int→Prop} (h:ESub p n W B E) (z:Lz p n W B c) {x y:List Int} (hx:E x) (hy:E y):E (ladd p W x y):=by
 have o:=z.r.o;have ex:=h.el x hx;have ey:=h.el y hy;rw [←z.sumP ex ey];have hc:=zAl z ex ey;have w1:=z.comm_lw ex ey (z.r.all ex);have w2:=z.comm_lw hc ex w1;have w3:=z.comm_lw hc ey w1;have c0:=h.comm hx hy;refine h.fold fun w hw=>?_
 simp only [List.mem_cons,List.not_mem_nil,or_false]at hw
 rcases hw with rfl|rfl|rfl|rfl|rfl
 ·exact hx
 ·exact hy
 ·exact h.mul _ _ (h.dv o c0 (z.c2 hc w1))
 ·exact h.dv o (h.comm c0 hx) (z.c12 (zAl z hc ex) w2)
 ·exact h.mul _ _ (h.dv o (h.comm c0 hy) (z.c12 (zAl z hc ey) w3))
def vS (p:Int) (n:Nat) (W:List (List Int)) (E:List Int→Prop) (f:Vec):Prop:=∃x,E x∧Eqv p n W f (at_ x)
theorem ESub.vs {E:List Int→Prop} (h:ESub p n W B E) (z:Lz p n W B c):IsSub p n W (vS p n W E) where
 zero:=⟨_,h.zero,Eqv.of_eq fun j=>(zo n j).symm⟩
 add:=fun f g ⟨x,h1,h2⟩ ⟨y,g1,g2⟩=>⟨_,h.add z h1 g1,(h2.add g2).trans (qh z.r.o (h.el x h1) (h.el y g1)).symm⟩
 mul:=fun k f ⟨x,h1,h2⟩=>⟨_,h.mul k x h1,(h2.mul k).trans (qP z.r.o (h.el x h1) k).symm⟩
 eqv:=fun f g e ⟨x,h1,h2⟩=>⟨x,h1,e.trans h2⟩
theorem ESub.iff {E:List Int→Prop} (h:ESub p n W B E) (o:OkW p n W) (hx:El p n x):vS p n W E (at_ x)↔E x:=by
 constructor
 ·rintro ⟨y,h1,h2⟩
  have ey:=h.el y h1;rw [qR o hx.1 ey.1 hx.2 ey.2 h2];exact h1
 ·intro h1;exact⟨x,h1,Eqv.refl _⟩
abbrev rB (p:Int) (n:Nat) (W:List (List Int)) (B:List (List (List Int))) (H:List Int→Prop):Prop:=gB (rO p n) (lgPs p n W B n) (lgCs p n W B n) H
theorem vc_pw (z:Lz p n W B c) (hx:El p n x) (k:Nat):vcG p n W B (lmul p W k x)=Grp.pw (rm p n W B) (zv (rO p n)) (vcG p n W B x) k:=by
 obtain⟨h1,h2⟩:=pt_pw z (vc_el z hx) k;rw [pt_vc z hx]at h2
 rw [←h2,vc_pt z h1]
theorem zO4 (z:Lz p n W B c) (hx:El p n x):vcG p n W B (lmul p W (-1) x)=ginv (gS (rO p n)) (rm p n W B) (zv (rO p n)) (vcG p n W B x):=by
 have G:=(lg_LG z).F.g;have hn:=zAL z.r.o hx;refine G.inv_eq ((gS_el z).2 (vc_el z hx)) ((gS_el z).2 (vc_el z hn)) ?_;show rm p n W B _ _=_;rw [←zKy z hx hn,z.inv_r hx,zJA z]
theorem zOo (z:Lz p n W B c) (hH:rB p n W B H):ESub p n W B (fun x=>El p n x∧H (vcG p n W B x)) where
 el:=fun x h=>h.1
 zero:=⟨ZV z.r.o.pr,by rw [zJA z];exact hH.one⟩
 cl:=fun x y hx hy=>⟨Zq z.r.o z.r.q hx.1 hy.1,by rw [zKy z hx.1 hy.1];exact hH.cl hx.2 hy.2⟩
 mul:=fun k x hx=>by
  have o:=z.r.o;refine⟨zJ o hx.1 hx.1,?_⟩;rcases Int.le_total 0 k with h|h
  ·have e:k=((k.toNat:Nat):Int):=(Int.toNat_of_nonneg h).symm
   rw [e,vc_pw z hx.1];exact hH.pw hx.2 _
  ·have e:k=-1*(((-k).toNat:Nat):Int):=by rw [Int.toNat_of_nonneg (by omega)];omega
   rw [e,←zHC o hx.1,zO4 z (zJ o hx.1 hx.1),vc_pw z hx.1];exact hH.inv (hH.pw hx.2 _)
end Go.Proofs
namespace Go.Grp
end Go.Grp
namespace Go.Proofs
open Go.Ab Go.Lie Go.Grp
variable {σ h h':PHeap} {K:PV→PHeap→Prop} {p:Int} {n c:Nat} {W:List (List Int)} {B:List (List (List Int))} {vP vB vU vx:PV} {u x:List (List Int)} {s:Nat}
abbrev RSub (p:Int) (W:List (List Int)) (B:List (List (List Int))) (u:List (List Int)):Prop:=Z7 (rO p W.length) (lgPs p W.length W B W.length) (lgCs p W.length W B W.length) u
def SgR (p:Int) (W:List (List Int)) (B:List (List (List Int))) (u z:List (List Int)) (c:Int):Prop:=
 (CodeL p W B [] c∧c≠0∧z=[])∨(CodeL p W B [] 0∧¬RSub p W B u∧z=[]∧c=1)∨(CodeL p W B [] 0∧RSub p W B u∧Canon p W.length W (u.map fun e=>ptG p W.length W B e W.length) z∧c=0)
theorem SgR.unique {z z':List (List Int)} {c c':Int} (h:SgR p W B u z c) (g:SgR p W B u z' c'):z=z'∧c=c':=by
 rcases h with ⟨h1,h2,h3⟩|⟨h1,h2,h3,h4⟩|⟨h1,h2,h3,h4⟩<;>rcases g with ⟨g1,g2,g3⟩|⟨g1,g2,g3,g4⟩|⟨g1,g2,g3,g4⟩
 ·exact⟨by rw [h3,g3],h1.unique g1⟩
 ·exact absurd (h1.unique g1) h2
 ·exact absurd (h1.unique g1) h2
 ·exact absurd (g1.unique h1) g2
 ·exact⟨by rw [h3,g3],by rw [h4,g4]⟩
 ·exact absurd g2 h2
 ·exact absurd (g1.unique h1) g2
 ·exact absurd h2 g2
 ·exact⟨h3.unique h1.zero.1.1.1.w g3,by rw [h4,g4]⟩
theorem SgR.bd {z:List (List Int)} {c:Int} (h:SgR p W B u z c):SzL z:=by
 rcases h with ⟨h1,h2,rfl⟩|⟨h1,h2,rfl,h4⟩|⟨h1,h2,h3,h4⟩
 ·exact⟨by simp,fun x hx=>by cases hx⟩
 ·exact⟨by simp,fun x hx=>by cases hx⟩
 ·have o:=h1.zero.1.1.1.w
  have:=h3.len
  have:=o.le
  exact⟨by omega,fun x hx=>by have:=(h3.els x hx).1;omega⟩
theorem zNu (hR:IsR vP vB W B) (szr:SzR W B) (hU:FII vU u) (szu:SzL u)
  (hk:∀v z c,SgR p W B u z c→FII v z→K (.tup [v,.int .i64 c]) σ):zA Tryz.prog 23 [.agg [.int .i64 p,vP,vB],vU] σ K:=by
 have h1:=hR.P.one;have h2:=hR.B.one;refine zA.gh ?_;refine zD mix Tryz.func23 ?_
 conv=>arg 2;cbv
 refine zF rfl ?_;simp only [pwA,seval,-iQ0,h1,h2];have hkp:Keep σ (σ.new [.int .i64 p,vP,vB]):=zC σ _;have hs:PtrR (σ.new [.int .i64 p,vP,vB]) σ.next p vP vB:=⟨by simp only [pwA,seval,-iQ0],Nat.lt_succ_self _⟩
 have hTn:(σ.new [.int .i64 p,vP,vB]).next=σ.next+1:=rfl;generalize σ.new [.int .i64 p,vP,vB]=T at *
 refine zCN (xs:=[]) hs hR szr ⟨true,.nils,[],rfl,All2.nil _⟩ ⟨by simp,fun y hy=>by cases hy⟩ fun c hc=>?_
 by_cases hc0:c=0
 rotate_left
 ·simp only [pwA,seval,-iQ0,hc0]
  exact Gh.fin0 hkp ⟨trivial,trivial,trivial⟩ (hk _ [] _ (.inl ⟨hc,hc0,rfl⟩) ⟨true,.nils,[],rfl,All2.nil _⟩)
 subst hc0;obtain⟨⟨hl,_⟩,hz⟩:=hc.zero;obtain⟨cc,lz⟩:=Lz.of hl hz;have o:=lz.r.o;have hn6:=o.le;have g:=lg_LG lz;have hul:=szu.l;simp only [pwA,seval,-iQ0];refine zCM lz hs hR fun vO vQ vC t f1 f2 f3 ho ht=>?_
 have hpr:IsPr vO vQ vC (rO p W.length) (lgPs p W.length W B W.length) (lgCs p W.length W B W.length):=⟨f1,f2,f3⟩;have szG:=lg_bd (.inr ⟨hc,rfl,rfl,rfl,rfl⟩:LGR p W B (rO p W.length) (lgPs p W.length W B W.length) (lgCs p W.length W B W.length) 0);have k0:=hpr.O.one;have k1:=hpr.P.one;have k2:=hpr.C.one;simp only [pwA,seval,-iQ0,k0,k1,k2,hU.one,hU.cells];have hk2:Keep σ ((((T.new [vO,vQ,vC]).new [vU]).kill (T.next+1)).up t):=hkp.trans ((((zC T _).new _).kill (by omega)).up ht)
 have hs2:PtrR ((((T.new [vO,vQ,vC]).new [vU]).kill (T.next+1)).up t) σ.next p vP vB:=hs.keep ((((zC T _).new _).kill (by omega)).up ht)
 have hg2:PtrG ((((T.new [vO,vQ,vC]).new [vU]).kill (T.next+1)).up t) T.next vO vQ vC:=⟨by simp only [pwA,seval,-iQ0],by simp only [pwA,seval,-iQ0];omega⟩
 refine zA.frz (s:=T.next+1) (cs:=[vU]) (by simp only [pwA,seval,-iQ0]) ⟨hU.bel 0,trivial⟩ fun o1=>?_
 rw [show(((T.new [vO,vQ,vC]).new [vU]).up t).kill (T.next+1)=(((T.new [vO,vQ,vC]).new [vU]).kill (T.next+1)).up t from rfl]
 generalize (((T.new [vO,vQ,vC]).new [vU]).kill (T.next+1)).up t=H at *
 simp only [sbs,Go.Ab.sb,capOK,and_self,if_true,decide_true,Nat.le_refl];refine zBM g hg2 hpr szG hU szu fun t ht=>?_
 cases t with
 | false=>
  simp only [pwA,seval,-iQ0];exact Gh.fin0 hk2 ⟨trivial,trivial,trivial⟩ (hk _ [] _ (.inr (.inl ⟨hc,fun e=>(by have:=ht.2 e;cases this),rfl,rfl⟩)) ⟨true,.nils,[],rfl,All2.nil _⟩)
 | true=>
 have hu:=ht.1 rfl;have hel:∀e∈u,El p W.length e:=fun e he=>(gS_el lz).1 (hu.1 e he)
 obtain⟨wu,au,ru,rfl,hru⟩:=hU;have hU:FII (.fz wu au u.length ru) u:=⟨wu,au,ru,rfl,hru⟩;simp only [pwA,seval,-iQ0];refine zG (fun m us h=>∃(i:Nat) (vL:PV) (rows:List PV),i≤u.length∧m=u.length-i∧us=[.ptr σ.next 0,vL,.fz wu au u.length ru,.int .i64 u.length,.int .i64 i]∧Keep H h∧PAcc H.next 1 h vL i rows∧All2 FI rows ((u.take i).map fun e=>ptG p W.length W B e W.length)) u.length ?_ ?_
 ·exact⟨0,_,[],by omega,by omega,rfl,Keep.refl _,PAcc.nil _ _ _,by simpa using All2.nil _⟩
 rintro m us h ⟨i,vL,rows,hi,rfl,rfl,hkp3,ha,hrows⟩
 simp only [pwA,seval,-iQ0];refine iteI (fun hlt=>?_) fun hge=>?_
 rotate_left
 ·have hie:i=u.length:=by omega
  subst hie;rw [List.take_length]at hrows
  have eL:Els p W.length (u.map fun e=>ptG p W.length W B e W.length):=fun x hx=>by
   obtain⟨e,_,rfl⟩:=List.mem_map.1 hx;exact pt_el lz e
  have fin:∀{g:PHeap} {v:PV} {Q:PV→PHeap→Prop},Keep H g→FII v (u.map fun e=>ptG p W.length W B e W.length)→(∀w,Gh σ K (.tup [w,.int .i64 0]) g→Q w g)→zA Tryz.prog 109 [.ptr σ.next 0,v] g Q:=fun {g v Q} kg hv hQ=>
   zB7 (hs2.keep kg) hR.P o lz.hp hv eL (by rw [List.length_map];omega) fun v' out c hO=>hQ _ (Gh.fin0 (hk2.trans kg) ⟨hO.bel _,trivial,trivial⟩ (hk v' out 0 (.inr (.inr ⟨hc,hu,c,rfl⟩)) hO))
  rcases ha with ⟨rfl,h1,h2⟩|⟨t,cap,rfl,hcp,q2,q3,q4,q5⟩
  ·have hL0:u=[]:=List.eq_nil_of_length_eq_zero h1
   subst hL0;simp only [pwA,seval,-iQ0];refine fin hkp3 ⟨true,.nils,[],rfl,All2.nil _⟩ fun w hg=>?_
   simp only [pwA,seval,-iQ0];exact hg
  ·have hst:=hs2.lt
   have hne:σ.next≠t:=by omega
   simp only [pwA,seval,-iQ0];refine zA.frz q2 (hrows.bI 0) fun o1=>?_
   simp only [sbs,sb,hcp.ok,and_self,if_true,hne,false_and,if_false];refine fin (hkp3.kill q4) ⟨true,_,rows,by rw [List.length_map],hrows⟩ fun w hg=>?_
   simp only [pwA,seval,-iQ0];exact hg
 obtain⟨w4,a4,hr⟩:=hru.rowI hlt;have hei:=hel _ (List.getElem_mem hlt);simp only [pwA,seval,-iQ0,hlt,hr];refine zA.fzI (fun K'=>zGN lz (hs2.keep hkp3) hR hei ⟨w4,a4,rfl⟩) fun a2=>?_
 simp only [pwA,seval,-iQ0];refine PAcc.push (bytes:=24) hkp3 ha (by omega) (by omega) fun v' h3 k3 a3=>?_
 simp only [pwA,seval,-iQ0,wrapS hlt (by omega:u.length≤4611686018427387904)]
 refine⟨_,by omega,i+1,v',_,by omega,rfl,rfl,k3,a3.acc,?_⟩
 rw [List.take_succ_eq_append_getElem hlt,List.map_append];exact hrows.snoc ⟨_,_,rfl⟩
theorem zNt (hR:IsR vP vB W B) (szr:SzR W B) (hU:FII vU u) (szu:SzL u)
  (hk:∀v z c,SgR p W B u z c→FII v z→K (.tup [v,.int .i64 c]) σ):zA Tryz.prog 22 [.agg [.int .i64 p,vP,vB],vU] σ K:=by
 have h1:=hR.P.one;have h2:=hR.B.one;refine zA.gh ?_;refine zD mix Tryz.func22 ?_
 conv=>arg 2;cbv
 refine zF rfl ?_;simp only [pwA,seval,-iQ0,h1,h2];have hkp:Keep σ (((σ.new [.int .i64 p,vP,vB]).new []).kill (σ.next+1)):=((zC σ _).new _).kill (by omega)
 have hld:(((σ.new [.int .i64 p,vP,vB]).new []).kill (σ.next+1)).rd σ.next 0 3=some [.int .i64 p,vP,vB]:=by
  have ob:(((σ.new [.int .i64 p,vP,vB]).new []).kill (σ.next+1)).obj σ.next=some [.int .i64 p,vP,vB]:=by simp only [pwA,seval,-iQ0]
  rw [zi ob];rfl
 have hlt0:σ.next<(((σ.new [.int .i64 p,vP,vB]).new []).kill (σ.next+1)).next:=by show σ.next<σ.next+1+1;omega
 refine zA.frz (s:=σ.next+1) (cs:=[]) (by simp only [pwA,seval,-iQ0]) trivial fun o1=>?_
 simp only [sbs,Go.Ab.sb,capOK,and_self,if_true,decide_true,Nat.le_refl,hR.P.sb,hR.B.sb];generalize ((σ.new [.int .i64 p,vP,vB]).new []).kill (σ.next+1)=H at *
 refine zB8 (xs:=[]) hR szr ⟨true,_,[],rfl,All2.nil _⟩ ⟨by simp,fun y hy=>by cases hy⟩ fun c hc=>?_
 by_cases hc0:c=0
 rotate_left
 ·simp only [pwA,seval,-iQ0,hc0]
  exact Gh.fin0 hkp ⟨trivial,trivial,trivial⟩ (hk _ [] _ (.inl ⟨hc,hc0,rfl⟩) ⟨true,.nils,[],rfl,All2.nil _⟩)
 subst hc0;obtain⟨⟨hl,_⟩,hz⟩:=hc.zero;obtain⟨cc,lz⟩:=Lz.of hl hz;have o:=lz.r.o;have hn6:=o.le;have g:=lg_LG lz;have hul:=szu.l;simp only [pwA,seval,-iQ0,hld];refine zBW lz hR fun vO vQ vC f1 f2 f3=>?_
 have hpr:IsPr vO vQ vC (rO p W.length) (lgPs p W.length W B W.length) (lgCs p W.length W B W.length):=⟨f1,f2,f3⟩;simp only [pwA,seval,-iQ0,hld];refine zNU g hpr hU szu fun t ht=>?_
 cases t with
 | false=>
  simp only [pwA,seval,-iQ0];exact Gh.fin0 hkp ⟨trivial,trivial,trivial⟩ (hk _ [] _ (.inr (.inl ⟨hc,fun e=>(by have:=ht.2 e;cases this),rfl,rfl⟩)) ⟨true,.nils,[],rfl,All2.nil _⟩)
 | true=>
 have hu:=ht.1 rfl;have hel:∀e∈u,El p W.length e:=fun e he=>(gS_el lz).1 (hu.1 e he)
 obtain⟨wu,au,ru,rfl,hru⟩:=hU;have hU:FII (.fz wu au u.length ru) u:=⟨wu,au,ru,rfl,hru⟩;have hr0:∀{h:PHeap},Keep H h→h.rd σ.next 0 3=some [.int .i64 p,vP,vB]:=fun {h} k=>by rw [k.rd hlt0];exact hld
 simp only [pwA,seval,-iQ0];refine zG (fun m us h=>∃(i:Nat) (vL:PV) (rows:List PV),i≤u.length∧m=u.length-i∧us=[.fz wu au u.length ru,.ptr σ.next 0,vL,.int .i64 i]∧Keep H h∧PSl H.next 1 h vL i rows∧All2 FI rows ((u.take i).map fun e=>ptG p W.length W B e W.length)) u.length ?_ ?_
 ·exact⟨0,_,[],by omega,by omega,rfl,zC _ _,PSl.new _ 1 rfl (Nat.le_refl _),by simpa using All2.nil _⟩
 rintro m us h ⟨i,vL,rows,hi,rfl,rfl,hkp3,ha,hrows⟩
 have l3:=hr0 hkp3;simp only [pwA,seval,-iQ0];refine iteI (fun hlt=>?_) fun hge=>?_
 rotate_left
 ·have hie:i=u.length:=by omega
  subst hie;rw [List.take_length]at hrows
  have eL:Els p W.length (u.map fun e=>ptG p W.length W B e W.length):=fun x hx=>by
   obtain⟨e,_,rfl⟩:=List.mem_map.1 hx;exact pt_el lz e
  obtain⟨t,cap,rfl,hcp,q2,q3,q4,q5⟩:=ha;simp only [pwA,seval,-iQ0,l3];refine zA.frz q2 (hrows.bI 0) fun o1=>?_
  simp only [sbs,sb,hcp.ok,and_self,if_true,hR.P.sb,hR.B.sb];refine zEk hR o lz.hp ⟨true,_,rows,by rw [List.length_map],hrows⟩ eL (by rw [List.length_map];omega) fun v' out c hO=>?_
  simp only [pwA,seval,-iQ0];exact Gh.fin0 (hkp.trans (hkp3.kill q4)) ⟨hO.bel _,trivial,trivial⟩ (hk v' out 0 (.inr (.inr ⟨hc,hu,c,rfl⟩)) hO)
 obtain⟨w4,a4,hr⟩:=hru.rowI hlt;have hei:=hel _ (List.getElem_mem hlt);simp only [pwA,seval,-iQ0,hlt,hr,l3];refine zIi lz hR hei ⟨w4,a4,rfl⟩ fun v2 f4=>?_
 have y1:=f4.one;have y2:=f4.cells;simp only [pwA,seval,-iQ0,y1,y2,hlt,hr,l3];refine PSl.push (bytes:=24) (σb:=H) hkp3 ha (by omega) (by omega) fun v' h3 k3 a3=>?_
 simp only [pwA,seval,-iQ0,wrapS hlt (by omega:u.length≤4611686018427387904)]
 refine⟨_,by omega,i+1,v',_,by omega,rfl,rfl,k3,a3,?_⟩
 rw [List.take_succ_eq_append_getElem hlt,List.map_append];exact hrows.snoc f4
end Go.Proofs
namespace Go.Grp
end Go.Grp
namespace Go.Proofs
open Go.Ab Go.Lie Go.Grp
variable {σ h h':PHeap} {K:PV→PHeap→Prop} {p:Int} {n c:Nat} {W:List (List Int)} {B:List (List (List Int))} {vP vB vU vx:PV} {u x:List (List Int)} {s:Nat}
def zFj (p:Int) (W:List (List Int)) (B:List (List (List Int))) (u:List (List Int)):Prop:=∀x∈u,∀y∈u,Gen p W.length W u (at_ (br p W B W.length x y))
def SrR (p:Int) (W:List (List Int)) (B:List (List (List Int))) (u z:List (List Int)) (c:Int):Prop:=
 (¬(isLie p W B∧ZT p W u)∧z=[]∧c=1)∨((isLie p W B∧ZT p W u)∧¬(isLz p W.length W B∧zFj p W B u)∧z=[]∧c=5)∨
 ((isLie p W B∧ZT p W u)∧(isLz p W.length W B∧zFj p W B u)∧CanG (rO p W.length) (GC (rO p W.length) (lgPs p W.length W B W.length) (lgCs p W.length W B W.length) (u.map fun e=>vcG p W.length W B e)) z∧c=0)
theorem zKx (lz:Lz p n W B c) (hu:Els p n u):∀x∈u.map (fun e=>vcG p n W B e),gS (rO p n) x:=fun x hx=>by
 obtain⟨e,he,rfl⟩:=List.mem_map.1 hx;exact(gS_el lz).2 (vc_el lz (hu e he))
theorem SrR.unique {z z':List (List Int)} {c c':Int} (h:SrR p W B u z c) (g:SrR p W B u z' c'):z=z'∧c=c':=by
 rcases h with ⟨h1,h2,h3⟩|⟨h1,h2,h3,h4⟩|⟨h1,h2,h3,h4⟩<;>rcases g with ⟨g1,g2,g3⟩|⟨g1,g2,g3,g4⟩|⟨g1,g2,g3,g4⟩
 ·exact⟨by rw [h2,g2],by rw [h3,g3]⟩
 ·exact absurd g1 h1
 ·exact absurd g1 h1
 ·exact absurd h1 g1
 ·exact⟨by rw [h3,g3],by rw [h4,g4]⟩
 ·exact absurd g2 h2
 ·exact absurd h1 g1
 ·exact absurd h2 g2
 ·obtain⟨cc,lz⟩:=Lz.of h1.1 h2.1
  exact⟨h3.unique (lg_LG lz).s (lg_LG lz).F (GC.sub (lg_LG lz).F (zKx lz h1.2.1)) g3,by rw [h4,g4]⟩
theorem zNs (hR:IsR vP vB W B) (szr:SzR W B) (hU:FII vU u) (szu:SzL u)
  (hk:∀v z c,SrR p W B u z c→FII v z→K (.tup [v,.int .i64 c]) σ):zA Tryz.prog 16 [.agg [.int .i64 p,vP,vB],vU] σ K:=by
 have h1:=hR.P.one;have h2:=hR.B.one;refine zA.gh ?_;refine zD mix Tryz.func16 ?_
 conv=>arg 2;cbv
 refine zF rfl ?_;simp only [pwA,seval,-iQ0,h1,h2,hU.one,hU.cells];refine zA.frz (s:=σ.next+1) (cs:=[vU]) (by simp only [pwA,seval,-iQ0]) ⟨hU.bel 0,trivial⟩ fun o1=>?_
 have hkp:Keep σ (((σ.new [.int .i64 p,vP,vB]).new [vU]).kill (σ.next+1)):=((zC σ _).new _).kill (by omega)
 have hs:PtrR (((σ.new [.int .i64 p,vP,vB]).new [vU]).kill (σ.next+1)) σ.next p vP vB:=⟨by simp only [pwA,seval,-iQ0],by simp only [pwA,seval,-iQ0];omega⟩
 generalize ((σ.new [.int .i64 p,vP,vB]).new [vU]).kill (σ.next+1)=T at *
 simp only [sbs,Go.Ab.sb,capOK,and_self,if_true,decide_true,Nat.le_refl];have nilF:∀{c:Int},SrR p W B u [] c→Gh σ K (.tup [.fz true .nils 0 [],.int .i64 c]) T:=fun {c} h=>Gh.fin0 hkp ⟨trivial,trivial,trivial⟩ (hk _ [] _ h ⟨true,.nils,[],rfl,All2.nil _⟩)
 refine Q9 (us:=[u]) hs hR szr ((All2.nil FII).snoc hU) (by simp) (by simp) (fun x hx=>by rw [List.mem_singleton.1 hx];exact szu) fun t ht=>?_
 have ht':t=true↔isLie p W B∧ZT p W u:=by rw [ht];simp
 clear ht;cases t with
 | false=>
  simp only [pwA,seval,-iQ0];exact nilF (.inl ⟨fun e=>(by have:=ht'.2 e;cases this),rfl,rfl⟩)
 | true=>
 have hl:=ht'.1 rfl;have o:=hl.1.1.w;have q:=hl.1.1.b;have hn6:=o.le;have hul:=hl.2.2.len;simp only [pwA,seval,-iQ0];refine zDk hs hR o q hl.1.1.1 fun t ht=>?_
 cases t with
 | false=>
  simp only [pwA,seval,-iQ0];exact nilF (.inr (.inl ⟨hl,fun e=>(by have:=ht.2 e.1;cases this),rfl,rfl⟩))
 | true=>
 have hz:=ht.1 rfl;clear ht;simp only [pwA,seval,-iQ0];refine zCR hs hR o q hU hU hU hl.2.1 hl.2.1 (by omega) (by omega) hl.2.2.base fun t ht=>?_
 cases t with
 | false=>
  simp only [pwA,seval,-iQ0];exact nilF (.inr (.inl ⟨hl,fun e=>(by have:=ht.2 e.2;cases this),rfl,rfl⟩))
 | true=>
 have hcl:zFj p W B u:=ht.1 rfl;obtain⟨cc,lz⟩:=Lz.of hl.1 hz;have g:=lg_LG lz;have hel:=hl.2.1;simp only [pwA,seval,-iQ0];refine zCM lz hs hR fun vO vQ vC t f1 f2 f3 ho ht=>?_
 have hpr:IsPr vO vQ vC (rO p W.length) (lgPs p W.length W B W.length) (lgCs p W.length W B W.length):=⟨f1,f2,f3⟩;have k0:=hpr.O.one;have k1:=hpr.P.one;have k2:=hpr.C.one;obtain⟨wu,au,ru,rfl,hru⟩:=hU;simp only [pwA,seval,-iQ0,k0,k1,k2];have hk2:Keep σ ((T.new [vO,vQ,vC]).up t):=hkp.trans ((zC T _).up ht);have hs2:PtrR ((T.new [vO,vQ,vC]).up t) σ.next p vP vB:=hs.keep ((zC T _).up ht);have hg2:PtrG ((T.new [vO,vQ,vC]).up t) T.next vO vQ vC:=⟨by simp only [pwA,seval,-iQ0],Nat.lt_succ_self _⟩
 generalize (T.new [vO,vQ,vC]).up t=H at *
 refine zG (fun m us h=>∃(i:Nat) (vL:PV) (rows:List PV),i≤u.length∧m=u.length-i∧us=[.ptr σ.next 0,.ptr T.next 0,vL,.fz wu au u.length ru,.int .i64 u.length,.int .i64 i]∧Keep H h∧PAcc H.next 1 h vL i rows∧All2 FI rows ((u.take i).map fun e=>vcG p W.length W B e)) u.length ?_ ?_
 ·exact⟨0,_,[],by omega,by omega,rfl,Keep.refl _,PAcc.nil _ _ _,by simpa using All2.nil _⟩
 rintro m us h ⟨i,vL,rows,hi,rfl,rfl,hkp3,ha,hrows⟩
 simp only [pwA,seval,-iQ0];refine iteI (fun hlt=>?_) fun hge=>?_
 rotate_left
 ·have hie:i=u.length:=by omega
  subst hie;rw [List.take_length]at hrows
  have fin:∀{g':PHeap} {v:PV} {Q:PV→PHeap→Prop},Keep H g'→FII v (u.map fun e=>vcG p W.length W B e)→(∀w,Gh σ K (.tup [w,.int .i64 0]) g'→Q w g')→zA Tryz.prog 96 [.ptr T.next 0,v] g' Q:=fun {g' v Q} kg hv hQ=>
   zCs g (hg2.keep kg) hpr hv (zKx lz hel) (by rw [List.length_map];omega) fun v' z hv' hz'=>hQ _ (Gh.fin0 (hk2.trans kg) ⟨hv'.bel _,trivial,trivial⟩ (hk v' z 0 (.inr (.inr ⟨hl,⟨hz,hcl⟩,hz',rfl⟩)) hv'))
  rcases ha with ⟨rfl,h1,h2⟩|⟨t,cap,rfl,hcp,q2,q3,q4,q5⟩
  ·have hL0:u=[]:=List.eq_nil_of_length_eq_zero h1
   subst hL0;simp only [pwA,seval,-iQ0];refine fin hkp3 ⟨true,.nils,[],rfl,All2.nil _⟩ fun w hg=>?_
   simp only [pwA,seval,-iQ0];exact hg
  ·have hst:=hg2.lt
   have hne:T.next≠t:=by omega
   simp only [pwA,seval,-iQ0];refine zA.frz q2 (hrows.bI 0) fun o1=>?_
   simp only [sbs,sb,hcp.ok,and_self,if_true,hne,false_and,if_false];refine fin (hkp3.kill q4) ⟨true,_,rows,by rw [List.length_map],hrows⟩ fun w hg=>?_
   simp only [pwA,seval,-iQ0];exact hg
 obtain⟨w4,a4,hr⟩:=hru.rowI hlt;have hei:=hel _ (List.getElem_mem hlt);have hvl:(vcG p W.length W B u[i]).length=W.length:=zGY;simp only [pwA,seval,-iQ0,hlt,hr];refine zA.fz (e:=1) (fun K'=>QV lz (hs2.keep hkp3) hR hei ⟨w4,a4,rfl⟩) (zN _ _) fun o cap=>?_
 simp only [pwA,seval,-iQ0];refine PAcc.push (bytes:=24) hkp3 ha (by omega) (by omega) fun v' h3 k3 a3=>?_
 simp only [pwA,seval,-iQ0,wrapS hlt (by omega:u.length≤4611686018427387904)]
 refine⟨_,by omega,i+1,v',_,by omega,rfl,rfl,k3,a3.acc,?_⟩
 rw [List.take_succ_eq_append_getElem hlt,List.map_append];exact hrows.snoc ⟨_,_,by rw [hvl]⟩
end Go.Proofs
namespace Go.Grp
end Go.Grp
namespace Go.Proofs
open Go.Ab Go.Lie Go.Grp
variable {σ h h':PHeap} {K:PV→PHeap→Prop} {p lim:Int} {n s:Nat} {W:List (List Int)} {B:List (List (List Int))} {vC vP vB:PV} {bs:List Int} {u:List (List Int)}
theorem zIm {p:Int} {n:Nat} (hp:1≤p∧p≤11) (hn:n≤6) (hk:∀k,K (.int .i64 k) σ):zA Tryz.prog 115 [.int .i64 p,.int .i64 n] σ K:=by
 refine zD mix Tryz.func115 ?_
 conv=>arg 2;cbv
 refine zF rfl ?_;simp only [pwA,seval,-iQ0];refine zG (fun m vs h'=>∃(i:Nat) (k:Int),i≤n∧m=n-i∧1≤k∧k≤8019∧vs=[.int .i64 p,.int .i64 n,.int .i64 k,.int .i64 i]∧h'=σ) n ⟨0,1,by omega,by omega,by omega,by omega,rfl,rfl⟩ ?_
 rintro m vs h' ⟨i,k,hi,rfl,k1,k2,rfl,rfl⟩
 by_cases hlt:i<n
 ·by_cases hle:k≤729
  ·have e1:=Int.mul_le_mul_of_nonneg_left hp.1 (show 0≤k by omega)
   have e2:=Int.mul_le_mul_of_nonneg_left hp.2 (show 0≤k by omega)
   simp only [pwA,seval,-iQ0,hlt,hle,wrapS (n:=n) hlt (by omega),wrap64 (n:=k*p) (by omega) (by omega)]
   exact⟨_,by omega,i+1,k*p,by omega,rfl,by omega,by omega,rfl⟩
  ·simp only [pwA,seval,-iQ0,hlt,hle]
   exact hk _
 ·simp only [pwA,seval,-iQ0,hlt]
  exact hk _
theorem zIh (so:So σ s vC bs) (hk:∀p vP vB W B h,DrR p W B→IsR vP vB W B→Mv σ s h→So h s vC bs→K (.agg [.int .i64 p,vP,vB]) h):zA Tryz.prog 111 [.ptr s 0,.int .i64 lim] σ K:=by
 have hsl:=so.lt;refine zA.gh ?_;generalize hT:σ.new [.int .i64 0,.fz true .nils 0 [],.fz true .nils 0 []]=T;have hTn:T.next=σ.next+1:=by rw [←hT];rfl
 have hkT:Keep σ T:=by rw [←hT];exact zC σ _
 have soT:So T s vC bs:=so.keep hkT;have hsT:s<T.next:=soT.lt;have obT:T.obj σ.next=some [.int .i64 0,.fz true .nils 0 [],.fz true .nils 0 []]:=by rw [←hT];simp only [pwA,seval,-iQ0]
 have hres:∀{g:PHeap} {u0 u1 u2:PV},KM T s g→u0.one=true→u1.one=true→u2.one=true→g.wr σ.next 0 [u0,u1,u2]=some (g.set σ.next [u0,u1,u2])∧(g.set σ.next [u0,u1,u2]).rd σ.next 0 3=some [u0,u1,u2]:=fun {g u0 u1 u2} k z0 z1 z2=>by
  have hres:g.obj σ.next=some [.int .i64 0,.fz true .nils 0 [],.fz true .nils 0 []]:=by rw [k.obj (by omega) (by omega)];exact obT
  exact⟨by rw [zn hres,if_pos ⟨by simp,by simp only [List.all_cons,List.all_nil,z0,z1,z2];rfl⟩];rfl,by rw [qx,if_pos rfl];rfl⟩
 refine zD mix Tryz.func111 ?_
 conv=>arg 2;cbv
 refine zF rfl ?_;simp only [pwA,seval,-iQ0];rw [hT];refine zG (fun m us h=>∃i:Nat,i≤12∧m=12-i∧us=[.ptr s 0,.int .i64 lim,.ptr σ.next 0,.int .i64 i]∧KM T s h∧So h s vC bs) 12 ⟨0,by omega,by omega,rfl,soT.km,soT⟩ ?_
 rintro m us h ⟨i,hi,rfl,rfl,km,so1⟩
 simp only [pwA,seval,-iQ0];refine iteI (fun hlt=>?_) fun hge=>?_
 rotate_left
 ·refine zCA (n:=2) (by omega) (by omega) fun sP capP cs sB capB ls h5 k5 rs5=>?_
  obtain⟨x1,x2⟩:=hres (u0:=.int .i64 3) (u1:=.sl sP 0 2 capP) (u2:=.sl sB 0 2 capB) (km.keep k5) rfl rfl rfl;simp only [pwA,seval,-iQ0,x1,x2];have hTh:=km.next;refine Gh.km (((so.kmK hkT).trans hsl (km.keep k5)).set (Nat.le_refl _) _) ((so1.keep k5).set (by omega) _) hsl fun σ' m' so' kp=>?_
  refine RS.fin ((rs5.low (b':=σ'.next) (by rw [m'.next];omega)).move (fun t ht=>?_) (Nat.le_refl _)) kp (Nat.le_refl _) fun vP vB hR=>hk 3 vP vB _ _ σ' (DrR.ok (.inr (.inl rfl)) (OkF.zero (by unfold okp;omega) (by omega))) hR m' so'
  have:=(rs5.lt ht).1
  rw [zH,if_neg (by omega)]
 refine zKQ so1 fun p vP vB W B h2 d hR m2 so2=>?_
 have km2:=km.mv hsT m2;have g1:=hR.P.one;have g2:=hR.B.one;have hpb:=d.p;have hwl:=d.wl;have h2n:=km2.next;have wi1:IntKind.i64.wrap ((i:Int)+1)=((i+1:Nat):Int):=by rw [wrap64 (by omega) (by omega)];omega
 have so3:So (h2.new [.int .i64 p,vP,vB]) s vC bs:=so2.keep (zC _ _);have km3:KM T s (h2.new [.int .i64 p,vP,vB]):=km2.new _;have rd3:(h2.new [.int .i64 p,vP,vB]).rd h2.next 0 3=some [.int .i64 p,vP,vB]:=by simp only [pwA,seval,-iQ0]
 have rd0:(h2.new [.int .i64 p,vP,vB]).rd1 h2.next 0=some (.int .i64 p):=by simp only [pwA,seval,-iQ0]
 have rd1:(h2.new [.int .i64 p,vP,vB]).rd1 h2.next 1=some vP:=by simp only [pwA,seval,-iQ0]
 simp only [pwA,seval,-iQ0,g1,g2];generalize h2.new [PV.int .i64 p,vP,vB]=H at *
 have hR0:=hR;obtain⟨⟨wp,ap,rp,rfl,hrp⟩,hRB⟩:=hR0;simp only [pwA,seval,-iQ0];refine zIm hpb hwl fun k=>?_
 by_cases hkl:k≤lim
 ·obtain⟨x1,x2⟩:=hres (u0:=.int .i64 p) (u1:=.fz wp ap W.length rp) (u2:=vB) km3 rfl g1 g2
  simp only [pwA,seval,-iQ0,hkl,decide_true,rd3,x1,x2,g2];refine Gh.km (((so.kmK hkT).trans hsl km3).set (Nat.le_refl _) _) (so3.set (by omega) _) hsl fun σ' m' so' kp=>?_
  exact Gh.fin0 kp ⟨trivial,hR.P.bel _,hR.B.bel _,trivial⟩ (hk p _ vB W B σ' d hR m' so')
 ·simp only [pwA,seval,-iQ0,hkl,decide_false,wi1]
  exact⟨_,by omega,i+1,by omega,rfl,rfl,km3,so3⟩
theorem Gh.finA {σ0 σ1:PHeap} {s l:Nat} {cap:Cap} {cs:List PV} (hR:IsR vP vB W B) (hk:Keep σ0 σ1) (hs:σ1.obj s=some cs) (h0:σ0.next≤s) (hb:Bels 0 cs) (hcap:capOK cap l=true)
  (k:∀o,K (.tup [.agg [.int .i64 p,vP,vB],.fz true (.sl o 0 l cap) l cs]) σ0):Gh σ0 K (.tup [.agg [.int .i64 p,vP,vB],.sl s 0 l cap]) σ1:=
 Gh.freeze hs h0 hb fun o h1 hc _=>by
  simp only [sbs,Go.Ab.sb,hR.P.sb,hR.B.sb];rw [if_pos ⟨trivial,trivial,hcap⟩];exact Gh.fin0 ((hk.kill h0).up (by simp only [PHeap.kill];omega)) ⟨⟨trivial,hR.P.bel _,hR.B.bel _,trivial⟩,trivial,trivial⟩ (k o)
theorem zA6 (hb:FB vC bs) (hB:Byt bs) (hk:∀p vP vB W B vU u,DrR p W B→IsR vP vB W B→FII vU u→SzL u→K (.tup [.agg [.int .i64 p,vP,vB],vU]) σ):zA Tryz.prog 25 [vC] σ K:=by
 refine zA.gh ?_;generalize hT:σ.new [.int .i64 0,.fz true .nils 0 [],.fz true .nils 0 []]=T;have hTn:T.next=σ.next+1:=by rw [←hT];rfl
 have hkT:Keep σ T:=by rw [←hT];exact zC σ _
 have obT:T.obj σ.next=some [.int .i64 0,.fz true .nils 0 [],.fz true .nils 0 []]:=by rw [←hT];simp only [pwA,seval,-iQ0]
 refine zL mix Tryz.func25 cf25 rfl ?_;dsimp only [if25,qI,eI,nI,qD,eD,mI0,LI0,cI0,nI0,C1,mD0,lD0,fD0,R0,S0];simp only [pwA,seval,-iQ0,hb.one];rw [hT];refine zKY hb hB fun sd hsd=>?_
 have so1:So (T.new (srcC vC 0 sd)) T.next vC bs:=⟨0,sd,by rw [zM,if_pos rfl],Nat.lt_succ_self _,hb,hB,Nat.zero_le _,hsd⟩
 have km1:KM (T.new (srcC vC 0 sd)) T.next (T.new (srcC vC 0 sd)):=so1.km;have kT1:Keep T (T.new (srcC vC 0 sd)):=zC _ _;have hs1:T.next<(T.new (srcC vC 0 sd)).next:=Nat.lt_succ_self _;generalize hU:T.new (srcC vC 0 sd)=U at *
 have hUn:U.next=T.next+1:=by rw [←hU];rfl
 simp only [pwA,seval,-iQ0];refine zIh so1 fun p vP vB W B h2 d hR m2 so2=>?_
 have km2:=km1.mv hs1 m2;have g1:=hR.P.one;have g2:=hR.B.one;have h2n:=km2.next;have so3:So (h2.new [.int .i64 p,vP,vB]) T.next vC bs:=so2.keep (zC _ _);have km3:KM U T.next (h2.new [.int .i64 p,vP,vB]):=km2.new _;have hob3:(h2.new [.int .i64 p,vP,vB]).obj h2.next=some [.int .i64 p,vP,vB]:=by simp only [pwA,seval,-iQ0]
 have rd3:∀{g:PHeap},KM (h2.new [.int .i64 p,vP,vB]) T.next g→g.obj h2.next=some [.int .i64 p,vP,vB]∧g.rd h2.next 0 3=some [.int .i64 p,vP,vB]∧g.rd1 h2.next 0=some (.int .i64 p)∧g.rd1 h2.next 1=some vP:=fun {g} k=>by
  have ob:=k.obj (t:=h2.next) (Nat.lt_succ_self _) (by omega)
  rw [hob3]at ob
  exact⟨ob,by rw [zi ob];rfl,by rw [zI ob];rfl,by rw [zI ob];rfl⟩
 have fin:∀{g:PHeap},KM (h2.new [.int .i64 p,vP,vB]) T.next g→g.wr σ.next 0 [.int .i64 p,vP,vB]=some (g.set σ.next [.int .i64 p,vP,vB])∧(g.set σ.next [.int .i64 p,vP,vB]).rd σ.next 0 3=some [.int .i64 p,vP,vB]∧Keep σ (g.set σ.next [.int .i64 p,vP,vB])∧σ.next<g.next:=fun {g} k=>by
  have kmg:KM U T.next g:=km3.trans hs1 k;have hU6:Keep T g:=kmg.keepOf kT1 (Nat.le_refl _);have hres:g.obj σ.next=some [.int .i64 0,.fz true .nils 0 [],.fz true .nils 0 []]:=by rw [hU6.obj _ (by omega)];exact obT
  have:=hU6.next
  exact⟨by rw [zn hres,if_pos ⟨by simp,by simp only [List.all_cons,List.all_nil,g1,g2];rfl⟩];rfl,by rw [qx,if_pos rfl];rfl,(hkT.trans hU6).set (Nat.le_refl _) _,by omega⟩
 have sz:=d.sz;have hpb:=d.p;have hwl:=d.wl;obtain⟨a1,a2,a3,a4⟩:=rd3 so3.km;have hs3:T.next<(h2.new [.int .i64 p,vP,vB]).next:=so3.lt;simp only [pwA,seval,-iQ0,g1,g2,a2];generalize hG:h2.new [.int .i64 p,vP,vB]=G at *
 refine zHE hR sz fun t ht=>?_
 cases t with
 | false=>
  obtain⟨x1,x2,x3,x4⟩:=fin so3.km;simp only [pwA,seval,-iQ0,a2,x1,x2,g1,g2,show ¬σ.next=G.next by omega]
  exact Gh.finA (s:=G.next) (cs:=[]) hR (x3.new []) (by rw [zM];exact if_pos rfl) (by show σ.next≤G.next;omega) trivial rfl fun o=>hk p vP vB W B _ [] d hR ⟨true,.sl o 0 0 (.known 0),[],rfl,All2.nil _⟩ ⟨by simp,fun x hx=>by cases hx⟩
 | true=>
 obtain⟨hl,hz⟩:=ht.1 rfl;clear ht;obtain⟨cc,lz⟩:=Lz.of hl hz;have hp:=hl.1.1;obtain⟨P,rfl⟩:∃P:Nat,p=P:=⟨p.toNat,by omega⟩
 have hp27:=hp.bd;simp only [pwA,seval,-iQ0,a2];refine zBW lz hR fun vO vQ vD f1 f2 f3=>?_
 have hpr:IsPr vO vQ vD (rO (P:Int) W.length) (lgPs P W.length W B W.length) (lgCs P W.length W B W.length):=⟨f1,f2,f3⟩;have k1:=f1.one;have k2:=f2.one;have k3:=f3.one;have kmA:KM G T.next (G.new [vO,vQ,vD]):=so3.km.new _;have soA:So (G.new [vO,vQ,vD]) T.next vC bs:=so3.keep (zC _ _);have hGn:G.next≤(G.new [vO,vQ,vD]).next:=Nat.le_succ _;have hobA:(G.new [vO,vQ,vD]).obj G.next=some [vO,vQ,vD]:=by simp only [pwA,seval,-iQ0]
 have rdA:∀{g:PHeap},KM (G.new [vO,vQ,vD]) T.next g→KM G T.next g∧g.rd G.next 0 3=some [vO,vQ,vD]:=fun {g} k=>by
  have ob:=k.obj (t:=G.next) (Nat.lt_succ_self _) (by omega)
  rw [hobA]at ob
  exact⟨kmA.trans hs3 k,by rw [zi ob];rfl⟩
 have hsA:T.next<(G.new [vO,vQ,vD]).next:=soA.lt;have hAn:G.next<(G.new [vO,vQ,vD]).next:=Nat.lt_succ_self _;have hAn2:G.next+1=(G.new [vO,vQ,vD]).next:=rfl;simp only [pwA,seval,-iQ0,k1,k2,k3];generalize hA:G.new [vO,vQ,vD]=A at *
 refine qY (soA.keep (zC _ _)) (by decide) fun c h0 hc m0 so0=>?_
 have hc0:=hc.1;have hc1:c<3:=hc.2.2 (by decide)
 obtain⟨k0,rfl⟩:=Int.eq_ofNat_of_zero_le hc0;simp only [pwA,seval,-iQ0];refine zG (fun m us h=>∃(k:Nat) (v:PV) (xs:List (List Int)) (rows:List PV),m=k∧k+xs.length≤3∧us=[.ptr σ.next 0,.ptr T.next 0,.ptr h2.next 0,.ptr G.next 0,v,.int .i64 k]∧KM A T.next h∧So h T.next vC bs∧PSl A.next 1 h v xs.length rows∧All2 FI rows xs∧∀x∈xs,El (P:Int) W.length x) k0 ?_ ?_
 ·exact⟨k0,.sl A.next 0 0 (.known 0),[],[],rfl,by simp;omega,by first | (rw [←hAn2];rfl) | rfl,(soA.kmK (zC _ _)).mv hsA m0,so0,zEX (PSl.new _ 1 rfl (Nat.le_refl _)) hsA m0,All2.nil _,fun x hx=>by cases hx⟩
 rintro m us h ⟨k,v,xs,rows,rfl,hkx,rfl,km,soh,ps,hrows,hxl⟩
 obtain⟨kmG,rA⟩:=rdA km;obtain⟨b1,b2,b3,b4⟩:=rd3 kmG;have hAh:=km.next;simp only [pwA,seval,-iQ0]
 by_cases hk0:m=0
 ·subst hk0
  have hk0':¬((0:Nat):Int) > 0:=by omega
  simp only [pwA,seval,-iQ0,hk0'];refine qY soh (by decide) fun c2 h5 hc2 m5 so5=>?_
  have km5:=km.mv hsA m5;obtain⟨kmG5,rA5⟩:=rdA km5;obtain⟨d1,d2,d3,d4⟩:=rd3 kmG5;obtain⟨x1,x2,x3,x4⟩:=fin kmG5;have ps5:=zEX ps hsA m5;obtain⟨t,cap,rfl,hcp,q2,q3,q4,q5⟩:=ps5
  by_cases hcz:c2=0
  ·simp only [pwA,seval,-iQ0,hcz,decide_true,d2,x1,x2,g1,g2]
   exact Gh.finA hR x3 (by rw [zH,if_neg (by omega)];exact q2) (by omega) (hrows.bI 0) hcp.ok fun o=>hk _ vP vB W B _ xs d hR ⟨true,_,_,rfl,hrows⟩ ⟨by omega,fun x hx=>by have:=(hxl x hx).1;omega⟩
  ·simp only [pwA,seval,-iQ0,hcz,decide_false,d2,rA5]
   refine zA.frz q2 (hrows.bI 0) fun o1=>?_
   simp only [sbs,Go.Ab.sb,hcp.ok,and_self,if_true,f1.sb,f2.sb,f3.sb];refine zDi (lg_LG lz) hpr ⟨true,_,rows,rfl,hrows⟩ ⟨by omega,fun x hx=>by have:=(hxl x hx).1;omega⟩ (fun x hx=>(gS_el lz).2 (hxl x hx)) fun v' z hv' hz'=>?_
   have kmk:KM G T.next (h5.kill t):=kmG5.kill (by omega)
   obtain⟨y1,y2,y3,y4⟩:=fin kmk;obtain⟨e1,e2,e3,e4⟩:=rd3 kmk;have hzl:=hz'.len;simp only [pwA,seval,-iQ0,e2,y1,y2,g1,g2];exact Gh.fin0 y3 ⟨⟨trivial,hR.P.bel _,hR.B.bel _,trivial⟩,hv'.bel _,trivial⟩ (hk _ vP vB W B v' z d hR hv' ⟨by simp only [List.length_replicate]at hzl;omega,fun x hx=>by have:=(hz'.one x hx).1.len;simp only [List.length_replicate]at this;omega⟩)
 have hkp:(m:Int) > 0:=by omega
 have hkp':(0:Int)<(m:Int):=hkp;obtain⟨⟨wp,ap,rp,rfl,hrp⟩,hRB⟩:=id hR;simp only [pwA,seval,-iQ0,hkp,hkp',b2,b3,b4];refine zB9 (by omega) hwl fun kk a1 a2 a3 a4=>?_
 simp only [pwA,seval,-iQ0,b2];refine qY (n:=kk) soh (by omega) fun z h4 hz m4 so4=>?_
 have z0:=hz.1;have zl:=hz.lt (by omega)
 obtain⟨z,rfl⟩:=Int.eq_ofNat_of_zero_le z0;have km4:=km.mv hsA m4;obtain⟨kmG4,rA4⟩:=rdA km4;obtain⟨e1,e2,e3,e4⟩:=rd3 kmG4;simp only [pwA,seval,-iQ0,e2,e3,e4];refine zNT hR rfl hwl rfl (by omega) (by omega) fun vX hX=>?_
 have ex:=zJa (P:=P) (by omega) W.length z
 generalize digs P W.length z=x at *
 obtain⟨wx,ax,rfl⟩:=hX;have hX:FI (.fz wx ax x.length (pis x)) x:=⟨wx,ax,rfl⟩;simp only [pwA,seval,-iQ0];refine zJI (T:=A) (bytes:=24) km4 (zEX ps hsA m4) (by omega) (by omega) fun v' h6 k6 o6 p6=>?_
 have wk:IntKind.i64.wrap ((m:Int)-1)=((m-1:Nat):Int):=by rw [wrap64 (by omega) (by omega)];omega
 simp only [pwA,seval,-iQ0,wk];refine⟨m-1,by omega,m-1,v',xs++[x],_,rfl,by simp;omega,rfl,k6,?_,by rw [List.length_append];exact p6,hrows.snoc hX,fun y hy=>?_⟩
 ·obtain⟨a0,sd0,S⟩:=so4
  exact⟨a0,sd0,by rw [o6 _ hsA];exact S.obj,Nat.lt_of_lt_of_le hsA k6.next,S.fb,S.byt,S.le,S.sd⟩
 ·rcases List.mem_append.1 hy with e | e
  ·exact hxl y e
  ·rw [List.mem_singleton.1 e];exact ex
end Go.Proofs
namespace Go.Grp
end Go.Grp
namespace Go.Proofs
open Go.Ab Go.Lie Go.Grp
variable {p:Int} {n c:Nat} {W:List (List Int)} {B:List (List (List Int))} {u x m g:List (List Int)}
theorem zJj:∀{a b:List Nat},a.Pairwise (· < ·)→b.Pairwise (· < ·)→(∀x,x∈a↔x∈b)→a=b
 | [],[],_,_,_=>rfl
 | [],v::u',_,_,h=>by have:=(h v).2 (by simp);cases this
 | v::u,[],_,_,h=>by have:=(h v).1 (by simp);cases this
 | v::u,w::u',h1,h2,h=>by
  rw [List.pairwise_cons]at h1 h2
  have e:v=w:=by
   rcases List.mem_cons.1 ((h v).1 (by simp))with e|e
   ·exact e
   ·rcases List.mem_cons.1 ((h w).2 (by simp))with e2 | e2
    ·exact e2.symm
    ·have a1:=h1.1 _ e2
     have a2:=h2.1 _ e;omega
  subst e;rw [zJj h1.2 h2.2 fun x=>⟨fun hx=>?_,fun hx=>?_⟩]
  ·rcases List.mem_cons.1 ((h x).1 (List.mem_cons_of_mem _ hx))with e | e
   ·subst e;have:=h1.1 _ hx;omega
   ·exact e
  ·rcases List.mem_cons.1 ((h x).2 (List.mem_cons_of_mem _ hx))with e | e
   ·subst e;have:=h2.1 _ hx;omega
   ·exact e
abbrev rG (p:Int) (n:Nat) (W:List (List Int)) (B:List (List (List Int))) (u:List (List Int)):List Int→Prop:=GC (rO p n) (lgPs p n W B n) (lgCs p n W B n) u
theorem sg_E (z:Lz p n W B c) (hu:Z7 (rO p n) (lgPs p n W B n) (lgCs p n W B n) u):ESub p n W B (fun x=>El p n x∧rG p n W B u (vcG p n W B x)):=zOo z (GC.sub (lg_LG z).F hu.1)
theorem zO6 (z:Lz p n W B c) (hu:Z7 (rO p n) (lgPs p n W B n) (lgCs p n W B n) u) {x:List Int} (hx:El p n x):Gen p n W (u.map fun e=>ptG p n W B e n) (at_ x)↔rG p n W B u (vcG p n W B x):=by
 have o:=z.r.o;have h:=sg_E z hu;have hS:=h.vs z;have el:(rO p n).length=n:=by simp
 have eu:∀e∈u,El p n e:=fun e he=>(gS_el z).1 (hu.1 e he)
 have hm:∀l∈u.map (fun e=>ptG p n W B e n),El p n l∧vS p n W (fun x=>El p n x∧rG p n W B u (vcG p n W B x)) (at_ l):=fun l hl=>by
  obtain⟨e,he,rfl⟩:=List.mem_map.1 hl;exact⟨pt_el z e,(h.iff o (pt_el z e)).2 ⟨pt_el z e,by rw [vc_pt z (eu e he)];exact GC.mem he⟩⟩
 constructor
 ·intro hg
  exact((h.iff o hx).1 (zEw hS (fun l hl=>(hm l hl).2) hg)).2
 ·intro hg
  refine zH6 o hS hm (fun y hy hs hd=>?_) x hx ((h.iff o hx).2 ⟨hx,hg⟩)
  have hv:=((h.iff o hy).1 hs).2;have hd2:=zGZ z hy;obtain⟨v,hvu,e⟩:=hu.2.all _ hv (by rw [hd2.1,el];exact hd)
  have ev:=eu v hvu;have hp:=zGp z ev;refine⟨_,List.mem_map.2 ⟨v,hvu,rfl⟩,by rw [hp.1,e,hd2.1],?_⟩
  rw [hp.1,hp.2];exact(hu.2.one v hvu).2.2
theorem zK2 (z:Lz p n W B c) (hu:Z7 (rO p n) (lgPs p n W B n) (lgCs p n W B n) u) {x y:List Int} (hx:El p n x) (hy:El p n y) (gx:rG p n W B u (vcG p n W B x)) (gy:rG p n W B u (vcG p n W B y)):rG p n W B u (vcG p n W B (br p W B n x y)):=by
 have h:=sg_E z hu;have h0:=h.comm ⟨hx,gx⟩ ⟨hy,gy⟩;exact(h.br z hx hy h0 (h.comm h0 ⟨hx,gx⟩) (h.comm h0 ⟨hy,gy⟩)).2
theorem zMh (z:Lz p n W B c) (hu:Z7 (rO p n) (lgPs p n W B n) (lgCs p n W B n) u) (hm:Canon p n W (u.map fun e=>ptG p n W B e n) m):
  (∀x,El p n x→(Gen p n W m (at_ x)↔rG p n W B u (vcG p n W B x)))∧(∀x∈m,∀y∈m,Gen p n W m (at_ (br p W B n x y)))∧m.length=u.length∧
  (∀x,rG p n W B (m.map fun e=>vcG p n W B e) x↔rG p n W B u x):=by
 have o:=z.r.o;have F:=(lg_LG z).F;have el:(rO p n).length=n:=by simp
 have eu:∀e∈u,El p n e:=fun e he=>(gS_el z).1 (hu.1 e he)
 have em:=hm.els;have hg:∀x,El p n x→(Gen p n W m (at_ x)↔rG p n W B u (vcG p n W B x)):=fun x hx=>(hm.gen _).symm.trans (zO6 z hu hx)
 have hmem:∀x∈m,rG p n W B u (vcG p n W B x):=fun x hx=>(hg x (em x hx)).1 (zb hx)
 have hH:=GC.sub F hu.1;have dm:∀y,rG p n W B u y→dep y<n→∃v∈m,dep v=dep y:=fun y hy hd=>by
  have ey:El p n y:=(gS_el z).1 (hH.inS hy);have hp:=zGp z ey;obtain⟨v,hv,e⟩:=Q5 o hm.base (pt_el z y) ((hg _ (pt_el z y)).2 (by rw [vc_pt z ey];exact hy)) (by rw [hp.1];exact hd)
  exact⟨v,hv,by rw [e,hp.1]⟩
 refine⟨hg,fun x hx y hy=>(hg _ (br_el o z.r.q)).2 (zK2 z hu (em x hx) (em y hy) (hmem x hx) (hmem y hy)),?_,fun x=>⟨fun h=>h _ hH fun l hl=>?_,fun h=>?_⟩⟩
 ·have e:m.map dep=u.map dep:=by
   refine zJj (List.pairwise_map.2 hm.base.asc) (List.pairwise_map.2 hu.2.asc) fun d=>⟨fun h=>?_,fun h=>?_⟩
   ·obtain⟨v,hv,rfl⟩:=List.mem_map.1 h
    have lv:=hm.base.led v hv;have hd:=zGZ z (em v hv);obtain⟨w,hw,e⟩:=hu.2.all _ (hmem v hv) (by rw [hd.1,el];exact lv.2.1)
    exact List.mem_map.2 ⟨w,hw,by rw [e,hd.1]⟩
   ·obtain⟨v,hv,rfl⟩:=List.mem_map.1 h
    have lv:=hu.2.one v hv;obtain⟨w,hw,e⟩:=dm v (hu.2.mem v hv) (by rw [←el];exact lv.2.1)
    exact List.mem_map.2 ⟨w,hw,e⟩
  have:=congrArg List.length e
  simpa using this
 ·obtain⟨e,he,rfl⟩:=List.mem_map.1 hl
  exact hmem e he
 ·have hm':∀l∈m.map (fun e=>vcG p n W B e),gS (rO p n) l:=fun l hl=>by
   obtain⟨e,he,rfl⟩:=List.mem_map.1 hl;exact(gS_el z).2 (vc_el z (em e he))
  refine zKc (lg_LG z) hH (GC.sub F hm') (fun y hy hd=>?_) x h
  rw [el]at hd
  obtain⟨v,hv,e⟩:=dm y hy hd;have hd:=zGZ z (em v hv);refine⟨_,GC.mem (List.mem_map.2 ⟨v,hv,rfl⟩),hmem v hv,by rw [hd.1,e],?_⟩
  rw [hd.1,hd.2];exact(hm.base.led v hv).2.2
end Go.Proofs
namespace Go.Proofs
open Go.Ab Go.Lie
variable {σ:PHeap} {K:PV→PHeap→Prop} {p:Int} {W:List (List Int)} {B:List (List (List Int))} {vC:PV} {bs x y z:List Int} {k:Int}
structure RoI (H h:PHeap) (sD:Nat) (vC:PV) (bs:List Int) (p:Int) (n i:Nat) (v:PV) (xs:List Int):Prop where
 km:KM H sD h
 di:Di h sD vC bs
 el:El p i xs
 va:(i<n∧PSl H.next 1 h v i (pis xs))∨(i=n∧FI v xs)
theorem RoI.fz {H h:PHeap} {sD i n:Nat} {vC v:PV} {bs xs:List Int} {p:Int} (km:KM H sD h) (di:Di h sD vC bs) (hs:sD<H.next) (el:El p i xs) (hi:i≤n) (a:PSl H.next 1 h v i (pis xs)) {I:List PV→PHeap→Prop} {us:List PV} {pre post:List PV} (hus:us=pre++v::post)
  (hb:(∀t o cs,sbs t o cs pre=pre)∧∀t o cs,sbs t o cs post=post) (k:∀v' h',RoI H h' sD vC bs p n i v' xs→I (pre++v'::post) h'):GL I us h:=by
 subst hus
 by_cases e:i=n
 ·obtain⟨t,cap,rfl,q1,q2,q3,q4,q5⟩:=a
  refine .fz t (pis xs) q2 (zN _ _) fun o=>?_
  have e1:sbs t o (pis xs) (pre++PV.sl t 0 i cap::post)=pre++PV.fz true (.sl o 0 i cap) i (pis xs)::post:=by
   rw [zBs,hb.1];simp only [sbs,sb,q1.ok,and_self,if_true,hb.2]
  rw [e1];have hl:=el.1;refine .here (k _ _ ⟨km.kill q4,di.same (by rw [zCg,if_neg (by omega)]) di.lt,el,.inr ⟨e,true,.sl o 0 i cap,by rw [hl]⟩⟩)
 ·exact .here (k _ _ ⟨km,di,el,.inl ⟨by omega,a⟩⟩)
end Go.Proofs
namespace Go.Proofs
open Go.Ab Go.Lie
variable {σ:PHeap} {K:PV→PHeap→Prop} {p:Int} {n:Nat} {W:List (List Int)} {B:List (List (List Int))} {vP vB vL vU vV vX:PV} {s:Nat} {u v gens c d:List (List Int)} {id:Prop}
theorem zIA {x:List Int} (o:OkW p n W) (hb:Base p n W u) (ex:El p n x):isZ (redL p W u x)↔Gen p n W u (at_ x):=
 (⟨fun h j=>ZH h j,fun h=>zMC h⟩:isZ (redL p W u x)↔∀j,at_ (redL p W u x) j=0).trans (zJG o hb ex)
theorem zMZ {x:List Int} (hR:IsR vP vB W B) (szr:SzR W B) (hU:FII vU u) (hX:FI vX x) (hl:isLie p W B) (sp:ZT p W u) (ex:El p W.length x)
  (hk:∀t:Bool,(t=true↔Gen p W.length W u (at_ x))→K (.tup [.bool t,.int .i64 0]) σ):zA Tryz.prog 33 [.agg [.int .i64 p,vP,vB],vU,vX] σ K:=by
 have h1:=hR.P.one;have h2:=hR.B.one;have o:=hl.1.w;have hn6:=o.le;have hul:=sp.2.len;have hb:=sp.2.base;have hxl:=ex.1;obtain⟨wx,ax,rfl⟩:=hX;refine zA.gh ?_;refine zD mix Tryz.func33 ?_
 conv=>arg 2;cbv
 refine zF rfl ?_;simp only [pwA,seval,-iQ0,h1,h2,hU.one,hU.cells];refine zA.frz (s:=σ.next+1) (cs:=[vU]) (by simp only [pwA,seval,-iQ0]) ⟨hU.bel 0,trivial⟩ fun o1=>?_
 have hkp:Keep σ (((σ.new [.int .i64 p,vP,vB]).new [vU]).kill (σ.next+1)):=((zC σ _).new _).kill (by omega)
 have hp2:PtrR (((σ.new [.int .i64 p,vP,vB]).new [vU]).kill (σ.next+1)) σ.next p vP vB:=⟨by simp only [pwA,seval,-iQ0],by simp only [pwA,seval,-iQ0];omega⟩
 generalize ((σ.new [.int .i64 p,vP,vB]).new [vU]).kill (σ.next+1)=H at *
 simp only [sbs,sb,capOK,and_self,if_true,decide_true,Nat.le_refl];refine Q9 (us:=[u]) hp2 hR szr ((All2.nil FII).snoc hU) (by simp) (by simp) (fun x hx=>by rw [List.mem_singleton.1 hx];exact zN2 o sp.1 (by omega)) fun t ht=>?_
 obtain rfl:t=true:=ht.2 ⟨hl,fun x hx=>by rw [List.mem_singleton.1 hx];exact sp⟩
 have hv:isVec x p W.length:=zCB.2 ex;simp only [pwA,seval,-iQ0];refine QC hp2 hR.P rfl (by omega) hl.1.1 ?_
 simp only [pwA,seval,-iQ0,hv,decide_true];refine zAs hp2 hR.P o hU (fun v hv=>⟨(hb.led v hv).1,(hb.led v hv).2.1⟩) (by omega) ex rfl fun v1=>?_
 have hrl:=(Zh o hb.els ex).1;simp only [pwA,seval,-iQ0];refine ZX hrl.symm (by omega) ?_
 simp only [pwA,seval,-iQ0];exact Gh.fin0 hkp ⟨trivial,trivial,trivial⟩ (hk _ (by rw [decide_eq_true_eq];exact zIA o hb ex))
end Go.Proofs
