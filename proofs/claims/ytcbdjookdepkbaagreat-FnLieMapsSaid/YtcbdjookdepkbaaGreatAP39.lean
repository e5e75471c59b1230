/- Rows that the call owns, read, turned round and written. -/
import Derived.Test.YtcbdjookdepkbaaGreatAP38
import Derived.Test.YtcbdjookdepkbaaGreatAP31
import Derived.Test.YtcbdjookdepkbaaGreatAP33
import Derived.Test.YtcbdjookdepkbaaGreatAP29
import Derived.Test.YtcbdjookdepkbaaGreatAAbPz
import Derived.Test.YtcbdjookdepkbaaGreatAP35
import Derived.Test.YtcbdjookdepkbaaGreatAAbPm
import Derived.Test.YtcbdjookdepkbaaGreatAAbPq
import Derived.Test.YtcbdjookdepkbaaGreatAAbPa
import Derived.Test.YtcbdjookdepkbaaGreatAAbPg
import Derived.Test.YtcbdjookdepkbaaGreatAAbPw
import Derived.Test.YtcbdjookdepkbaaGreatAAbPy
import Derived.Lib.Builder
import Derived.WideMake
import Derived.MapKept
import Derived.Maps.RangeRun
import Derived.Deep.AppendLies
import Derived.WalkKit
import Derived.Deep.LoopGhost
import Derived.Lib.Walk
import Derived.Sort.WalkB12
import Derived.Lib.SlicesMore
import Derived.RegionTactic
import Derived.ChangeAlike
import Derived.Laws.OwnMore
open Int renaming reduceNatCast'→iQ0
set_option maxRecDepth 100000
set_option linter.unusedSimpArgs false
set_option linter.unusedVariables false
set_option linter.unusedSectionVars false
namespace Go.Proofs
open Go.Ab Go.Lie
variable {σ σ0 h h':PHeap} {K:PV→PHeap→Prop} {vC vP vB:PV} {bs:List Int} {s b n r0:Nat} {p:Int} {sP sB:Nat} {capP capB:Cap} {W:List (List Int)} {B:List (List (List Int))}
theorem DrR.ok (hp:isP p) (hF:OkF p n W B):DrR p W B:=⟨by have:=hp.bd;omega,by rw [hF.w.len];exact hF.w.le,by rw [hF.b.len];exact hF.w.le,hF.sm⟩
theorem zId (so:So σ s vC bs) (hk:∀p n vP vB W B h,isP p→ipow p n≤729→OkF p n W B→IsR vP vB W B→Mv σ s h→So h s vC bs→K (.agg [.int .i64 p,vP,vB]) h):zA Tryz.prog 121 [.ptr s 0] σ K:=
 zA.gh (zDe so fun p n sP capP cs sB capB ls h W B hp hn1 hpow hF km so2 rs=>Gh.km km so2 so.lt fun σ' m' so' kp=>RS.fin (rs.low (b':=σ'.next) (by rw [m'.next];exact Nat.le_refl _)) kp (Nat.le_refl _) fun vP vB hR=>hk p n vP vB W B σ' hp hpow hF hR m' so')
theorem zIZ (so:So σ s vC bs) (hk:∀p n vP vB W B h,isP p→ipow p n≤729→OkF p n W B→IsR vP vB W B→Mv σ s h→So h s vC bs→K (.agg [.int .i64 p,vP,vB]) h):zA Tryz.prog 102 [.ptr s 0] σ K:=by
 have hsl:=so.lt;refine zA.gh ?_;generalize hT:σ.new [.int .i64 0,.fz true .nils 0 [],.fz true .nils 0 []]=T;have hTn:T.next=σ.next+1:=by rw [←hT];rfl
 have hkT:Keep σ T:=by rw [←hT];exact zC σ _
 have soT:So T s vC bs:=so.keep hkT;have hsT:s<T.next:=soT.lt;have obT:T.obj σ.next=some [.int .i64 0,.fz true .nils 0 [],.fz true .nils 0 []]:=by rw [←hT];simp only [pwA,seval,-iQ0]
 have hres:=fun {g:PHeap} {u0 u1 u2:PV} (k:KM T s g) (z0:u0.one=true) (z1:u1.one=true) (z2:u2.one=true)=>res3 z0 z1 z2 ((k.obj (by omega) (by omega)).trans obT)
 refine zD mix Tryz.func102 ?_;simp only [pwA,seval,-iQ0];rw [hT];refine zId soT fun p1 n1 vP1 vB1 W1 B1 h1 hp1 hpw1 hF1 hR1 m1 so1=>?_
 have km1:=soT.km.mv hsT m1;have g1:=hR1.P.one;have g2:=hR1.B.one;have h01:=km1.next;have km1':KM T s (h1.new [.int .i64 p1,vP1,vB1]):=km1.new _;have so1':So (h1.new [.int .i64 p1,vP1,vB1]) s vC bs:=so1.keep (zC _ _);have ob1:(h1.new [.int .i64 p1,vP1,vB1]).obj h1.next=some [.int .i64 p1,vP1,vB1]:=by rw [zP,if_pos rfl]
 have lt1:h1.next<(h1.new [.int .i64 p1,vP1,vB1]).next:=Nat.lt_succ_self _;simp only [pwA,seval,-iQ0,g1,g2];generalize h1.new [PV.int .i64 p1,vP1,vB1]=g1_ at *
 have hr0:T.next≤h1.next:=h01;generalize h1.next=r0 at *
 refine zLG hR1 hF1.w hF1.b hp1 fun t ht=>?_
 cases t with
 | true=>
  have x0:g1_.rd r0 0 3=some [.int .i64 p1,vP1,vB1]:=by rw [zf ob1];rfl
  obtain⟨x1,x2⟩:=hres (u0:=.int .i64 p1) (u1:=vP1) (u2:=vB1) km1' rfl g1 g2;simp only [pwA,seval,-iQ0,x0,x1,x2];refine Gh.km (((so.kmK hkT).trans hsl km1').set (Nat.le_refl _) _) (so1'.set (by omega) _) hsl fun σ' m' so' kp=>?_
  exact Gh.fin0 kp ⟨trivial,hR1.P.bel _,hR1.B.bel _,trivial⟩ (hk p1 n1 vP1 vB1 W1 B1 σ' hp1 hpw1 hF1 hR1 m' so')
 | false=>
 simp only [pwA,seval,-iQ0];refine ze so1' (by decide) fun x h2 hx m2 so2=>?_
 have km2:=km1'.mv hsT m2;have x0:=hx.1;have x2:=hx.lt (by decide)
 obtain⟨n,hn3,hn4,wn⟩:∃n:Nat,3≤n∧n≤4∧IntKind.i64.wrap (3+x)=(n:Int):=⟨(3+x).toNat,by omega,by omega,by rw [wrap64 (by omega) (by omega)];omega⟩
 simp only [pwA,seval,-iQ0,wn];refine ze (so2.keep (zC _ _)) (by decide) fun y h3 hy m3 so3=>?_
 have km3:=(km2.new [.int .i64 3,.int .i64 5]).mv hsT m3;have y0:=hy.1;have y2:=hy.lt (by decide)
 have h02:=km2.next;have ob3:h3.obj h2.next=some (pis [3,5]):=by rw [m3.obj (by omega),zP,if_pos rfl];rfl
 obtain⟨k,rfl⟩:∃k:Nat,y=k:=⟨y.toNat,by omega⟩
 have hk2:k<2:=by omega
 obtain⟨p,hp,hp35,hr⟩:∃p:Int,isP p∧(p=3∨p=5)∧h3.rd1 h2.next k=some (.int .i64 p):=by
  have e:k=0∨k=1:=by omega
  rcases e with rfl|rfl
  ·exact⟨3,.inr (.inl rfl),.inl rfl,by rw [zG ob3];rfl⟩
  ·exact⟨5,.inr (.inr (.inl rfl)),.inr rfl,by rw [zG ob3];rfl⟩
 have r0h2:r0<h2.next:=by rw [m2.next];exact lt1
 have ob3':h3.obj r0=some [.int .i64 p1,vP1,vB1]:=by rw [m3.obj (by omega),zP,if_neg (by omega),m2.obj (by omega)];exact ob1
 have lt3:r0<h3.next:=by rw [m3.next];show r0<h2.next+1;omega
 have hn1:1≤n:=by omega
 have hn6:n≤6:=by omega
 have hpow0:ipow p n≤729:=by
  have en:n=3∨n=4:=by omega
  rcases hp35 with rfl|rfl<;>rcases en with rfl|rfl<;>decide
 have hpb:=hp.bd;have hp27:2≤p∧p≤7:=by omega
 simp only [pwA,seval,-iQ0,hr,hk2];refine zBH hn1 hn6 fun sP capP cs sB capB ls h5 k5 rs5=>?_
 have so5:=so3.keep k5;have km5:=km3.keep k5;have ob5:h5.obj r0=some [.int .i64 p1,vP1,vB1]:=by rw [k5.obj r0 lt3];exact ob3'
 have lt5:r0<h5.next:=Nat.lt_of_lt_of_le lt3 k5.next;have h03:=km3.next;have w5:h5.wr r0 0 [.int .i64 p,.sl sP 0 n capP,.sl sB 0 n capB]=some (h5.set r0 [.int .i64 p,.sl sP 0 n capP,.sl sB 0 n capB]):=by rw [qH ob5,if_pos ⟨by simp,by rfl⟩];rfl
 have okp0:okp p:=hpb;have gs:GS E0 FI (OkF p n) T (h5.set r0 [.int .i64 p,.sl sP 0 n capP,.sl sB 0 n capB]) s vC bs r0 p n sP capP sB capB:=
  ⟨km5.set hr0 _,so5.set (by omega) _,hsT,by rw [zH,if_pos rfl],⟨hr0,lt5⟩,⟨cs,ls,_,_,(rs5.low h03).move (fun t ht=>by rw [zH,if_neg (by have:=(rs5.lt ht).1;omega)]) (Nat.le_refl _),OkF.zero okp0 hn6,fun t ht e=>by have:=(rs5.lt ht).1;omega,fun u x e=>e.elim⟩,fun u x e=>e.elim⟩
 clear rs5;have wn1:IntKind.i64.wrap ((n:Int)-1)=((n-1:Nat):Int):=by rw [wrap64 (by omega) (by omega)];omega
 have fin:∀{g:PHeap},GS E0 FI (OkF p n) T g s vC bs r0 p n sP capP sB capB→g.rd r0 0 3=some [.int .i64 p,.sl sP 0 n capP,.sl sB 0 n capB]∧g.wr σ.next 0 [.int .i64 p,.sl sP 0 n capP,.sl sB 0 n capB]=some (g.set σ.next [.int .i64 p,.sl sP 0 n capP,.sl sB 0 n capB])
   ∧(g.set σ.next [.int .i64 p,.sl sP 0 n capP,.sl sB 0 n capB]).rd σ.next 0 3=some [.int .i64 p,.sl sP 0 n capP,.sl sB 0 n capB]∧Gh σ K (.agg [.int .i64 p,.sl sP 0 n capP,.sl sB 0 n capB]) (g.set σ.next [.int .i64 p,.sl sP 0 n capP,.sl sB 0 n capB]):=fun {g} a=>by
  obtain⟨x1,x2⟩:=hres (u0:=.int .i64 p) (u1:=.sl sP 0 n capP) (u2:=.sl sB 0 n capB) a.km rfl rfl rfl;refine⟨a.rd.1,x1,x2,?_⟩;obtain⟨cs,ls,W,B,rs,f,ne,_⟩:=a.rs;refine Gh.km (((so.kmK hkT).trans hsl a.km).set (Nat.le_refl _) _) (a.so.set (by omega) _) hsl fun σ' m' so' kp=>?_
  refine RS.fin ((rs.low (b':=σ'.next) (by rw [m'.next];omega)).move (fun t ht=>?_) (Nat.le_refl _)) kp (Nat.le_refl _) fun vP vB hR=>hk p n vP vB W B σ' hp hpow0 f hR m' so'
  have:=(rs.lt ht).1
  rw [zH,if_neg (by omega)]
 have rowB:∀{W:List (List Int)} {B:List (List (List Int))} {i:Nat},OkF p n W B→i<n→(B.getD i []).length=n-1-i:=fun {W B i} q hi=>by
  have h1:i<B.length:=by rw [q.b.len];exact hi
  rw [zI h1];exact q.b.row i h1
 have hle:El p n (unitL n (n-1)):=qV okp0 (by omega)
 have i0n:(0:Int)<(n:Int):=by omega
 have i1n:(1:Int)<(n:Int):=by omega
 have i0m:(0:Int)<((n-1-0:Nat):Int):=by omega
 have i1m:(1:Int)<((n-1-0:Nat):Int):=by omega
 have i0q:(0:Int)<((n-1-1:Nat):Int):=by omega
 simp only [pwA,seval,-iQ0,w5];clear w5;generalize h5.set r0 [PV.int .i64 p,.sl sP 0 n capP,.sl sB 0 n capB]=g5 at *
 obtain⟨f3,f0,f1,f2⟩:=gs.rd;simp only [pwA,seval,-iQ0,f3,wn1];refine Zq (vP:=.sl sP 0 n capP) (vB:=.sl sB 0 n capB) (n:=n) (k:=n-1) rfl rfl rfl (by omega) (by omega) fun vl hlv=>?_
 obtain⟨t6,c6,rB⟩:=gs.rdB (i:=0) (by omega) (fun W B q=>rowB q (by omega))
 simp only [pwA,seval,-iQ0,f3,f2,rB,i0n];refine Zq (vP:=.sl sP 0 n capP) (vB:=.sl sB 0 n capB) (n:=n) (k:=2) rfl rfl rfl (by omega) (by omega) fun v6 hv6=>?_
 obtain⟨g6,w6,gs6,_⟩:=gs.putB (F':=OkF p n) (i:=0) (k:=0) (by omega) rB (by omega) (fun _ _ h=>h) hv6 hv6.one (fun W B _ q=>q.setB (by omega) (qV q.w.pr (by omega)) (fun j hj=>by rw [zy (by omega),if_neg (by omega)]))
 simp only [pwA,seval,-iQ0,f2,rB,w6,i0n,i0m,hv6.cells];clear f3 f0 f1 f2 rB w6 gs
 by_cases hn4':n=4
 rotate_left
 ·as_aux_lemma=>
  have hn4'':¬(n:Int)=4:=by omega
  simp only [pwA,seval,-iQ0,hn4'',decide_false];obtain⟨f3,f0,f1,f2⟩:=gs6.rd;simp only [pwA,seval,-iQ0,f3,f1,wn1];refine qF (vP:=.sl sP 0 n capP) (vB:=.sl sB 0 n capB) (n:=n) (k:=n-1) gs6.so hp27 rfl rfl rfl (by omega) (by omega) fun v9 x9 k9 hx9 hz9 hv9 m9 so9=>?_
  have gt9:=gs6.mv m9 so9;obtain⟨p3,p0,p1,p2⟩:=gt9.rd;obtain⟨h9,w9,gs9⟩:=gt9.putP (F':=OkF p n) (i:=1) (w:=x9) (by omega) hv9 (fun W B q=>q.setP hx9 (fun j hj=>hz9 j (by omega)))
  simp only [pwA,seval,-iQ0,p1,w9,i1n,hv9.cells];obtain⟨e1,e2,e3,e4⟩:=fin gs9;simp only [pwA,seval,-iQ0,e1,e2,e3];exact e4
 have hd4:decide ((n:Int)=4)=true:=decide_eq_true (by omega)
 by_cases hp5:p=5
 rotate_left
 ·as_aux_lemma=>
  simp only [pwA,seval,-iQ0,hd4,hp5,decide_true,decide_false];obtain⟨f3,f0,f1,f2⟩:=gs6.rd;simp only [pwA,seval,-iQ0,f3,f1,wn1];refine qF (vP:=.sl sP 0 n capP) (vB:=.sl sB 0 n capB) (n:=n) (k:=n-1) gs6.so hp27 rfl rfl rfl (by omega) (by omega) fun v9 x9 k9 hx9 hz9 hv9 m9 so9=>?_
  have gt9:=gs6.mv m9 so9;obtain⟨p3,p0,p1,p2⟩:=gt9.rd;obtain⟨h9,w9,gs9⟩:=gt9.putP (F':=OkF p n) (i:=1) (w:=x9) (by omega) hv9 (fun W B q=>q.setP hx9 (fun j hj=>hz9 j (by omega)))
  simp only [pwA,seval,-iQ0,p1,w9,i1n,hv9.cells];obtain⟨e1,e2,e3,e4⟩:=fin gs9;simp only [pwA,seval,-iQ0,e1,e2,e3];exact e4
 obtain⟨f3,f0,f1,f2⟩:=gs6.rd;obtain⟨t7,c7,rB⟩:=gs6.rdB (i:=0) (by omega) (fun W B q=>rowB q (by omega))
 obtain⟨g7,w7,gs7,_⟩:=gs6.putB (F':=OkF p n) (i:=0) (k:=1) (by omega) rB (by omega) (fun _ _ h=>h) hlv hlv.one (fun W B _ q=>q.setB (by omega) hle (fun j hj=>by rw [zy (by omega),if_neg (by omega)]))
 have hp5':decide (p=5)=true:=decide_eq_true hp5;simp only [pwA,seval,-iQ0,hd4,hp5',decide_true,f2,rB,w7,i0n,i1m,hlv.cells];clear f3 f0 f1 f2 rB w7;refine ze gs7.so (by decide) fun z g8 hz8 m8 so8=>?_
 have gs8:=gs7.mv m8 so8
 by_cases hz0:z=0
 ·as_aux_lemma=>
  obtain⟨f3,f0,f1,f2⟩:=gs8.rd;obtain⟨t,c,rB⟩:=gs8.rdB (i:=1) (by omega) (fun W B q=>rowB q (by omega))
  have hsB:=gs8.sBb;simp only [pwA,seval,-iQ0,hz0,decide_true,f3,f2,rB,i1n];refine qF (vP:=.sl sP 0 n capP) (vB:=.sl sB 0 n capB) (n:=n) (k:=3) gs8.so hp27 rfl rfl rfl (by omega) (by omega) fun v x g4 hx hz hv m4 so4=>?_
  have gs4:=gs8.mv m4 so4;obtain⟨p3,p0,p1,p2⟩:=gs4.rd;have rB':g4.rd1 sB 1=some (.sl t 0 (n-1-1) c):=by rw [m4.rd1 (by omega)];exact rB
  obtain⟨gb,w5,gsb,_⟩:=gs4.putB (F':=OkF p n) (i:=1) (k:=0) (w:=x) (by omega) rB' (by omega) (fun _ _ h=>h) hv hv.one (fun W B hB q=>q.setB (by omega) hx (fun j hj=>hz j (by omega)))
  simp only [pwA,seval,-iQ0,p2,rB',w5,hv.cells,i1n,i0q];clear f3 f0 f1 f2 rB p3 p0 p1 p2 rB' w5;obtain⟨f3,f0,f1,f2⟩:=gsb.rd;simp only [pwA,seval,-iQ0,f3,f1];refine qF (vP:=.sl sP 0 n capP) (vB:=.sl sB 0 n capB) (n:=n) (k:=3) gsb.so hp27 rfl rfl rfl (by omega) (by omega) fun va xa ka hxa hza hva ma soa=>?_
  have gta:=gsb.mv ma soa;obtain⟨p3,p0,p1,p2⟩:=gta.rd;obtain⟨ha,wa,gsa⟩:=gta.putP (F':=OkF p n) (i:=0) (w:=xa) (by omega) hva (fun W B q=>q.setP hxa (fun j hj=>hza j (by omega)))
  simp only [pwA,seval,-iQ0,p1,wa,i0n,hva.cells];clear f3 f0 f1 f2 p3 p0 p1 p2 wa;obtain⟨f3,f0,f1,f2⟩:=gsa.rd;simp only [pwA,seval,-iQ0,f3,f1,wn1];refine qF (vP:=.sl sP 0 n capP) (vB:=.sl sB 0 n capB) (n:=n) (k:=n-1) gsa.so hp27 rfl rfl rfl (by omega) (by omega) fun v9 x9 k9 hx9 hz9 hv9 m9 so9=>?_
  have gt9:=gsa.mv m9 so9;obtain⟨p3,p0,p1,p2⟩:=gt9.rd;obtain⟨h9,w9,gs9⟩:=gt9.putP (F':=OkF p n) (i:=1) (w:=x9) (by omega) hv9 (fun W B q=>q.setP hx9 (fun j hj=>hz9 j (by omega)))
  simp only [pwA,seval,-iQ0,p1,w9,i1n,hv9.cells];obtain⟨e1,e2,e3,e4⟩:=fin gs9;simp only [pwA,seval,-iQ0,e1,e2,e3];exact e4
 ·as_aux_lemma=>
  simp only [pwA,seval,-iQ0,hz0,decide_false];obtain⟨f3,f0,f1,f2⟩:=gs8.rd;simp only [pwA,seval,-iQ0,f3,f1];refine qF (vP:=.sl sP 0 n capP) (vB:=.sl sB 0 n capB) (n:=n) (k:=3) gs8.so hp27 rfl rfl rfl (by omega) (by omega) fun va xa ka hxa hza hva ma soa=>?_
  have gta:=gs8.mv ma soa;obtain⟨p3,p0,p1,p2⟩:=gta.rd;obtain⟨ha,wa,gsa⟩:=gta.putP (F':=OkF p n) (i:=0) (w:=xa) (by omega) hva (fun W B q=>q.setP hxa (fun j hj=>hza j (by omega)))
  simp only [pwA,seval,-iQ0,p1,wa,i0n,hva.cells];clear f3 f0 f1 f2 p3 p0 p1 p2 wa;obtain⟨f3,f0,f1,f2⟩:=gsa.rd;simp only [pwA,seval,-iQ0,f3,f1,wn1];refine qF (vP:=.sl sP 0 n capP) (vB:=.sl sB 0 n capB) (n:=n) (k:=n-1) gsa.so hp27 rfl rfl rfl (by omega) (by omega) fun v9 x9 k9 hx9 hz9 hv9 m9 so9=>?_
  have gt9:=gsa.mv m9 so9;obtain⟨p3,p0,p1,p2⟩:=gt9.rd;obtain⟨h9,w9,gs9⟩:=gt9.putP (F':=OkF p n) (i:=1) (w:=x9) (by omega) hv9 (fun W B q=>q.setP hx9 (fun j hj=>hz9 j (by omega)))
  simp only [pwA,seval,-iQ0,p1,w9,i1n,hv9.cells];obtain⟨e1,e2,e3,e4⟩:=fin gs9;simp only [pwA,seval,-iQ0,e1,e2,e3];exact e4
theorem zIa (so:So σ s vC bs) (hk:∀p vP vB W B h,DrR p W B→IsR vP vB W B→Mv σ s h→So h s vC bs→K (.agg [.int .i64 p,vP,vB]) h):zA Tryz.prog 102 [.ptr s 0] σ K:=
 zIZ so fun p n vP vB W B h hp _ hF hR m so'=>hk p vP vB W B h (DrR.ok hp hF) hR m so'
theorem zIb (so:So σ s vC bs) (hk:∀p vP vB W B h,DrR p W B→IsR vP vB W B→Mv σ s h→So h s vC bs→K (.agg [.int .i64 p,vP,vB]) h):zA Tryz.prog 75 [.ptr s 0] σ K:=by
 have hsl:=so.lt;refine zA.gh ?_;generalize hT:σ.new [.int .i64 0,.fz true .nils 0 [],.fz true .nils 0 []]=T;have hTn:T.next=σ.next+1:=by rw [←hT];rfl
 have hkT:Keep σ T:=by rw [←hT];exact zC σ _
 have soT:So T s vC bs:=so.keep hkT;have hsT:s<T.next:=soT.lt;have obT:T.obj σ.next=some [.int .i64 0,.fz true .nils 0 [],.fz true .nils 0 []]:=by rw [←hT];simp only [pwA,seval,-iQ0]
 have hres:=fun {g:PHeap} {u0 u1 u2:PV} (k:KM T s g) (z0:u0.one=true) (z1:u1.one=true) (z2:u2.one=true)=>res3 z0 z1 z2 ((k.obj (by omega) (by omega)).trans obT)
 have fin:∀{g:PHeap} {p:Int} {vP vB:PV} {W:List (List Int)} {B:List (List (List Int))},DrR p W B→IsR vP vB W B→KM T s g→So g s vC bs→Gh σ K (.agg [.int .i64 p,vP,vB]) (g.set σ.next [.int .i64 p,vP,vB]):=fun {g p vP vB W B} d hR km so1=>by
  refine Gh.km (((so.kmK hkT).trans hsl km).set (Nat.le_refl _) _) (so1.set (by omega) _) hsl fun σ' m' so' kp=>?_
  exact Gh.fin0 kp ⟨trivial,hR.P.bel _,hR.B.bel _,trivial⟩ (hk p vP vB W B σ' d hR m' so')
 refine zD mix Tryz.func75 ?_;simp only [pwA,seval,-iQ0];rw [hT];refine ze soT (by decide) fun x h1 hx m1 so1=>?_
 have km1:=soT.km.mv hsT m1
 by_cases hx0:x=0
 ·simp only [pwA,seval,-iQ0,hx0,decide_true]
  refine zIe so1 fun p vP vB W B h2 d hR m2 so2=>?_
  have km2:=km1.mv hsT m2;have g1:=hR.P.one;have g2:=hR.B.one;obtain⟨x1,x2⟩:=hres (u0:=.int .i64 p) (u1:=vP) (u2:=vB) km2 rfl g1 g2;simp only [pwA,seval,-iQ0,g1,g2,x1,x2];exact fin d hR km2 so2
 ·simp only [pwA,seval,-iQ0,hx0,decide_false]
  refine zIa so1 fun p vP vB W B h2 d hR m2 so2=>?_
  have km2:=km1.mv hsT m2;have g1:=hR.P.one;have g2:=hR.B.one;obtain⟨x1,x2⟩:=hres (u0:=.int .i64 p) (u1:=vP) (u2:=vB) km2 rfl g1 g2;simp only [pwA,seval,-iQ0,g1,g2,x1,x2];exact fin d hR km2 so2
end Go.Proofs
namespace Go.Proofs
open Go.Ab Go.Lie
variable {σ σ0 h h':PHeap} {K:PV→PHeap→Prop} {vC vP vB:PV} {bs:List Int} {s b n r0:Nat} {p:Int} {W:List (List Int)} {B:List (List (List Int))}
theorem KM.keepOf (k:KM σ s h) (hk:Keep σ0 σ) (hs:σ0.next≤s):Keep σ0 h:=by
 obtain⟨σ',⟨c0,c1,h0,h1,rfl⟩,q⟩:=k;exact(hk.set hs _).trans q
end Go.Proofs
namespace Go.Proofs
open Go.Ab Go.Lie
variable {σ σ0 h h':PHeap} {K:PV→PHeap→Prop} {vC vP vB vx vy:PV} {bs x y:List Int} {s b n r0:Nat} {p:Int} {W:List (List Int)} {B:List (List (List Int))}
theorem zCY (hx:FI vx x) (hy:FI vy y) (hl:x.length≤1048576) (hk:∀t:Bool,(t=true↔x=y)→K (.bool t) σ):zA Tryz.prog 27 [vx,vy] σ K:=by
 obtain⟨wx,ax,rfl⟩:=hx;obtain⟨wy,ay,rfl⟩:=hy;refine zD mix Tryz.func27 ?_;simp only [pwA,seval,-iQ0]
 by_cases hxy:x.length=y.length
 rotate_left
 ·have hne:¬(x.length:Int)=(y.length:Int):=by omega
  simp only [pwA,seval,-iQ0,hne];exact hk false ⟨fun h=>(by cases h),fun h=>absurd (by rw [h]) hxy⟩
 have heq:(x.length:Int)=(y.length:Int):=by omega
 simp only [pwA,seval,-iQ0,heq];refine zF (fun m us g=>∃i:Nat,i≤y.length∧m=y.length-i∧us=[.fz wx ax x.length (pis x),.fz wy ay y.length (pis y),.int .i64 i]∧g=σ∧∀j,j<i→x[j]? = y[j]?) y.length ⟨0,by omega,by omega,rfl,rfl,fun j hj=>absurd hj (Nat.not_lt_zero _)⟩ ?_
 rintro m us g ⟨i,hi,rfl,rfl,rfl,he⟩
 simp only [pwA,seval,-iQ0,heq];refine iteI (fun hlt=>?_) fun hge=>?_
 rotate_left
 ·refine hk true ⟨fun _=>List.ext_getElem? fun j=>?_,fun _=>rfl⟩
  rcases Nat.lt_or_ge j i with e|e
  ·exact he j e
  ·rw [List.getElem?_eq_none (by omega),List.getElem?_eq_none (by omega)]
 have hltx:i<x.length:=by omega
 have hlty:i<y.length:=by omega
 have wi1:IntKind.i64.wrap ((i:Int)+1)=((i+1:Nat):Int):=wrapS hlty (by omega)
 simp only [pwA,seval,-iQ0,pisAt hltx,pisAt hlty,hltx,hlty,wi1];refine iteI (fun hv=>?_) fun hv=>?_
 ·refine⟨_,by omega,i+1,by omega,rfl,rfl,fun j hj=>?_⟩
  rcases Nat.lt_or_ge j i with e|e
  ·exact he j e
  ·obtain rfl:j=i:=by omega
   rw [List.getElem?_eq_getElem hltx,List.getElem?_eq_getElem hlty,←at_eq hltx,←at_eq hlty,hv]
 ·refine hk false ⟨fun h=>(by cases h),fun h=>absurd ?_ hv⟩
  rw [h]
theorem zM9 (hb:FB vC bs) (hk:∀t:Bool,(t=true↔4096<bs.length)→K (.bool t) σ):zA Tryz.prog 4 [vC] σ K:=by
 obtain⟨w,a,rfl⟩:=hb;refine zD mix Tryz.func4 ?_;simp only [pwA,seval,-iQ0];refine hk _ ?_;rw [decide_eq_true_eq];omega
theorem zMy {k m:Int} (hR:IsR vP vB W B) (o:OkW p n W) (ex:El p n x) (ey:El p n y) (hx:FI vx x) (hy:FI vy y) (hkb:-1000000000≤k∧k≤1000000000) (hm:-1000000000≤m∧m≤1000000000) (hk:∀v,FI v (norm p W (lmix k x m y))→K v σ):zA Tryz.prog 41 [.agg [.int .i64 p,vP,vB],.int .i64 k,vx,.int .i64 m,vy] σ K:=by
 obtain⟨w,a,rfl⟩:=hx;obtain⟨w',a',rfl⟩:=hy;have hl:=(zO o ex ey (k:=k) (m:=m)).1;exact qm hR o ex ey rfl rfl hkb hm fun v=>hk _ ⟨true,v,by rw [hl]⟩
end Go.Proofs
namespace Go.Grp
end Go.Grp
namespace Go.Proofs
open Go.Ab Go.Lie Go.Grp
variable {σ:PHeap} {K:PV→PHeap→Prop} {O:List Int} {P:List (List Int)} {C:List (List (List Int))} {vO vP vC vx vy vB:PV} {x y:List Int} {p:Int} {n:Nat} {W:List (List Int)} {B:List (List (List Int))} {sp s:Nat}
def OrdL (p:Int) (W:List (List Int)) (n:Nat) (x:List Int) (i:Nat):Prop:=∀j:Nat,lmul p W (p ^ j) x=List.replicate n 0↔i≤j
theorem zEX (p:Int):∀k,pw_ p k=p ^ k
 | 0=>by simp [pw_]
 | k+1=>by rw [Int.pow_succ,←zEX p k];simp only [pw_];rw [Int.mul_comm]
theorem zMO {z:List Int} (hz:El p n z):isZ z↔z=List.replicate n 0:=by
 constructor
 ·intro h
  refine List.ext_getElem (by rw [hz.1];simp) fun i h1 h2=>?_
  rw [h _ (List.getElem_mem h1)];simp
 ·rintro rfl y hy;exact List.eq_of_mem_replicate hy
end Go.Proofs
namespace Go.Proofs
open Go.Ab Go.Lie
variable {σ:PHeap} {K:PV→PHeap→Prop} {p:Int} {n:Nat} {W:List (List Int)} {B:List (List (List Int))} {vP vB vL vU vV vX:PV} {s:Nat} {u v gens:List (List Int)} {id:Prop}
def QO (p:Int) (W:List (List Int)) (u:List (List Int)):Prop:=Els p W.length u∧Canon p W.length W u u
theorem zJz {xs:List Int} (h:∀j,at_ xs j=0):isZ xs:=fun x hx=>by
 obtain⟨j,hj,rfl⟩:=List.mem_iff_getElem.1 hx;rw [←at_eq hj];exact h j
theorem zDt {L:List (List Int)} (c:Canon p W.length W L u):QO p W u:=⟨c.els,c.self⟩
theorem zHU (o:OkW p n W) (he:Els p n u) (hl:u.length≤1048576):SzL u:=⟨hl,fun x hx=>by rw [(he x hx).1];have:=o.le;omega⟩
theorem zES {us:List (List (List Int))} {wL:Bool} {aL:AV} {rL:List PV} (hs:PtrR σ s p vP vB) (hR:IsR vP vB W B) (szr:SzR W B) (hL:All2 FII rL us) (hul:us.length≤2) (hne:us≠[]) (sz:∀u∈us,SzL u)
  (hk:∀t:Bool,(t=true↔isLie p W B∧∀u∈us,QO p W u)→K (.bool t) σ):zA Tryz.prog 25 [.ptr s 0,.fz wL aL us.length rL] σ K:=by
 have fl:∀{A:Prop},¬A→((false=true)↔A):=fun h=>⟨fun x=>(by cases x),fun x=>absurd x h⟩
 have hPP:=hR.P;obtain⟨wp,ap,rp,rfl,hrp⟩:=hR.P;refine zD mix Tryz.func25 ?_;simp only [pwA,seval,-iQ0];refine zF (fun m vs h'=>∃i:Nat,i≤us.length∧m=us.length-i∧vs=[.ptr s 0,.fz wL aL us.length rL,.int .i64 us.length,.int .i64 i]∧σ=h'∧∀j (h:j<us.length),j<i→isLie p W B∧QO p W us[j]) us.length ⟨0,by omega,by omega,rfl,rfl,fun j h hj=>by omega⟩ ?_
 rintro m vs h' ⟨i,hi,rfl,rfl,rfl,hall⟩
 simp only [pwA,seval,-iQ0];refine iteI (fun hlt=>?_) fun hge=>?_
 rotate_left
 ·have hie:i=us.length:=by omega
  have hr3:σ.rd s 0 3=some [.int .i64 p,.fz wp ap W.length rp,vB]:=by rw [zf hs.obj];rfl
  simp only [pwA,seval,-iQ0,hr3];refine Zn hR szr fun t ht=>?_
  simp only [pwA,seval,-iQ0];refine hk _ ⟨fun e=>⟨ht.1 e,fun x hx=>?_⟩,fun x=>ht.2 x.1⟩
  obtain⟨j,hj,rfl⟩:=List.mem_iff_getElem.1 hx;exact(hall j hj (by omega)).2
 obtain⟨w4,a4,rs,hr,hrs⟩:=hL.rowL hlt;have hF:FII (.fz w4 a4 us[i].length rs) us[i]:=⟨w4,a4,rs,rfl,hrs⟩;have szi:=sz _ (List.getElem_mem hlt);have r1:σ.rd1 s 1=some (.fz wp ap W.length rp):=by rw [zG hs.obj];rfl
 have bad:¬(isLie p W B∧QO p W us[i])→¬(isLie p W B∧∀u∈us,QO p W u):=fun h x=>h ⟨x.1,x.2 _ (List.getElem_mem hlt)⟩
 by_cases hg:W.length<us[i].length
 ·have hg':(us[i].length:Int) > (W.length:Int):=by omega
  have hg'':(W.length:Int)<(us[i].length:Int):=by omega
  simp only [pwA,seval,-iQ0,hlt,hr,r1,hg',hg'',decide_true];exact hk _ (fl (bad fun x=>by have:=x.2.2.len;omega))
 have hg':¬(us[i].length:Int) > (W.length:Int):=by omega
 have hg'':¬(W.length:Int)<(us[i].length:Int):=by omega
 simp only [pwA,seval,-iQ0,hlt,hr,r1,hg',hg'',decide_false];refine Qb hs hR szr hF szi fun t ht=>?_
 cases t with
 | false=>
  simp only [pwA,seval,-iQ0];exact hk _ (fl (bad fun x=>by have:=ht.2 ⟨x.1,x.2.1⟩;cases this))
 | true=>
 obtain⟨hl,he⟩:=ht.1 rfl;have o:=hl.1.w;simp only [pwA,seval,-iQ0];refine Q0 hs hPP o hl.1.1 hF he szi.l fun vO out c hO=>?_
 simp only [pwA,seval,-iQ0];have hn6:=o.le;have hol:=c.len;have hiff:(out=us[i])↔QO p W us[i]:=⟨fun e=>by rw [e]at c;exact⟨he,c⟩,fun x=>c.unique o x.2⟩
 refine zCP hO hF (by omega) (fun x hx=>by rw [(c.els x hx).1];omega) fun t ht=>?_
 cases t with
 | false=>
  simp only [pwA,seval,-iQ0];exact hk _ (fl (bad fun x=>by have:=ht.2 (hiff.2 x.2);cases this))
 | true=>
 simp only [pwA,seval,-iQ0,wrapS hlt (by omega:us.length≤4611686018427387904)]
 refine⟨_,by omega,i+1,by omega,rfl,rfl,fun j h hj=>?_⟩
 by_cases e:j=i
 ·subst e;exact⟨hl,hiff.1 (ht.1 rfl)⟩
 ·exact hall j h (by omega)
theorem zFG {x y:List (List Int)} {vY:PV} (hs:PtrR σ s p vP vB) (hR:IsR vP vB W B) (o:OkW p n W) (q:OkB p n B) (hX:FII vX x) (hY:FII vY y) (hU:FII vU u) (ex:Els p n x) (ey:Els p n y) (hxl:x.length≤6) (hyl:y.length≤6) (hb:Base p n W u)
  (hk:∀t:Bool,(t=true↔∀a∈x,∀b∈y,Gen p n W u (at_ (br p W B n a b)))→K (.bool t) σ):zA Tryz.prog 26 [.ptr s 0,vX,vY,vU] σ K:=by
 have fl:∀{A:Prop},¬A→((false=true)↔A):=fun h=>⟨fun x=>(by cases x),fun x=>absurd x h⟩
 have hn6:=o.le;have hul:u.length≤n:=qj (fun v hv=>(hb.led v hv).2.1) hb.asc
 refine zD mix Tryz.func26 ?_;simp only [pwA,seval,-iQ0];refine zCk hs hR o q hX hY ex ey hxl hyl fun vZ hZ=>?_
 have ez:=zCF o q x y;have hlz:(brL p W B n x y).length≤36:=by
  rw [QU]
  have:x.length*y.length≤6*6:=Nat.mul_le_mul hxl hyl
  omega
 have hiff:(∀a∈x,∀b∈y,Gen p n W u (at_ (br p W B n a b)))↔∀z∈brL p W B n x y,Gen p n W u (at_ z):=⟨fun h z hz=>by
  obtain⟨a,ha,b,hb,rfl⟩:=zCE.1 hz;exact h a ha b hb,fun h a ha b hb=>h _ (zCE.2 ⟨a,ha,b,hb,rfl⟩)⟩
 rw [hiff]at hk
 clear hiff;generalize brL p W B n x y=Z at *
 obtain⟨wz,az,rz,rfl,hrz⟩:=hZ;simp only [pwA,seval,-iQ0];refine zF (fun m vs h'=>∃i:Nat,i≤Z.length∧m=Z.length-i∧vs=[.ptr s 0,vU,.fz wz az Z.length rz,.int .i64 Z.length,.int .i64 i]∧σ=h'∧∀j (h:j<Z.length),j<i→Gen p n W u (at_ Z[j])) Z.length ⟨0,by omega,by omega,rfl,rfl,fun j h hj=>by omega⟩ ?_
 rintro m vs h' ⟨i,hi,rfl,rfl,rfl,hall⟩
 simp only [pwA,seval,-iQ0];refine iteI (fun hlt=>?_) fun hge=>?_
 rotate_left
 ·have hie:i=Z.length:=by omega
  refine hk _ ⟨fun _ z hz=>?_,fun _=>rfl⟩
  obtain⟨j,hj,rfl⟩:=List.mem_iff_getElem.1 hz;exact hall j hj (by omega)
 obtain⟨w4,a4,hr⟩:=hrz.rowI hlt;have hzi:=ez _ (List.getElem_mem hlt);simp only [pwA,seval,-iQ0,hlt,hr];refine zBZ hs hR.P o hU (fun v hv=>⟨(hb.led v hv).1,(hb.led v hv).2.1⟩) (by omega) hzi rfl fun v1=>?_
 simp only [pwA,seval,-iQ0];have hrl:=(ZA o hb.els hzi).1;have hin:=zD9 o hb hzi;refine Qk hrl.symm (by omega) ?_
 by_cases hz0:isZ (redL p W u Z[i])
 ·simp only [pwA,seval,-iQ0,hz0,decide_true,wrapS hlt (by omega:Z.length≤4611686018427387904)]
  refine⟨_,by omega,i+1,by omega,rfl,rfl,fun j h hj=>?_⟩
  by_cases e:j=i
  ·subst e;exact hin.1 (zF1 hz0)
  ·exact hall j h (by omega)
 ·simp only [pwA,seval,-iQ0,hz0,decide_false]
  refine hk _ (fl fun x=>hz0 ?_)
  have:=hin.2 (x _ (List.getElem_mem hlt))
  exact zJz fun j=>this j
end Go.Proofs
namespace Go.Proofs
open Go.Ab Go.Lie
variable {σ:PHeap} {K:PV→PHeap→Prop} {p:Int} {n:Nat} {W:List (List Int)} {B:List (List (List Int))} {vP vB vL vU vV vX:PV} {s:Nat} {u v gens:List (List Int)} {id:Prop}
theorem ipowN (P:Nat):∀k,ipow (P:Int) k=((P ^ k:Nat):Int)
 | 0=>rfl
 | k+1=>by rw [ipow,ipowN P k,Nat.pow_succ];push_cast;rfl
def LsV (ok:Prop) (R:List (List Int)→Prop) (z:List (List Int)) (c:Int):Prop:=(¬ok∧z=[]∧c=1)∨(ok∧R z∧c=0)
theorem LsV.yes {ok:Prop} {R:List (List Int)→Prop} {z:List (List Int)} {c:Int} (h:LsV ok R z c) (g:ok):R z∧c=0:=by
 rcases h with ⟨h1,_⟩|⟨_,h2⟩
 ·exact absurd g h1
 ·exact h2
theorem zHc:FII (.fz true .nils 0 []) []:=⟨true,.nils,[],rfl,All2.nil _⟩
theorem zCn (hR:IsR vP vB W B) (szr:SzR W B) (hU:FII vU u) (sz:SzL u)
  (hk:∀(t:Bool) (c:Int),((¬(isLie p W B∧QO p W u)∧t=false∧c=1)∨((isLie p W B∧QO p W u)∧(t=true↔∀x∈u,∀y∈u,Gen p W.length W u (at_ (br p W B W.length x y)))∧c=0))→K (.tup [.bool t,.int .i64 c]) σ):zA Tryz.prog 12 [.agg [.int .i64 p,vP,vB],vU] σ K:=by
 have h1:=hR.P.one;have h2:=hR.B.one;refine zA.gh ?_;refine zD mix Tryz.func12 ?_;simp only [pwA,seval,-iQ0,h1,h2,hU.one,hU.cells];refine zA.frz (s:=σ.next+1) (cs:=[vU]) (by simp only [pwA,seval,-iQ0]) ⟨hU.bel 0,trivial⟩ fun o1=>?_
 have hkp:Keep σ (((σ.new [.int .i64 p,vP,vB]).new [vU]).kill (σ.next+1)):=((zC σ _).new _).kill (by omega)
 have hp2:PtrR (((σ.new [.int .i64 p,vP,vB]).new [vU]).kill (σ.next+1)) σ.next p vP vB:=⟨by simp only [pwA,seval,-iQ0],by simp only [pwA,seval,-iQ0];omega⟩
 generalize ((σ.new [.int .i64 p,vP,vB]).new [vU]).kill (σ.next+1)=H at *
 simp only [sbs,sb,capOK,and_self,if_true,decide_true,Nat.le_refl];refine zES (us:=[u]) hp2 hR szr ((All2.nil FII).snoc hU) (by simp) (by simp) (fun x hx=>by rw [List.mem_singleton.1 hx];exact sz) fun t ht=>?_
 have ht':t=true↔isLie p W B∧QO p W u:=by rw [ht];simp
 cases t with
 | false=>
  simp only [pwA,seval,-iQ0];exact Gh.fin0 hkp ⟨trivial,trivial,trivial⟩ (hk false 1 (.inl ⟨fun e=>(by have:=ht'.2 e;cases this),rfl,rfl⟩))
 | true=>
 have hl:=ht'.1 rfl;have o:=hl.1.1.w;have hn6:=o.le;have hul:=hl.2.2.len;simp only [pwA,seval,-iQ0];refine zFG hp2 hR o hl.1.1.b hU hU hU hl.2.1 hl.2.1 (by omega) (by omega) hl.2.2.base fun t ht=>?_
 simp only [pwA,seval,-iQ0];exact Gh.fin0 hkp ⟨trivial,trivial,trivial⟩ (hk t 0 (.inr ⟨hl,ht,rfl⟩))
end Go.Proofs
namespace Go.Proofs
open Go.Ab Go.Lie
variable {σ:PHeap} {K:PV→PHeap→Prop} {p:Int} {n:Nat} {W:List (List Int)} {B:List (List (List Int))} {vP vB vL vU vV vX:PV} {s:Nat} {u v gens:List (List Int)} {id:Prop}
theorem zFx {x:List Int} (hR:IsR vP vB W B) (o:OkW p n W) (hU:FII vU u) (hb:Base p n W u) (hx:FI vX x) (ex:El p n x) (hk:∀t:Bool,(t=true↔Gen p n W u (at_ x))→K (.bool t) σ):zA Tryz.prog 79 [.agg [.int .i64 p,vP,vB],vU,vX] σ K:=by
 have h1:=hR.P.one;have h2:=hR.B.one;have hn6:=o.le;have hul:u.length≤n:=qj (fun v hv=>(hb.led v hv).2.1) hb.asc
 obtain⟨wx,ax,rfl⟩:=hx;refine zA.gh ?_;refine zD mix Tryz.func79 ?_;simp only [pwA,seval,-iQ0,h1,h2];have hkp:Keep σ (σ.new [.int .i64 p,vP,vB]):=zC σ _;generalize σ.new [.int .i64 p,vP,vB]=H at *
 refine QK hR o hU (fun v hv=>⟨(hb.led v hv).1,(hb.led v hv).2.1⟩) (by omega) ex rfl fun v1=>?_
 have hrl:=(ZA o hb.els ex).1;have hin:=zD9 o hb ex;simp only [pwA,seval,-iQ0];refine zBI hrl.symm (by omega) ?_
 simp only [pwA,seval,-iQ0];refine Gh.fin0 hkp trivial (hk _ ?_);rw [decide_eq_true_eq,←hin];exact⟨fun h j=>zF1 h j,fun h=>zJz h⟩
theorem zLd {P n k:Nat} (h:k<P ^ n):(allE P n).take (k+1)=(allE P n).take k++[digs P n k]:=by
 have hl:k<(allE P n).length:=by rw [qZ];exact h
 rw [List.take_succ_eq_append_getElem hl,zGQ hl]
theorem zHA {list:List (List Int)} {P:Nat} (hR:IsR vP vB W B) (o:OkW p n W) (q:OkB p n B) (hp:isP p) (hpP:p=(P:Int)) (hb:P ^ n≤729) (hL:FII vL list) (eL:Els p n list) (hll:list.length≤1048576) (hU:FII vU u) (hbu:Base p n W u)
  (hk:∀w out L,Canon p n W L out→(∀x,x∈L↔x∈allE P n∧∀b∈list,Gen p n W u (at_ (br p W B n x b)))→FII w out→K w σ):zA Tryz.prog 37 [.agg [.int .i64 p,vP,vB],vL,vU] σ K:=by
 have hRR:=hR;have hn6:=o.le;have hpb:=hp.bd;have hWn:=o.len;have h1:=hR.P.one;have h2:=hR.B.one;obtain⟨⟨wp,ap,rp,rfl,hrp⟩,hBB⟩:=hR;obtain⟨wl,al,rl,rfl,hrl⟩:=hL;refine zA.gh ?_;refine zD mix Tryz.func37 ?_;simp only [pwA,seval,-iQ0,h1,h2];generalize hH:σ.new [.int .i64 p,.fz wp ap W.length rp,vB]=H;have hHn:H.next=σ.next+1:=by rw [←hH];rfl
 have hHk:Keep σ H:=by rw [←hH];exact zC σ _
 have hob:H.obj σ.next=some [.int .i64 p,.fz wp ap W.length rp,vB]:=by rw [←hH];simp only [pwA,seval,-iQ0]
 refine zF (fun m us h=>∃(k:Nat) (v:PV) (out L:List (List Int)) (rows:List PV),k≤P ^ n∧m=P ^ n-k∧us=[.fz wl al list.length rl,vU,.ptr σ.next 0,v,.int .i64 k]∧Keep H h∧PSl H.next 1 h v out.length rows∧All2 FI rows out∧Canon p n W L out∧∀x,x∈L↔x∈(allE P n).take k∧∀b∈list,Gen p n W u (at_ (br p W B n x b))) (P ^ n) ?_ ?_
 ·refine⟨0,_,[],[],[],by omega,by omega,rfl,zC H _,?_,All2.nil _,⟨.nil,List.Pairwise.nil,fun f=>Iff.rfl⟩,fun x=>by simp⟩
  rw [←hHn];exact PSl.new H.next 1 rfl (Nat.le_refl _)
 rintro m us h ⟨k,v,out,L,rows,hkP,rfl,rfl,hkp,ps,hrows,hcan,hmem⟩
 have hob':h.obj σ.next=some [.int .i64 p,.fz wp ap W.length rp,vB]:=by rw [hkp.obj _ (by omega)];exact hob
 have hr3:h.rd σ.next 0 3=some [.int .i64 p,.fz wp ap W.length rp,vB]:=by rw [zf hob'];rfl
 have hr0:h.rd1 σ.next 0=some (.int .i64 p):=by rw [zG hob'];rfl
 have hr1:h.rd1 σ.next 1=some (.fz wp ap W.length rp):=by rw [zG hob'];rfl
 have hol:=hcan.len;simp only [pwA,seval,-iQ0,hr0,hr1];refine zBG hpb (by omega) fun kk a1 a2 a3 a4=>?_
 have hkk:kk=((P ^ n:Nat):Int):=by
  rw [hpP,ipowN,hWn]at a1 a2
  exact a2 (a1.2 (by omega))
 subst hkk;clear a1 a2 a3 a4;simp only [pwA,seval,-iQ0];refine iteI (fun hlt=>?_) fun hge=>?_
 rotate_left
 ·have hke:k=P ^ n:=by omega
  subst hke;rw [List.take_of_length_le (by rw [qZ];exact Nat.le_refl _)]at hmem
  obtain⟨t,cap,rfl,hc,q2,q3,q4,q5⟩:=ps;exact Gh.finF (hHk.trans hkp) q2 (by omega) (hrows.bI 0) hc.ok fun o1=>hk _ out L hcan hmem ⟨true,.sl o1 0 out.length cap,rows,rfl,hrows⟩
 have hkl:k<P ^ n:=by omega
 simp only [pwA,seval,-iQ0,hr3];refine zLH hRR hWn hn6 hpP (by omega) (by omega) fun vX hX=>?_
 have ex:=zEM (P:=P) (by omega) n k
 rw [←hpP]at ex
 have htk:=zLd (P:=P) (n:=n) hkl;generalize digs P n k=x at *
 simp only [pwA,seval,-iQ0,hr3];obtain⟨t,cap,rfl,hc,q2,q3,q4,q5⟩:=ps;refine zA.lend (s:=t) q2 (hrows.bI 0) fun o1=>?_
 have hXs:=hX.sb t o1 rows;have hBs:=hBB.sb t o1 rows;simp only [sbs,sb,hc.ok,and_self,if_true,hXs,hBs,nm_eq];refine zFx hRR o ⟨true,_,rows,rfl,hrows⟩ hcan.base hX ex fun tt htt=>⟨rfl,⟨_,rfl⟩,?_⟩
 have wk1:IntKind.i64.wrap ((k:Int)+1)=((k+1:Nat):Int):=by rw [wrap64 (by omega) (by omega)];omega
 obtain⟨wx,ax,rfl⟩:=hX;have hX:FI (.fz wx ax x.length (pis x)) x:=⟨wx,ax,rfl⟩
 -- what is left to do when the checks are over
 have skip:(Gen p n W out (at_ x)∨¬∀b∈list,Gen p n W u (at_ (br p W B n x b)))→∃L',Canon p n W L' out∧∀y,y∈L'↔y∈(allE P n).take (k+1)∧∀b∈list,Gen p n W u (at_ (br p W B n y b)):=fun hs=>by
  by_cases hg:∀b∈list,Gen p n W u (at_ (br p W B n x b))
  ·have hx:=hs.resolve_right fun h=>h hg
   refine⟨L++[x],hcan.trans fun f=>⟨fun hf=>qy (fun y hy=>?_) hf,zX fun y hy=>List.mem_append_left _ hy⟩,fun y=>?_⟩
   ·rcases List.mem_append.1 hy with e | e
    ·exact zM e
    ·rw [List.mem_singleton.1 e];exact(hcan.gen _).2 hx
   ·rw [htk,List.mem_append,List.mem_append,List.mem_singleton,hmem]
    refine⟨fun h=>?_,fun h=>?_⟩
    ·rcases h with h | h
     ·exact⟨.inl h.1,h.2⟩
     ·exact⟨.inr h,by rw [h];exact hg⟩
    ·rcases h.1 with h1 | h1
     ·exact .inl ⟨h1,h.2⟩
     ·exact .inr h1
  ·refine⟨L,hcan,fun y=>?_⟩
   rw [htk,List.mem_append,List.mem_singleton,hmem];exact⟨fun h=>⟨.inl h.1,h.2⟩,fun h=>⟨h.1.resolve_right fun e=>hg (by rw [←e];exact h.2),h.2⟩⟩
 have take:(∀b∈list,Gen p n W u (at_ (br p W B n x b)))→∀out',Canon p n W (out++[x]) out'→∃L',Canon p n W L' out'∧∀y,y∈L'↔y∈(allE P n).take (k+1)∧∀b∈list,Gen p n W u (at_ (br p W B n y b)):=fun hg out' c'=>by
  refine⟨L++[x],⟨c'.base,c'.red,fun f=>Iff.trans ⟨qy fun y hy=>?_,qy fun y hy=>?_⟩ (c'.gen f)⟩,fun y=>?_⟩
  ·rcases List.mem_append.1 hy with e | e
   ·exact zX (fun z hz=>List.mem_append_left _ hz) ((hcan.gen _).1 (zM e))
   ·exact zM (List.mem_append_right _ e)
  ·rcases List.mem_append.1 hy with e | e
   ·exact zX (fun z hz=>List.mem_append_left _ hz) ((hcan.gen _).2 (zM e))
   ·exact zM (List.mem_append_right _ e)
  ·rw [htk,List.mem_append,List.mem_append,List.mem_singleton,hmem]
   refine⟨fun h=>?_,fun h=>?_⟩
   ·rcases h with h | h
    ·exact⟨.inl h.1,h.2⟩
    ·exact⟨.inr h,by rw [h];exact hg⟩
   ·rcases h.1 with h1 | h1
    ·exact .inl ⟨h1,h.2⟩
    ·exact .inr h1
 simp only [pwA,seval,-iQ0];refine zF (fun m us g=>∃(i:Nat) (b:Bool),i≤list.length∧m=list.length-i∧us=[.fz wl al list.length rl,vU,.ptr σ.next 0,.sl t 0 out.length cap,.int .i64 k,.fz wx ax x.length (pis x),.bool b,.int .i64 i]∧h=g∧(b=true→¬Gen p n W out (at_ x)∧∀j (hj:j<list.length),j<i→Gen p n W u (at_ (br p W B n x list[j])))∧(b=false→Gen p n W out (at_ x)∨¬∀b∈list,Gen p n W u (at_ (br p W B n x b)))) list.length ?_ ?_
 ·refine⟨0,!tt,by omega,by omega,rfl,rfl,fun hb=>⟨fun hg=>?_,fun j hj h0=>by omega⟩,fun hb=>.inl (htt.1 (by simpa using hb))⟩
  have:=htt.2 hg
  rw [this]at hb;cases hb
 rintro m us g ⟨i,b,hi,rfl,rfl,rfl,hbt,hbf⟩
 simp only [pwA,seval,-iQ0];cases b with
 | false=>
  obtain⟨L',c',m'⟩:=skip (hbf rfl)
  by_cases hil:i<list.length
  ·have hil':(i:Int)<(list.length:Int):=by omega
   simp only [pwA,seval,-iQ0,hil,hil',decide_true,wk1];exact⟨_,by omega,k+1,_,out,L',rows,by omega,rfl,rfl,hkp,⟨t,cap,rfl,hc,q2,q3,q4,q5⟩,hrows,c',m'⟩
  ·have hil':¬(i:Int)<(list.length:Int):=by omega
   simp only [pwA,seval,-iQ0,hil,hil',decide_false,wk1];exact⟨_,by omega,k+1,_,out,L',rows,by omega,rfl,rfl,hkp,⟨t,cap,rfl,hc,q2,q3,q4,q5⟩,hrows,c',m'⟩
 | true=>
 obtain⟨hng,hall⟩:=hbt rfl
 by_cases hil:i<list.length
 ·have hil':(i:Int)<(list.length:Int):=by omega
  obtain⟨w5,a5,hr5⟩:=hrl.rowI hil;have eli:=eL _ (List.getElem_mem hil);simp only [pwA,seval,-iQ0,hil,hil',decide_true,hr3,hr5];refine zl hRR o q ex eli rfl rfl fun a6=>?_
  have hbe:=br_el o q (a:=x) (b:=list[i]);have hbl:=hbe.1;simp only [pwA,seval,-iQ0,hr3,hr5,hil];refine zFx hRR o hU hbu (x:=br p W B n x list[i]) ⟨true,a6,by rw [hbl]⟩ hbe fun t2 ht2=>?_
  simp only [pwA,seval,-iQ0,hr3,hr5,hil,wrapS hil (by omega:list.length≤4611686018427387904)]
  refine⟨_,by omega,i+1,t2,by omega,rfl,rfl,fun e=>⟨hng,fun j hj hji=>?_⟩,fun e=>.inr fun hg=>?_⟩
  ·by_cases e2:j=i
   ·subst e2;exact ht2.1 e
   ·exact hall j hj (by omega)
  ·have:=ht2.2 (hg _ (List.getElem_mem hil))
   rw [this]at e;cases e
 have hil':¬(i:Int)<(list.length:Int):=by omega
 have hg:∀b∈list,Gen p n W u (at_ (br p W B n x b)):=fun b hb=>by
  obtain⟨j,hj,rfl⟩:=List.mem_iff_getElem.1 hb;exact hall j hj (by omega)
 have hneh:¬σ.next=h.next:=by have:=hkp.next;omega
 simp only [pwA,seval,-iQ0,hil,hil',decide_false,hr3,hneh];refine PSl.push (bytes:=24) (σb:=H) hkp ⟨t,cap,rfl,hc,q2,q3,q4,q5⟩ (by omega) (by omega) fun v2 h2 k2 a2=>?_
 obtain⟨t2,cap2,rfl,hc2,b2,b3,b4,b5⟩:=a2;have hob2:h2.obj σ.next=some [.int .i64 p,.fz wp ap W.length rp,vB]:=by rw [k2.obj _ (by omega)];exact hob
 have hr32:h2.rd σ.next 0 3=some [.int .i64 p,.fz wp ap W.length rp,vB]:=by rw [zf hob2];rfl
 have hrow:=hrows.snoc hX;simp only [pwA,seval,-iQ0,hr32];refine zA.frz b2 (hrow.bI 0) fun o2=>?_
 have hBs2:=hBB.sb t2 o2 (rows++[.fz wx ax x.length (pis x)]);simp only [sbs,sb,hc2.ok,and_self,if_true,hBs2,nm_eq];refine zEg hRR o hp (gens:=out++[x]) ⟨true,_,_,by rw [List.length_append];rfl,hrow⟩ (fun y hy=>by
  rcases List.mem_append.1 hy with e|e
  ·exact hcan.els y e
  ·rw [List.mem_singleton.1 e];exact ex) (by rw [List.length_append,List.length_singleton];omega) fun out' rows' cap' c' hr' hcap'=>?_
 obtain⟨L',d',m'⟩:=take hg out' c';have kk2:Keep H (h2.kill t2):=k2.kill b4;simp only [pwA,seval,-iQ0,wk1];exact⟨_,by omega,k+1,_,out',L',rows',by omega,rfl,rfl,kk2.new _,⟨_,cap',rfl,hcap',by rw [zP];exact if_pos rfl,by rw [hr'.1,Nat.mul_one],kk2.next,Nat.lt_succ_self _⟩,hr',d',m'⟩
end Go.Proofs
namespace Go.Proofs
open Go.Ab Go.Lie
variable {σ:PHeap} {K:PV→PHeap→Prop} {va vb vx:PV} {p:Int} {W:List (List Int)} {B:List (List (List Int))} {xs ys:List (List Int)} {x:List Int}
theorem zBl (ha:FII va xs) (hb:FII vb ys) (sz:SzL xs) (hk:∀t:Bool,(t=true↔xs=ys)→K (.bool t) σ):zA Tryz.prog 13 [va,vb] σ K:=by
 obtain⟨wx,ax,rx,rfl,hrx⟩:=ha;obtain⟨wy,ay,ry,rfl,hry⟩:=hb;have hl:=sz.l;refine zD mix Tryz.func13 ?_;simp only [pwA,seval,-iQ0]
 by_cases hxy:xs.length=ys.length
 rotate_left
 ·have hne:¬(xs.length:Int)=(ys.length:Int):=by omega
  simp only [pwA,seval,-iQ0,hne];exact hk false ⟨fun h=>(by cases h),fun h=>absurd (by rw [h]) hxy⟩
 have heq:(xs.length:Int)=(ys.length:Int):=by omega
 simp only [pwA,seval,-iQ0,heq];refine zF (fun m us g=>∃i:Nat,i≤ys.length∧m=ys.length-i∧us=[.fz wx ax xs.length rx,.fz wy ay ys.length ry,.int .i64 i]∧g=σ∧∀j,j<i→xs[j]? = ys[j]?) ys.length ⟨0,by omega,by omega,rfl,rfl,fun j hj=>absurd hj (Nat.not_lt_zero _)⟩ ?_
 rintro m us g ⟨i,hi,rfl,rfl,rfl,he⟩
 simp only [pwA,seval,-iQ0,heq];refine iteI (fun hlt=>?_) fun hge=>?_
 rotate_left
 ·refine hk true ⟨fun _=>List.ext_getElem? fun j=>?_,fun _=>rfl⟩
  rcases Nat.lt_or_ge j i with e|e
  ·exact he j e
  ·rw [List.getElem?_eq_none (by omega),List.getElem?_eq_none (by omega)]
 have hltx:i<xs.length:=by omega
 have hlty:i<ys.length:=by omega
 have wi1:IntKind.i64.wrap ((i:Int)+1)=((i+1:Nat):Int):=wrapS hlty (by omega)
 obtain⟨w1,a1,h1⟩:=hrx.rowI hltx;obtain⟨w2,a2,h2⟩:=hry.rowI hlty;have hle:=sz.r _ (List.getElem_mem hltx);simp only [pwA,seval,-iQ0,h1,h2,hltx,hlty];refine zCY ⟨w1,a1,rfl⟩ ⟨w2,a2,rfl⟩ hle fun t ht=>?_
 cases t with
 | false=>
  simp only [pwA,seval,-iQ0];refine hk false ⟨fun h=>(by cases h),fun h=>?_⟩
  have:=ht.2 (by simp only [h])
  cases this
 | true=>
  have hv:=ht.1 rfl;simp only [pwA,seval,-iQ0,wi1];refine⟨_,by omega,i+1,by omega,rfl,rfl,fun j hj=>?_⟩
  rcases Nat.lt_or_ge j i with e|e
  ·exact he j e
  ·obtain rfl:j=i:=by omega
   rw [List.getElem?_eq_getElem hltx,List.getElem?_eq_getElem hlty,hv]
theorem zLu {T h:PHeap} {s bytes n:Nat} {v x:PV} {cs:List PV} {K:PV×PHeap→Prop} (km:KM T s h) (a:PSl T.next 1 h v n cs)
  (h1:(n+1)*bytes≤140737488355328) (h2:n+1≤4611686018427387904) (k:∀v' h',KM T s h'→(∀t,t<T.next→h'.obj t=h.obj t)→PSl T.next 1 h' v' (n+1) (cs++[x])→K (v',h')):optK (qP 1 bytes (h.new [x]) v (.sl h.next 0 1 (.known 1))) K:=by
 obtain⟨σ',m,q⟩:=km;have hn:=m.next;refine PSl.push (σb:=σ') (bytes:=bytes) q (by rw [hn];exact a) h1 h2 fun v' h' k1 k2=>k v' h' ⟨σ',m,k1⟩ (fun t ht=>by rw [k1.obj t (by omega),q.obj t (by omega)]) (by rw [←hn];exact k2)
end Go.Proofs
namespace Go.Grp
end Go.Grp
namespace Go.Proofs
open Go.Ab Go.Lie Go.Grp
variable {σ:PHeap} {K:PV→PHeap→Prop} {O O':List Int} {P P':List (List Int)} {C C':List (List (List Int))} {vO vQ vC vO' vQ' vC' vP vx vy vB:PV} {x y bs:List Int} {p:Int} {n c:Nat} {W:List (List Int)} {B:List (List (List Int))} {sp s:Nat}
theorem zEd (o:OkW p n W) (hx:El p n x):lmul p W (p ^ n) x=List.replicate n 0:=by
 refine qi o (zO o hx hx).1 (by simp) (zO o hx hx).2 (zAF o.pr).2 ?_
 rw [←zEX];exact(Qa o hx _).trans ((zF0 o fun j hj=>hx.beyond hj).trans (Eqv.of_eq fun j=>(qR n j).symm))
theorem zLC (o:OkW p n W) (k:Int):lmul p W k (List.replicate n 0)=List.replicate n 0:=by
 have hz:El p n (List.replicate n 0):=zAF o.pr;refine qi o (zO o hz hz).1 (by simp) (zO o hz hz).2 (zAF o.pr).2 ?_
 exact(Qa o hz k).trans (Eqv.of_eq fun j=>by rw [qR];simp)
theorem zAw (o:OkW p n W) (hx:El p n x) {i j:Nat} (hij:i≤j) (h:lmul p W (p ^ i) x=List.replicate n 0):lmul p W (p ^ j) x=List.replicate n 0:=by
 have e:p ^ j=p ^ (j-i)*p ^ i:=by rw [←Int.pow_add];congr 1;omega
 rw [e,←zFr o hx,h,zLC o]
theorem zE6 (hs:PtrR σ s p vP vB) (hR:IsR vP vB W B) (o:OkW p n W) (hpow:ipow p n≤729) (hx:El p n x) (hvx:FI vx x) (hk:∀m i:Nat,(m:Int)=p ^ i→OrdL p W n x i→K (.int .i64 m) σ):zA Tryz.prog 30 [.ptr s 0,vx] σ K:=by
 have hn6:=o.le;have hpr:2≤p∧p≤7:=o.pr;have hp0:σ.rd1 s 0=some (.int .i64 p):=by rw [zG hs.obj];rfl
 obtain⟨wx,ax,rfl⟩:=hvx;have hxl:=hx.1;have bnd:∀i,i≤n→1≤p ^ i∧p ^ i≤729:=fun i hi=>by
  have h1:1≤p ^ i:=by have:=Int.pow_pos (n:=p) (m:=i) (by have:=hpr.1;omega);omega
  have h2:p ^ i≤p ^ n:=by
   have h3:1≤p ^ (n-i):=by have:=Int.pow_pos (n:=p) (m:=n-i) (by have:=hpr.1;omega);omega
   have h4:=Int.mul_le_mul_of_nonneg_left h3 (show 0≤p ^ i by omega)
   rw [Int.mul_one,←Int.pow_add,show i+(n-i)=n by omega]at h4
   exact h4
  rw [zC2]at hpow
  omega
 refine zD mix Tryz.func30 ?_;simp only [pwA,seval,-iQ0];refine zF (fun m us h'=>∃(i k:Nat) (w:Bool) (a:AV) (now:List Int),m=n-i∧us=[.ptr s 0,.fz w a n (pis now),.int .i64 k]∧σ=h'∧i≤n∧(k:Int)=p ^ i∧El p n now∧now=lmul p W (p ^ i) x∧∀j:Nat,lmul p W (p ^ j) x=List.replicate n 0→i≤j) n ⟨0,1,wx,ax,x,by omega,by rw [hxl];rfl,rfl,by omega,by simp,hx,by rw [Int.pow_zero,zLD o hx],fun j _=>Nat.zero_le j⟩ ?_
 rintro m us h' ⟨i,k,w,a,now,rfl,rfl,rfl,hi,hki,hnow,he,hmin⟩
 have hnl:=hnow.1;have hz:=zMO hnow;have b1:=bnd i hi;simp only [pwA,seval,-iQ0];refine Qk hnl.symm (by omega) ?_
 by_cases hn0:now=List.replicate n 0
 ·have hzz:=hz.2 hn0
  simp only [pwA,seval,-iQ0,hzz];exact hk k i hki fun j=>⟨hmin j,fun h=>zAw o hx h (by rw [←he,hn0])⟩
 have hzz:¬isZ now:=fun h=>hn0 (hz.1 h)
 have hin:i<n:=by
  rcases Nat.lt_or_ge i n with h|h
  ·exact h
  ·exact absurd (by rw [he];exact zAw o hx h (zEd o hx)) hn0
 have b2:=bnd (i+1) hin;simp only [pwA,seval,-iQ0,hzz,hp0];refine zGb o hs hR.P hnow ⟨w,a,by rw [hnl]⟩ (k:=p) (by omega) fun v1 f1=>?_
 have hl2:=(zO o (k:=p) (m:=0) hnow hnow).1;obtain⟨w1,a1,rfl⟩:=f1;have hk2:((k*p.toNat:Nat):Int)=p ^ (i+1):=by
  rw [Int.natCast_mul,Int.toNat_of_nonneg (by omega),hki,Int.pow_succ]
 have ew:IntKind.i64.wrap ((k:Int)*p)=((k*p.toNat:Nat):Int):=by
  rw [show(k:Int)*p=((k*p.toNat:Nat):Int) by rw [Int.natCast_mul,Int.toNat_of_nonneg (by omega)]]
  exact wrap64 (by omega) (by omega)
 simp only [pwA,seval,-iQ0,hzz,hp0,ew];refine⟨_,by omega,i+1,k*p.toNat,w1,a1,lmul p W p now,rfl,by rw [show(lmul p W p now).length=n from hl2],hin,hk2,zO o hnow hnow,by rw [he,zFr o hx,Int.pow_succ,Int.mul_comm],fun j hj=>?_⟩
 rcases Nat.lt_or_ge i j with h|h
 ·exact h
 ·exact absurd (by rw [he];exact zAw o hx h hj) hn0
end Go.Proofs
namespace Go.Proofs
open Go.Ab Go.Lie
variable {p:Int} {n P a b c f g e E:Nat} {W:List (List Int)} {B:List (List (List Int))} {x:List Int}
def lgF (P:Nat):Nat→Nat→Nat
 | 0,_=>0
 | f+1,c=>if 1<c then 1+lgF P f (c / P)else 0
def lg (P c:Nat):Nat:=lgF P c c
theorem zJs (hP:2≤P):∀{f g c:Nat},c≤f→c≤g→lgF P f c=lgF P g c
 | 0,0,c,_,_=>rfl
 | 0,g+1,c,h,_=>by rw [lgF,lgF,if_neg (by omega)]
 | f+1,0,c,_,h=>by rw [lgF,lgF,if_neg (by omega)]
 | f+1,g+1,c,h1,h2=>by
  rw [lgF,lgF]
  split
  ·rename_i h
   have:c / P<c:=Nat.div_lt_self (by omega) (by omega)
   rw [zJs hP (f:=f) (g:=g) (by omega) (by omega)]
  ·rfl
theorem zCz (h:c≤1):lg P c=0:=by
 unfold lg;cases c with
 | zero=>rfl
 | succ c=>rw [lgF,if_neg (by omega)]
theorem zB8 (hP:2≤P) (h:1<c):lg P c=1+lg P (c / P):=by
 have:c / P<c:=Nat.div_lt_self (by omega) (by omega)
 unfold lg;cases c with
 | zero=>omega
 | succ c=>rw [lgF,if_pos h,zJs hP (f:=c) (g:=(c+1) / P) (by omega) (Nat.le_refl _)]
theorem zHe (hP:2≤P):∀(b:Nat) {a:Nat},a≤b→lg P a≤lg P b:=fun b=>by
 induction b using Nat.strongRecOn with
 | _ b ih=>
  intro a h;rcases Nat.lt_or_ge 1 a with q|q
  ·have:b / P<b:=Nat.div_lt_self (by omega) (by omega)
   rw [zB8 hP q,zB8 hP (by omega:1<b)]
   have:=ih (b / P) this (Nat.div_le_div_right (c:=P) h)
   omega
  ·rw [zCz q];exact Nat.zero_le _
theorem zFu (hP:2≤P):∀n,lg P (P ^ n)=n
 | 0=>zCz (Nat.le_refl _)
 | n+1=>by
  have h1:1≤P ^ n:=Nat.pow_pos (by omega)
  have h2:1<P ^ (n+1):=by
   rw [Nat.pow_succ]
   have:=Nat.mul_le_mul h1 hP
   omega
  rw [zB8 hP h2,Nat.pow_succ,Nat.mul_div_cancel _ (by omega),zFu hP n]
  omega
def cnt (p:Int) (n:Nat) (W:List (List Int)) (P e:Nat):Nat:=((allE P n).filter fun x=>lmul p W (p ^ e) x == List.replicate n 0).length
def rk (p:Int) (n:Nat) (W:List (List Int)) (P e:Nat):Nat:=if e=0 then 0 else lg P (cnt p n W P e)
theorem zKD:cnt p n W P e≤P ^ n:=by
 unfold cnt
 have:=List.length_filter_le (fun x=>lmul p W (p ^ e) x == List.replicate n 0) (allE P n)
 rw [qZ]at this
 exact this
theorem cnt_mono (o:OkW p n W) (hp:p=(P:Int)) (hab:a≤b):cnt p n W P a≤cnt p n W P b:=by
 unfold cnt;rw [←List.countP_eq_length_filter,←List.countP_eq_length_filter];refine List.countP_mono_left fun x hx h=>?_
 have hP:0<P:=by have:=o.pr.1;omega
 have hx':El p n x:=by subst hp;exact zBy hP hx
 rw [beq_iff_eq]at h ⊢
 exact zAw o hx' hab h
theorem zLY (o:OkW p n W) (hp:p=(P:Int)) (he:n≤e):cnt p n W P e=P ^ n:=by
 unfold cnt;have hP:0<P:=by have:=o.pr.1;omega
 rw [List.filter_eq_self.2,qZ];intro x hx;have hx':El p n x:=by subst hp;exact zBy hP hx
 rw [beq_iff_eq];exact zAw o hx' he (zEd o hx')
theorem rk_le (o:OkW p n W) (hp:p=(P:Int)):rk p n W P e≤n:=by
 have hP:2≤P:=by have:=o.pr.1;omega
 unfold rk
 split
 ·omega
 ·have:=zHe hP _ (zKD (p:=p) (n:=n) (W:=W) (P:=P) (e:=e))
  rw [zFu hP]at this
  exact this
theorem zHV (o:OkW p n W) (hp:p=(P:Int)) (hab:a≤b):rk p n W P a≤rk p n W P b:=by
 have hP:2≤P:=by have:=o.pr.1;omega
 unfold rk
 split
 ·exact Nat.zero_le _
 ·rw [if_neg (by omega)]
  exact zHe hP _ (cnt_mono o hp hab)
theorem zLn (o:OkW p n W) (hp:p=(P:Int)) (he:n≤e) (h1:1≤e):rk p n W P e=n:=by
 have hP:2≤P:=by have:=o.pr.1;omega
 unfold rk;rw [if_neg (by omega),zLY o hp he,zFu hP]
def Fst (r:Nat→Nat) (n E:Nat):Prop:=1≤E∧r E=n∧∀j,1≤j→j<E→r j≠n
theorem Fst.unique {r:Nat→Nat} {E':Nat} (h:Fst r n E) (h':Fst r n E'):E=E':=by
 rcases Nat.lt_trichotomy E E' with q|q|q
 ·exact absurd h.2.1 (h'.2.2 E h.1 q)
 ·exact q
 ·exact absurd h'.2.1 (h.2.2 E' h'.1 q)
def gg (r:Nat→Nat) (n E j:Nat):Nat:=if j≤E then r j else n
def rl (r:Nat→Nat) (m:Nat):List Int:=(List.range m).map fun j=>(r j:Int)
theorem zD8 (r:Nat→Nat) (m:Nat):rl r (m+1)=rl r m++[(r m:Int)]:=by simp [rl,List.range_succ]
theorem zKW {r q:Nat→Nat} {m:Nat} (h:∀j,j<m→r j=q j):rl r m=rl q m:=by
 unfold rl;exact List.map_congr_left fun j hj=>by rw [h j (List.mem_range.1 hj)]
theorem zMk {r:Nat→Nat} {m j:Nat} (h:j<m):(rl r m)[j]? = some (r j:Int):=by simp [rl,h]
def tE (g:Nat→Nat) (e:Nat):Nat:=2*g e-g (e-1)-g (e+1)
def pts (P:Nat) (g:Nat→Nat):Nat→List Int
 | 0=>[]
 | E+1=>pts P g E++List.replicate (tE g (E+1)) ((P ^ (E+1):Nat):Int)
theorem Qv {g:Nat→Nat} (hm:∀j,j≤E→g j≤g (j+1)):∀{e:Nat},e≤E→(pts P g e).length+g 0≤g e
 | 0,_=>by simp [pts]
 | e+1,h=>by
  have ih:=Qv hm (e:=e) (by omega)
  have h1:=hm e (by omega)
  have h2:=hm (e+1) (by omega)
  rw [pts,List.length_append,List.length_replicate,tE];simp only [Nat.add_sub_cancel];omega
theorem zEE {g:Nat→Nat}:∀{e:Nat} {x:Int},x∈pts P g e→∃j,1≤j∧j≤e∧x=((P ^ j:Nat):Int)
 | 0,x,h=>by cases h
 | e+1,x,h=>by
  rw [pts,List.mem_append]at h
  rcases h with h|h
  ·obtain⟨j,h1,h2,h3⟩:=zEE h
   exact⟨j,h1,by omega,h3⟩
  ·exact⟨e+1,by omega,Nat.le_refl _,List.eq_of_mem_replicate h⟩
theorem zHY {g:Nat→Nat} (hP:0<P):∀{e:Nat},(pts P g e).Pairwise (·≤·)
 | 0=>List.Pairwise.nil
 | e+1=>by
  rw [pts,List.pairwise_append];refine⟨zHY hP,?_,fun x hx y hy=>?_⟩
  ·rw [List.pairwise_replicate];exact .inr (Int.le_refl _)
  ·obtain⟨j,_,h2,rfl⟩:=zEE hx
   rw [List.eq_of_mem_replicate hy];exact_mod_cast Nat.pow_le_pow_right hP (by omega)
end Go.Proofs
namespace Go.Grp
end Go.Grp
namespace Go.Proofs
open Go.Ab Go.Lie Go.Grp
variable {σ:PHeap} {K:PV→PHeap→Prop} {vO vP vB vC:PV} {bs O:List Int} {P W:List (List Int)} {C B:List (List (List Int))} {p:Int}
theorem zCm (hR:IsR vP vB W B) (sz:SzR W B) (hl:isLie p W B) (hk:∀c:Nat,Cls p W.length W B c→K (.tup [.int .i64 c,.int .i64 0]) σ):zA Tryz.prog 15 [.agg [.int .i64 p,vP,vB]] σ K:=by
 have h1:=hR.P.one;have h2:=hR.B.one;have o:=hl.1.w;have q:=hl.1.b;have hn6:=o.le;refine zA.gh ?_;refine zD mix Tryz.func15 ?_;simp only [pwA,seval,-iQ0,h1,h2];refine Zn hR sz fun t ht=>?_
 obtain rfl:t=true:=ht.2 hl;simp only [pwA,seval,-iQ0];refine zG5 (p:=p) (vP:=vP) (vB:=vB) ⟨by simp only [pwA,seval,-iQ0],by simp only [pwA,seval,-iQ0]⟩ hR o q hl.1.1 fun c a rows hc=>?_
 have hcn:c≤W.length+1:=by
  rcases Nat.lt_or_ge W.length c with x|x
  ·obtain⟨c',rfl⟩:∃c',c=c'+1:=⟨c-1,by omega⟩
   obtain⟨h1,h2⟩:=hc;cases h1 with
   | succ h hcan=>exact Nat.succ_le_succ (h.le o q (h2 _ _ (Nat.lt_succ_self _) h))
  ·omega
 have hw:IntKind.i64.wrap (((c+1:Nat):Int)-1)=(c:Int):=by rw [wrap64 (by omega) (by omega)];omega
 simp only [pwA,seval,-iQ0,hw];exact Gh.fin0 (zC σ _) ⟨trivial,trivial,trivial⟩ (hk c hc)
end Go.Proofs
namespace Go.Proofs
open Go.Ab Go.Lie
variable {σ:PHeap} {K:PV→PHeap→Prop} {p:Int} {n P s:Nat} {W:List (List Int)} {B:List (List (List Int))} {vP vB:PV}
structure PtsOK (P:Nat) (xs:List Int):Prop where
 pr:P=2∨P=3∨P=5∨P=7
 len:xs.length≤6
 asc:xs.Pairwise (·≤·)
 pw:∀x∈xs,∃j,1≤j∧j≤9∧x=((P ^ j:Nat):Int)∧x≤729
def FPok (f:FuncId):Prop:=∀{P:Nat} {xs:List Int} {w:Bool} {a:AV} {σ:PHeap} {K:PV→PHeap→Prop},PtsOK P xs→(∀v,FI v xs→K (.tup [.agg [v,.int .i64 0],.int .i64 0]) σ)→zA Tryz.prog f [.fz w a xs.length (pis xs),.int .i64 0] σ K
theorem take_snoc' {α:Type} {l:List α} {i:Nat} (h:i<l.length):l.take (i+1)=l.take i++[l[i]]:=by simp
set_option maxHeartbeats 1600000 in
theorem zA4 (hF:FPok 32) (hp:p=(P:Int)) (hR:IsR vP vB W B) (sz:SzR W B) (hl:isLie p W B)
  (hk:∀v E,Fst (rk p W.length W P) W.length E→FI v (pts P (gg (rk p W.length W P) W.length E) E)→K (.tup [.agg [v,.int .i64 0],.int .i64 0]) σ):zA Tryz.prog 14 [.agg [.int .i64 p,vP,vB]] σ K:=by
 have o:=hl.1.w;have hn6:=o.le;have hpr:2≤p∧p≤7:=o.pr;have h1:=hR.P.one;have h2:=hR.B.one;refine zA.gh ?_;refine zD mix Tryz.func14 ?_;simp only [pwA,seval,-iQ0,h1,h2];have hkp:Keep σ ((σ.new [.int .i64 p,vP,vB]).new [.fz true .nils 0 [],.int .i64 0]):=(zC σ _).new _;have hp2:PtrR ((σ.new [.int .i64 p,vP,vB]).new [.fz true .nils 0 [],.int .i64 0]) σ.next p vP vB:=⟨by simp only [pwA,seval,-iQ0],by show σ.next<σ.next+2;omega⟩
 have ob2:((σ.new [.int .i64 p,vP,vB]).new [.fz true .nils 0 [],.int .i64 0]).obj (σ.next+1)=some [.fz true .nils 0 [],.int .i64 0]:=by simp only [pwA,seval,-iQ0]
 have hHn:((σ.new [.int .i64 p,vP,vB]).new [.fz true .nils 0 [],.int .i64 0]).next=σ.next+2:=rfl;generalize (σ.new [.int .i64 p,vP,vB]).new [.fz true .nils 0 [],.int .i64 0]=H at *
 refine Zn hR sz fun t ht=>?_
 obtain rfl:=ht.2 hl;have hP7:2≤P∧P≤7:=by omega
 have hpw:ipow p W.length≤729:=hl.1.2.2.2.1;have hpow:P ^ W.length≤729:=by have h:=hpw;rw [hp,ipowN]at h;exact Int.ofNat_le.1 h
 have e1:H.rd1 σ.next 1=some vP:=by rw [zG hp2.obj];rfl
 have lP:pLen vP=some (.int .i64 W.length):=by
  obtain⟨wP,aP,rP,rfl,_⟩:=hR.P
  rfl
 simp only [pwA,seval,-iQ0,e1,lP,h1];refine zKH hp2 hR.P rfl hn6 hp hP7 hpow fun vE hE=>?_
 obtain⟨wE,aE,rE,rfl,hrE⟩:=hE;simp only [pwA,seval,-iQ0];obtain⟨r,hr⟩:∃r,r=rk p W.length W P:=⟨_,rfl⟩
 have r0:r 0=0:=by rw [hr];rfl
 have rS:∀e,1≤e→r e=lg P (cnt p W.length W P e):=fun e he=>by rw [hr,rk,if_neg (by omega)]
 have rle:∀e,r e≤W.length:=fun e=>by rw [hr];exact rk_le o hp
 have rfu:∀e,W.length≤e→1≤e→r e=W.length:=fun e h h'=>by rw [hr];exact zLn o hp h h'
 rw [←hr]at hk
 obtain⟨M,hM⟩:∃M,M=max 1 W.length:=⟨_,rfl⟩
 have hM6:1≤M∧W.length≤M∧M≤6:=by omega
 have el:(allE P W.length).length≤729:=by rw [qZ];exact hpow
 refine zF (fun m vs g=>∃(e:Nat) (v:PV),1≤e∧e≤M∧m=M-e∧vs=[.ptr σ.next 0,.ptr (σ.next+1) 0,.int .i64 W.length,.fz wE aE (allE P W.length).length rE,v,.int .i64 e]∧Keep H g∧PAcc H.next 1 g v e (pis (rl r e))∧∀j,1≤j→j<e→r j≠W.length) (M-1) ?_ ?_
 ·refine⟨1,_,Nat.le_refl _,hM6.1,rfl,rfl,zC _ _,?_,fun j h h'=>by omega⟩
  have e:pis (rl r 1)=[.int .i64 0]:=by rw [zD8,r0];rfl
  rw [e];exact(PSl.new _ _ rfl (Nat.le_refl _)).acc
 rintro m vs g ⟨e,v,he1,heM,rfl,rfl,kg,ha,hmin⟩
 have hpg:PtrR g σ.next p vP vB:=hp2.keep kg;have d0:g.rd1 σ.next 0=some (.int .i64 p):=by rw [zG hpg.obj];rfl
 have o1:=ha.one;simp only [pwA,seval,-iQ0];refine zF (fun m vs g'=>∃i:Nat,i≤(allE P W.length).length∧m=(allE P W.length).length-i∧vs=[.ptr σ.next 0,.ptr (σ.next+1) 0,.int .i64 W.length,.fz wE aE (allE P W.length).length rE,v,.int .i64 e,.int .i64 (((allE P W.length).take i).filter fun x=>lmul p W (p ^ e) x == List.replicate W.length 0).length,.int .i64 0,.fz wE aE (allE P W.length).length rE,.int .i64 (allE P W.length).length,.int .i64 i]∧g=g') (allE P W.length).length ?_ ?_
 ·exact⟨0,Nat.zero_le _,rfl,rfl,rfl⟩
 rintro m vs g' ⟨i,hi,rfl,rfl,rfl⟩
 simp only [pwA,seval,-iQ0];refine iteI (fun hlt=>?_) fun hge=>?_
 ·obtain⟨w4,a4,hrow⟩:=hrE.rowI hlt
  have hlt':(i:Int)<((allE P W.length).length:Int):=by omega
  have hx:El p W.length (allE P W.length)[i]:=by
   subst hp;exact zBy (by omega) (List.getElem_mem hlt)
  have wi:=wrapS hlt (by omega:(allE P W.length).length≤4611686018427387904)
  have etk:=take_snoc' hlt;simp only [pwA,seval,-iQ0,hlt,hlt',hrow,d0];refine zE6 hpg hR o hpw hx ⟨w4,a4,by rw [hx.1]⟩ fun mm ii hmm hord=>?_
  simp only [pwA,seval,-iQ0,d0];refine QQ hpr (by omega) ?_
  have hcmp:((mm:Int)≤ipow p e)↔lmul p W (p ^ e) (allE P W.length)[i]=List.replicate W.length 0:=by
   rw [hmm,zC2,hord e,hp];have h2:∀k,((P:Int) ^ k)=((P ^ k:Nat):Int):=fun k=>by push_cast;rfl
   rw [h2,h2,Int.ofNat_le];exact Nat.pow_le_pow_iff_right (by omega)
  have hcl:(((allE P W.length).take i).filter fun x=>lmul p W (p ^ e) x == List.replicate W.length 0).length≤729:=by
   have h3:=List.length_filter_le (fun x=>lmul p W (p ^ e) x == List.replicate W.length 0) ((allE P W.length).take i)
   rw [List.length_take]at h3
   omega
  by_cases hz:lmul p W (p ^ e) (allE P W.length)[i]=List.replicate W.length 0
  ·have hc1:=hcmp.2 hz
   have ef:(((allE P W.length).take (i+1)).filter fun x=>lmul p W (p ^ e) x == List.replicate W.length 0).length=(((allE P W.length).take i).filter fun x=>lmul p W (p ^ e) x == List.replicate W.length 0).length+1:=by
    have hb:(lmul p W (p ^ e) (allE P W.length)[i] == List.replicate W.length 0)=true:=by rw [hz];exact beq_self_eq_true _
    rw [etk,List.filter_append,List.length_append,List.filter_cons,if_pos hb]
    rfl
   rw [show(((((allE P W.length).take i).filter fun x=>lmul p W (p ^ e) x == List.replicate W.length 0).length:Nat):Int)=((((allE P W.length).take i).filter fun x=>lmul p W (p ^ e) x == List.replicate W.length 0).length:Int) from rfl]
   have wc:IntKind.i64.wrap (((((allE P W.length).take i).filter fun x=>lmul p W (p ^ e) x == List.replicate W.length 0).length:Int)+1)=(((((allE P W.length).take i).filter fun x=>lmul p W (p ^ e) x == List.replicate W.length 0).length+1:Nat):Int):=by rw [wrap64 (by omega) (by omega)];omega
   simp only [pwA,seval,-iQ0,hc1,wc,wi];exact⟨_,by omega,i+1,by omega,rfl,by rw [ef]⟩
  ·have hc1:¬(mm:Int)≤ipow p e:=fun h=>hz (hcmp.1 h)
   have ef:(((allE P W.length).take (i+1)).filter fun x=>lmul p W (p ^ e) x == List.replicate W.length 0).length=(((allE P W.length).take i).filter fun x=>lmul p W (p ^ e) x == List.replicate W.length 0).length:=by
    have hb:¬(lmul p W (p ^ e) (allE P W.length)[i] == List.replicate W.length 0)=true:=fun h=>hz (by simpa using h)
    rw [etk,List.filter_append,List.length_append,List.filter_cons,if_neg hb]
    rfl
   simp only [pwA,seval,-iQ0,hc1,wi];exact⟨_,by omega,i+1,by omega,rfl,by rw [ef]⟩
 have hie:i=(allE P W.length).length:=by omega
 rw [hie,List.take_length];have hcS:((allE P W.length).filter fun x=>lmul p W (p ^ e) x == List.replicate W.length 0).length=cnt p W.length W P e:=rfl
 have hcl:=zKD (p:=p) (n:=W.length) (W:=W) (P:=P) (e:=e);rw [hcS];refine zF (fun m vs g'=>∃c k:Nat,m=c∧c≤729∧k+lg P c=r e∧vs=[.ptr σ.next 0,.ptr (σ.next+1) 0,.int .i64 W.length,.fz wE aE (allE P W.length).length rE,v,.int .i64 e,.int .i64 c,.int .i64 k]∧g=g') (cnt p W.length W P e) ?_ ?_
 ·exact⟨_,0,rfl,by omega,by rw [rS e he1];omega,rfl,rfl⟩
 rintro c vs g' ⟨c',k,hcc,hc7,hck,rfl,rfl⟩
 subst hcc;have hre:=rle e;simp only [pwA,seval,-iQ0];refine iteI (fun hgt=>?_) fun hle=>?_
 ·have hc1:1<c:=by omega
  have hst:=zB8 hP7.1 hc1;have hlt2:c / P<c:=Nat.div_lt_self (by omega) (by omega)
  have ed:(c:Int).tdiv p=((c / P:Nat):Int):=by rw [hp];rfl
  obtain⟨dd,hdd⟩:∃dd,dd=c / P:=⟨_,rfl⟩
  rw [←hdd]at hst hlt2 ed
  have hpn:¬p=0:=by omega
  have wk:IntKind.i64.wrap ((k:Int)+1)=((k+1:Nat):Int):=by rw [wrap64 (by omega) (by omega)];omega
  have wd:IntKind.i64.wrap ((dd:Nat):Int)=((dd:Nat):Int):=by rw [wrap64 (by omega) (by omega)]
  simp only [pwA,seval,-iQ0,d0,ed,hpn,wk,wd];exact⟨_,hlt2,_,k+1,rfl,by omega,by omega,rfl⟩
 have hkr:k=r e:=by rw [zCz (by omega)]at hck;omega
 subst hkr;simp only [pwA,seval,-iQ0,o1];refine PAcc.push (bytes:=8) kg ha (by omega) (by omega) fun v' g' k' a'=>?_
 have o2:=a'.one;have ee:pis (rl r (e+1))=pis (rl r e)++[.int .i64 (r e)]:=by rw [zD8];simp [pis]
 by_cases hrn:r e=W.length
 rotate_left
 ·have heM2:e<M:=by
   rcases Nat.lt_or_ge e M with q|q
   ·exact q
   ·exact absurd (rfu e (by omega) he1) hrn
  have hrn':¬(r e:Int)=(W.length:Int):=by omega
  have we:IntKind.i64.wrap ((e:Int)+1)=((e+1:Nat):Int):=by rw [wrap64 (by omega) (by omega)];omega
  simp only [pwA,seval,-iQ0,o2,hrn,hrn',we];exact⟨_,by omega,e+1,v',by omega,by omega,rfl,rfl,k',by rw [ee];exact .inr a',fun j h1 h2=>by
   rcases Nat.lt_or_ge j e with q|q
   ·exact hmin j h1 q
   ·have:j=e:=by omega
    rw [this];exact hrn⟩
 have hrn':(r e:Int)=(W.length:Int):=by omega
 have hgn:=k'.next;have a2:PAcc H.next 1 g' v' (e+1) (pis (rl r (e+1))):=by rw [ee];exact .inr a'
 simp only [pwA,seval,-iQ0,o2,hrn,hrn'];refine PAcc.push (bytes:=8) k' a2 (by omega) (by omega) fun v2 g2 k2 b2=>?_
 have o3:=b2.one;obtain⟨G,hG⟩:∃G,G=gg r W.length e:=⟨_,rfl⟩
 have eG:pis (rl r (e+1))++[.int .i64 W.length]=pis (rl G (e+2)):=by
  rw [zD8 G,show rl G (e+1)=rl r (e+1) from zKW fun j hj=>by rw [hG,gg,if_pos (by omega)]]
  have:G (e+1)=W.length:=by rw [hG,gg,if_neg (by omega)]
  rw [this];simp [pis]
 rw [eG]at b2
 simp only [pwA,seval,-iQ0,o3];have G0:G 0=0:=by rw [hG,gg,if_pos (Nat.zero_le _)];exact r0
 have Gle:∀j,G j≤W.length:=fun j=>by
  rw [hG,gg]
  split
  ·exact rle j
  ·exact Nat.le_refl _
 have Gm:∀j,j≤e→G j≤G (j+1):=fun j hj=>by
  rcases Nat.lt_or_ge j e with q|q
  ·rw [hG,gg,gg,if_pos hj,if_pos (by omega),hr]
   exact zHV o hp (by omega)
  ·have:G (j+1)=W.length:=by rw [hG,gg,if_neg (by omega)]
   rw [this];exact Gle j
 have hpl:∀{q},q≤e→(pts P G q).length≤6:=fun {q} hq=>by
  have h1:=Qv (P:=P) Gm hq;have h2:=Gle q;omega
 obtain⟨s2,cap2,rfl,hc2,hob,hlen,hb2,hlt2⟩:=b2;have hrd:∀{h':PHeap},Keep g2 h'→∀{j},j<e+2→h'.rd1 s2 j=some (.int .i64 (G j)):=fun {h'} kh {j} hj=>by
  rw [zG (by rw [kh.obj _ hlt2];exact hob),zN,zMk hj]
  rfl
 have hkg2:Keep σ g2:=hkp.trans k2;refine zF (fun m vs h'=>∃(q:Nat) (vq:PV),1≤q∧q≤e+1∧m=e+1-q∧vs=[.ptr σ.next 0,.ptr (σ.next+1) 0,.sl s2 0 (e+2) cap2,vq,.int .i64 q]∧Keep g2 h'∧PAcc g2.next 1 h' vq (pts P G (q-1)).length (pis (pts P G (q-1)))) e ?_ ?_
 ·exact⟨1,_,Nat.le_refl _,by omega,by omega,rfl,Keep.refl _,PAcc.nil _ _ _⟩
 rintro m vs h' ⟨q,vq,hq1,hqe,rfl,rfl,kh,ac⟩
 have wq:IntKind.i64.wrap ((q:Int)+1)=((q+1:Nat):Int):=by rw [wrap64 (by omega) (by omega)];omega
 have ov:=ac.one;simp only [pwA,seval,-iQ0,wq];refine iteI (fun hlt=>?_) fun hge=>?_
 ·have hq2:q≤e:=by omega
  have hqd:(q:Int)<((e+2:Nat):Int):=by omega
  have hqn:q<e+2:=by omega
  have wq1:IntKind.i64.wrap ((q:Int)-1)=((q-1:Nat):Int):=by rw [wrap64 (by omega) (by omega)];omega
  have hq1d:((q-1:Nat):Int)<((e+2:Nat):Int):=by omega
  have hq1n:q-1<e+2:=by omega
  have hq3n:q+1<e+2:=by omega
  have hq3d:((q+1:Nat):Int)<((e+2:Nat):Int):=by omega
  have l1:=hrd kh hqn;have l2:=hrd kh hq1n;have l3:=hrd kh hq3n;have b1:=Gle q;have b2':=Gle (q-1);have b3:=Gle (q+1);have wA:IntKind.i64.wrap (2*(G q:Int))=2*(G q:Int):=wrap64 (by omega) (by omega)
  have wB:IntKind.i64.wrap (2*(G q:Int)-(G (q-1):Int))=2*(G q:Int)-(G (q-1):Int):=wrap64 (by omega) (by omega)
  have wC:IntKind.i64.wrap (2*(G q:Int)-(G (q-1):Int)-(G (q+1):Int))=2*(G q:Int)-(G (q-1):Int)-(G (q+1):Int):=wrap64 (by omega) (by omega)
  simp only [pwA,seval,-iQ0,hqd,hqn,wq1,hq1d,hq1n,wq,hq3n,hq3d,l1,l2,l3,wA,wB,wC];obtain⟨X,hX⟩:∃X,X=pts P G (q-1):=⟨_,rfl⟩
  rw [←hX]at ac
  have hXl:X.length≤6:=by rw [hX];exact hpl (by omega)
  have eX:pts P G q=X++List.replicate (tE G q) ((P ^ q:Nat):Int):=by
   rw [hX,show q=q-1+1 by omega,pts]
   rfl
  have hXl2:=hpl hq2;rw [eX,List.length_append,List.length_replicate]at hXl2
  have hT:tE G q=(2*(G q:Int)-(G (q-1):Int)-(G (q+1):Int)).toNat:=by unfold tE;omega
  generalize hTT:2*(G q:Int)-(G (q-1):Int)-(G (q+1):Int)=T at *
  refine zF (fun m vs h3=>∃(k:Nat) (v3:PV),k≤tE G q∧m=tE G q-k∧vs=[.ptr σ.next 0,.ptr (σ.next+1) 0,.sl s2 0 (e+2) cap2,v3,.int .i64 q,.int .i64 T,.int .i64 k]∧Keep g2 h3∧PAcc g2.next 1 h3 v3 (X.length+k) (pis (X++List.replicate k ((P ^ q:Nat):Int)))) (tE G q) ?_ ?_
  ·exact⟨0,_,Nat.zero_le _,rfl,rfl,kh,by rw [List.replicate_zero,List.append_nil];exact ac⟩
  rintro m vs h3 ⟨k,v3,hk3,rfl,rfl,k3,ac3⟩
  have o3:=ac3.one;have d3:h3.rd1 σ.next 0=some (.int .i64 p):=by rw [k3.rd1 (by have:=hkg2.next;have:=k'.next;have:=k2.next;omega),zG (hp2.keep k2).obj];rfl
  simp only [pwA,seval,-iQ0];refine iteI (fun hkt=>?_) fun hkg=>?_
  ·have hkn:k<tE G q:=by omega
   have wk:IntKind.i64.wrap ((k:Int)+1)=((k+1:Nat):Int):=by rw [wrap64 (by omega) (by omega)];omega
   simp only [pwA,seval,-iQ0,d3,o3];refine QQ hpr (by omega) ?_
   simp only [pwA,seval,-iQ0,o3];refine PAcc.push (bytes:=8) k3 ac3 (by omega) (by omega) fun v4 h4 k4 a4=>?_
   have o4:=a4.one;simp only [pwA,seval,-iQ0,o4,wk];have e4:pis (X++List.replicate (k+1) ((P ^ q:Nat):Int))=pis (X++List.replicate k ((P ^ q:Nat):Int))++[.int .i64 (ipow p q)]:=by
    rw [List.replicate_succ',←List.append_assoc,hp,ipowN];simp [pis]
   exact⟨_,by omega,k+1,v4,by omega,rfl,rfl,k4,by rw [e4,←Nat.add_assoc];exact .inr a4⟩
  ·have hke:k=tE G q:=by omega
   subst hke;have wq':IntKind.i64.wrap ((q:Int)+1)=((q+1:Nat):Int):=wq;simp only [pwA,seval,-iQ0,o3,wq'];exact⟨_,by omega,q+1,v3,by omega,by omega,rfl,rfl,k3,by rw [show q+1-1=q by omega,eX,List.length_append,List.length_replicate];exact ac3⟩
 have hqq:q=e+1:=by omega
 subst hqq;rw [show e+1-1=e by omega]at ac
 simp only [pwA,seval,-iQ0,ov];have hpP:P=2∨P=3∨P=5∨P=7:=by
  have h:=hl.1.1;unfold isP at h
  omega
 have PO:PtsOK P (pts P G e):=by
  refine⟨hpP,hpl (Nat.le_refl _),zHY (by omega),fun x hx=>?_⟩
  obtain⟨j,j1,j2,rfl⟩:=zEE hx;refine⟨j,j1,by omega,rfl,?_⟩
  have hlen1:0<(pts P G e).length:=List.length_pos_of_mem hx;have h1:=Qv (P:=P) Gm (Nat.le_refl e);have h2:=Gle e;have h3:P ^ j≤P ^ W.length:=Nat.pow_le_pow_right (by omega) (by omega)
  have h4:P ^ j≤729:=by omega
  exact Int.ofNat_le.2 h4
 have hFst:Fst r W.length e:=⟨he1,hrn,hmin⟩;rw [hG]at PO ac
 have kHh:Keep H h':=k2.trans kh;have kσh:Keep σ h':=hkp.trans kHh;have obh:h'.obj (σ.next+1)=some [.fz true .nils 0 [],.int .i64 0]:=by rw [kHh.obj _ (by omega)];exact ob2
 have hne2:=kh.next;have hne3:=k2.next;have hne4:=k'.next;have fin:∀{hh:PHeap} {v:PV},Keep σ hh→hh.obj (σ.next+1)=some [.fz true .nils 0 [],.int .i64 0]→FI v (pts P (gg r W.length e) e)→
   hh.wr (σ.next+1) 0 [v,.int .i64 0]=some (hh.set (σ.next+1) [v,.int .i64 0])∧(hh.set (σ.next+1) [v,.int .i64 0]).rd (σ.next+1) 0 2=some [v,.int .i64 0]∧Gh σ K (.tup [.agg [v,.int .i64 0],.int .i64 0]) (hh.set (σ.next+1) [v,.int .i64 0]):=fun {hh v} kk ob fv=>
  ⟨by rw [qH ob,if_pos ⟨by simp,by simp only [List.all_cons,List.all_nil,fv.one,Bool.and_true];rfl⟩];rfl,by rw [qO,if_pos rfl];rfl,Gh.fin0 (kk.set (by omega) _) ⟨⟨fv.bel _,trivial,trivial⟩,trivial,trivial⟩ (hk v e hFst fv)⟩
 rcases ac with ⟨rfl,hl0,hc0⟩|⟨s3,cap3,rfl,q1,q2,q3,q4,q5⟩
 ·have e0:PV.fz true .nils 0 []=.fz true .nils (pts P (gg r W.length e) e).length (pis (pts P (gg r W.length e) e)):=by rw [hl0,hc0]
  rw [e0];refine hF PO fun v fv=>?_
  obtain⟨f1,f2,f3⟩:=fin kσh obh fv;simp only [pwA,seval,-iQ0,fv.one,f1,f2];exact f3
 ·refine zA.frz (s:=s3) (cs:=pis (pts P (gg r W.length e) e)) q2 (zZ _ _) fun o3=>?_
  simp only [sbs,sb];rw [if_pos ⟨trivial,trivial,q1.ok⟩];refine hF PO fun v fv=>?_
  obtain⟨f1,f2,f3⟩:=fin (hh:=h'.kill s3) (kσh.kill (by omega)) (by simp only [PHeap.kill];rw [if_neg (by omega)];exact obh) fv
  simp only [pwA,seval,-iQ0,fv.one,f1,f2];exact f3
end Go.Proofs
namespace Go.Grp
end Go.Grp
namespace Go.Proofs
open Go.Ab Go.Lie Go.Grp
variable {σ h h':PHeap} {K:PV→PHeap→Prop} {p lim:Int} {n s:Nat} {W:List (List Int)} {B:List (List (List Int))} {vC vP vB:PV} {bs:List Int} {u:List (List Int)}
theorem zHB {p:Int} {n:Nat} (hp:1≤p∧p≤11) (hn:n≤6) (hk:∀k,K (.int .i64 k) σ):zA Tryz.prog 76 [.int .i64 p,.int .i64 n] σ K:=by
 refine zD mix Tryz.func76 ?_;simp only [pwA,seval,-iQ0];refine zF (fun m vs h'=>∃(i:Nat) (k:Int),i≤n∧m=n-i∧1≤k∧k≤8019∧vs=[.int .i64 p,.int .i64 n,.int .i64 k,.int .i64 i]∧h'=σ) n ⟨0,1,by omega,by omega,by omega,by omega,rfl,rfl⟩ ?_
 rintro m vs h' ⟨i,k,hi,rfl,k1,k2,rfl,rfl⟩
 by_cases hlt:i<n
 ·by_cases hle:k≤729
  ·have e1:=Int.mul_le_mul_of_nonneg_left hp.1 (show 0≤k by omega)
   have e2:=Int.mul_le_mul_of_nonneg_left hp.2 (show 0≤k by omega)
   simp only [pwA,seval,-iQ0,hlt,hle,wrapS (n:=n) hlt (by omega),wrap64 (n:=k*p) (by omega) (by omega)]
   exact⟨_,by omega,i+1,k*p,by omega,rfl,by omega,by omega,rfl⟩
  ·simp only [pwA,seval,-iQ0,hlt,hle]
   exact hk _
 ·simp only [pwA,seval,-iQ0,hlt]
  exact hk _
theorem zCZ (so:So σ s vC bs) (hk:∀p vP vB W B h,DrR p W B→IsR vP vB W B→Mv σ s h→So h s vC bs→K (.agg [.int .i64 p,vP,vB]) h):zA Tryz.prog 35 [.ptr s 0,.int .i64 lim] σ K:=by
 have hsl:=so.lt;refine zA.gh ?_;generalize hT:σ.new [.int .i64 0,.fz true .nils 0 [],.fz true .nils 0 []]=T;have hTn:T.next=σ.next+1:=by rw [←hT];rfl
 have hkT:Keep σ T:=by rw [←hT];exact zC σ _
 have soT:So T s vC bs:=so.keep hkT;have hsT:s<T.next:=soT.lt;have obT:T.obj σ.next=some [.int .i64 0,.fz true .nils 0 [],.fz true .nils 0 []]:=by rw [←hT];simp only [pwA,seval,-iQ0]
 have hres:∀{g:PHeap} {u0 u1 u2:PV},KM T s g→u0.one=true→u1.one=true→u2.one=true→g.wr σ.next 0 [u0,u1,u2]=some (g.set σ.next [u0,u1,u2])∧(g.set σ.next [u0,u1,u2]).rd σ.next 0 3=some [u0,u1,u2]:=fun {g u0 u1 u2} k z0 z1 z2=>by
  have hres:g.obj σ.next=some [.int .i64 0,.fz true .nils 0 [],.fz true .nils 0 []]:=by rw [k.obj (by omega) (by omega)];exact obT
  exact⟨by rw [qH hres,if_pos ⟨by simp,by simp only [List.all_cons,List.all_nil,z0,z1,z2];rfl⟩];rfl,by rw [qO,if_pos rfl];rfl⟩
 refine zD mix Tryz.func35 ?_;simp only [pwA,seval,-iQ0];rw [hT];refine zF (fun m us h=>∃i:Nat,i≤12∧m=12-i∧us=[.ptr s 0,.int .i64 lim,.ptr σ.next 0,.int .i64 i]∧KM T s h∧So h s vC bs) 12 ⟨0,by omega,by omega,rfl,soT.km,soT⟩ ?_
 rintro m us h ⟨i,hi,rfl,rfl,km,so1⟩
 simp only [pwA,seval,-iQ0];refine iteI (fun hlt=>?_) fun hge=>?_
 rotate_left
 ·refine zBH (n:=2) (by omega) (by omega) fun sP capP cs sB capB ls h5 k5 rs5=>?_
  obtain⟨x1,x2⟩:=hres (u0:=.int .i64 3) (u1:=.sl sP 0 2 capP) (u2:=.sl sB 0 2 capB) (km.keep k5) rfl rfl rfl;simp only [pwA,seval,-iQ0,x1,x2];have hTh:=km.next;refine Gh.km (((so.kmK hkT).trans hsl (km.keep k5)).set (Nat.le_refl _) _) ((so1.keep k5).set (by omega) _) hsl fun σ' m' so' kp=>?_
  refine RS.fin ((rs5.low (b':=σ'.next) (by rw [m'.next];omega)).move (fun t ht=>?_) (Nat.le_refl _)) kp (Nat.le_refl _) fun vP vB hR=>hk 3 vP vB _ _ σ' (DrR.ok (.inr (.inl rfl)) (OkF.zero (by unfold okp;omega) (by omega))) hR m' so'
  have:=(rs5.lt ht).1
  rw [zH,if_neg (by omega)]
 refine zIb so1 fun p vP vB W B h2 d hR m2 so2=>?_
 have km2:=km.mv hsT m2;have g1:=hR.P.one;have g2:=hR.B.one;have hpb:=d.p;have hwl:=d.wl;have h2n:=km2.next;have wi1:IntKind.i64.wrap ((i:Int)+1)=((i+1:Nat):Int):=by rw [wrap64 (by omega) (by omega)];omega
 have so3:So (h2.new [.int .i64 p,vP,vB]) s vC bs:=so2.keep (zC _ _);have km3:KM T s (h2.new [.int .i64 p,vP,vB]):=km2.new _;have rd3:(h2.new [.int .i64 p,vP,vB]).rd h2.next 0 3=some [.int .i64 p,vP,vB]:=by simp only [pwA,seval,-iQ0]
 have rd0:(h2.new [.int .i64 p,vP,vB]).rd1 h2.next 0=some (.int .i64 p):=by simp only [pwA,seval,-iQ0]
 have rd1:(h2.new [.int .i64 p,vP,vB]).rd1 h2.next 1=some vP:=by simp only [pwA,seval,-iQ0]
 simp only [pwA,seval,-iQ0,g1,g2];generalize h2.new [PV.int .i64 p,vP,vB]=H at *
 have hR0:=hR;obtain⟨⟨wp,ap,rp,rfl,hrp⟩,hRB⟩:=hR0;simp only [pwA,seval,-iQ0];refine zHB hpb hwl fun k=>?_
 by_cases hkl:k≤lim
 ·obtain⟨x1,x2⟩:=hres (u0:=.int .i64 p) (u1:=.fz wp ap W.length rp) (u2:=vB) km3 rfl g1 g2
  simp only [pwA,seval,-iQ0,hkl,decide_true,rd3,x1,x2,g2];refine Gh.km (((so.kmK hkT).trans hsl km3).set (Nat.le_refl _) _) (so3.set (by omega) _) hsl fun σ' m' so' kp=>?_
  exact Gh.fin0 kp ⟨trivial,hR.P.bel _,hR.B.bel _,trivial⟩ (hk p _ vB W B σ' d hR m' so')
 ·simp only [pwA,seval,-iQ0,hkl,decide_false,wi1]
  exact⟨_,by omega,i+1,by omega,rfl,rfl,km3,so3⟩
end Go.Proofs
namespace Go.Ab
variable {P:Program} {σ h:PHeap} {K:PV→PHeap→Prop} {Q:Exit→PEnv→PHeap→Prop} {E:PEnv}
def SVp (P:Program) (c:IC) (Q:Exit→PEnv→PHeap→Prop) (E:PEnv) (σ:PHeap):Prop:=
 ∀(ι:Nat→Nat) (Z:Nat→Prop) (h:AHeap),Rel ι Z σ h→EOK Z h σ.next E→∀Q1,RestC ι Z σ h Q Q1→vc P c Q1 (erE ι E) h
theorem zI2 {c:IC} (hk:vp P c Q E σ):SVp P c Q E σ:=fun ι Z h r he Q1 hr=>ZM c r he hk hr
def vps (P:Program) (Q:Exit→PEnv→PHeap→Prop) (K:PEnv→PHeap→Prop):List IC→PEnv→PHeap→Prop
 | [],e,h=>K e h
 | a::l,e,h=>vp P a (fun x e' h'=>match x with | .normal=>vps P Q K l e' h' | x=>Q x e' h') e h
def seqs:List IC→IC→IC
 | [],t=>t
 | a::l,t=>.seq a (seqs l t)
theorem zLm {a b:IC} (ha:vp P a (fun x e' h'=>match x with | .normal=>SVp P b Q e' h' | x=>Q x e' h') E σ):SVp P (.seq a b) Q E σ:=by
 intro ι Z h r he Q1 hr;show vc P a _ _ _;refine ZM a r he ha ?_;intro x E' σ' ι' Z' h' r' a' e' k';cases x with
 | normal=>exact k' ι' Z' h' r' e' Q1 (hr.later a')
 | ret=>exact hr _ E' σ' ι' Z' h' r' a' e' k'
 | exit id=>exact hr _ E' σ' ι' Z' h' r' a' e' k'
 | goto l=>exact hr _ E' σ' ι' Z' h' r' a' e' k'
 | panic ch=>exact hr _ E' σ' ι' Z' h' r' a' e' k'
 | outgrown=>exact hr _ E' σ' ι' Z' h' r' a' e' k'
theorem zFR:∀(l:List IC) (T:IC) {E:PEnv} {σ:PHeap},vps P Q (fun e h=>SVp P T Q e h) l E σ→SVp P (seqs l T) Q E σ
 | [],T,E,σ,hk=>hk
 | a::l,T,E,σ,hk=>by
  refine zLm (a:=a) (b:=seqs l T) ?_;have key:∀{Q1 Q2:Exit→PEnv→PHeap→Prop},(∀x e h,Q1 x e h→Q2 x e h)→vp P a Q1 E σ→vp P a Q2 E σ:=fun hm hv=>Zb a hm hv
  refine key ?_ hk;intro x e h q;cases x with
  | normal=>exact zFR l T q
  | ret=>exact q
  | exit id=>exact q
  | goto l=>exact q
  | panic ch=>exact q
  | outgrown=>exact q
theorem zE3 (hmix:P.follows .mixedOrders=true) {f:FuncId} {fn:Func} {ifn:IFn} (hf:P.funcs[f]? = some fn) (hc:cF P fn=some ifn) {args:List PV} {K:PV→PHeap→Prop} (hl:args.length=ifn.params.length)
  (hk:SVp P ifn.body (retP ifn.res K) (PEnv.mk ifn.params args) σ):zA P f args σ K:=by
 intro ι Z h r va;refine zBz hmix hf hc (by rw [zR];exact hl) ?_
 rw [←zAM];refine hk ι Z h r (EOK.mk va) _ ?_;intro x E' σ' ι' Z' h' r' a' e' k';have fin:optK (qd ifn.res E' σ') (fun vs=>K (packP vs) σ')→optK (rvals ifn.res (erE ι' E') h') fun vs=>Up ι Z σ h K (packR vs) h':=by
  rintro ⟨vs,hv,hk⟩
  obtain⟨h1,h2⟩:=QF r' e' hv;obtain⟨h3,h4⟩:=zCW (ι:=ι') h2;exact⟨_,h1,packP vs,σ',ι',Z',r',a',h4,h3,hk⟩
 cases x with
 | normal=>exact fin k'
 | ret=>exact fin k'
 | exit id=>exact k'.elim
 | goto l=>exact k'.elim
 | panic ch=>exact k'.elim
 | outgrown=>exact k'.elim
end Go.Ab
namespace Go.Grp
end Go.Grp
namespace Go.Ab
variable {P:Program}
theorem Z5 {a b:IC} {Q:Exit→PEnv→PHeap→Prop} {e:PEnv} {h:PHeap} (J:PEnv→PHeap→Prop) (ha:vp P a (fun x e' h'=>x=.normal∧J e' h') e h) (hb:∀e' h',J e' h'→vp P b Q e' h'):vp P (.seq a b) Q e h:=by
 show vp P a _ e h;refine Zb a (fun x e' h' hj=>?_) ha
 obtain⟨rfl,hj⟩:=hj;exact hb e' h' hj
theorem zBP {id:Nat} {c b:IC} {Q:Exit→PEnv→PHeap→Prop} {e:PEnv} {h:PHeap} (J:PEnv→PHeap→Prop) (ha:vp P c (fun x e' h'=>x=.normal∧J e' h') e h) (hb:∀e' h',J e' h'→vp P b Q e' h'):vp P (.seq (.block id c) b) Q e h:=by
 refine Z5 J ?_ hb;show vp P c _ e h;refine Zb c (fun x e' h' hj=>?_) ha
 obtain⟨rfl,hj⟩:=hj;exact⟨rfl,hj⟩
end Go.Ab
namespace Go.Proofs
open Go.Ab Go.Lie Go.Grp
variable {σ h h':PHeap} {K:PV→PHeap→Prop} {p lim:Int} {n s:Nat} {W:List (List Int)} {B:List (List (List Int))} {vC vP vB:PV} {bs:List Int} {u:List (List Int)}
def EVm (e:PEnv) (a t r:Nat) (v w:PV) (i:Nat):Prop:=e 2=.ptr a 0∧e 3=.ptr (a+1) 0∧e 5=.ptr t 0∧e 6=.ptr r 0∧e 7=.ptr (r+1) 0∧e 8=v∧e 9=w∧e 10=.int .i64 i
abbrev nilR:List PV:=[.int .i64 0,.fz true .nils 0 [],.fz true .nils 0 []]
set_option maxHeartbeats 1600000 in
theorem zIY (hb:FB vC bs) (hB:Byt bs) (hk:∀p vP vB W B p' vP' vB' W' B' vL im,DrR p W B→IsR vP vB W B→DrR p' W' B'→IsR vP' vB' W' B'→FII vL im→SzL im→K (.tup [.agg [.int .i64 p,vP,vB],.agg [.int .i64 p',vP',vB'],vL]) σ):zA Tryz.prog 17 [vC] σ K:=by
 refine zA.gh ?_;generalize hT:(σ.new nilR).new nilR=T;have hTn:T.next=σ.next+2:=by rw [←hT];rfl
 have hkT:Keep σ T:=by rw [←hT];exact(zC σ _).new _
 have obA:T.obj σ.next=some nilR:=by rw [←hT];simp only [pwA,seval,-iQ0]
 have obB:T.obj (σ.next+1)=some nilR:=by rw [←hT];simp only [pwA,seval,-iQ0]
 refine zE3 mix Tryz.func17 cf17 rfl ?_;dsimp only [if17,eI,qD,eD,mI0,kI0,lI0,LI0,fI0,xI0,bI0,cI0,nI0,sI0,C1,C2,mD0,lD0,fD0,xD0,I0,G0,gm0,oI0,aI0,zI0,vI0,wD0,R0,S0];refine zFR [_,_,_,_,_] _ ?_;generalize hR0:(fun(e:PEnv) (h:PHeap)=>SVp Tryz.prog _ _ e h)=R0
 have rest:∀{p:Int} {vP vB:PV} {W:List (List Int)} {B:List (List (List Int))} {p':Int} {vP' vB':PV} {W':List (List Int)} {B':List (List (List Int))} {g:PHeap} {U:PHeap} {ρ:Nat} {E:PEnv},DrR p W B→IsR vP vB W B→DrR p' W' B'→IsR vP' vB' W' B'→
   Keep T U→KM U T.next g→So g T.next vC bs→T.next<U.next→ρ+1<g.next→U.next≤ρ→g.obj ρ=some [.int .i64 p,vP,vB]→g.obj (ρ+1)=some [.int .i64 p',vP',vB']→
   E 2=.ptr σ.next 0→E 3=.ptr (σ.next+1) 0→E 5=.ptr T.next 0→E 6=.ptr ρ 0→E 7=.ptr (ρ+1) 0→R0 E g:=by
  intro p vP vB W B p' vP' vB' W' B' g U ρ E d hR d' hR' kTU km so hsU hρg hUρ ob1 ob2 E2 E3 E5 E6 E7;rw [←hR0];clear hR0;refine zI2 ?_;have g1:=hR.P.one;have g2:=hR.B.one;have f1:=hR'.P.one;have f2:=hR'.B.one;have hTU:=kTU.next;have hUg:=km.next
  -- what is kept
  have kρ:∀{g':PHeap},KM g T.next g'→g'.rd ρ 0 3=some [.int .i64 p,vP,vB]∧g'.rd (ρ+1) 0 3=some [.int .i64 p',vP',vB']∧g'.rd1 ρ 1=some vP∧g'.rd1 (ρ+1) 1=some vP'∧g'.rd1 (ρ+1) 0=some (.int .i64 p')∧g'.obj σ.next=some nilR∧g'.obj (σ.next+1)=some nilR:=fun {g'} k=>by
   have o1:g'.obj ρ=some [.int .i64 p,vP,vB]:=by rw [k.obj (by omega) (by omega)];exact ob1
   have o2:g'.obj (ρ+1)=some [.int .i64 p',vP',vB']:=by rw [k.obj hρg (by omega)];exact ob2
   have kk:=km.trans hsU k;have kT':Keep T g':=kk.keepOf kTU (Nat.le_refl _);exact⟨by rw [zf o1];rfl,by rw [zf o2];rfl,by rw [zG o1];rfl,by rw [zG o2];rfl,by rw [zG o2];rfl,by rw [kT'.obj _ (by omega)];exact obA,by rw [kT'.obj _ (by omega)];exact obB⟩
  have lP:pLen vP=some (.int .i64 W.length):=by
   obtain⟨wP,aP,rP,rfl,_⟩:=hR.P
   rfl
  have lP':pLen vP'=some (.int .i64 W'.length):=by
   obtain⟨wP,aP,rP,rfl,_⟩:=hR'.P
   rfl
  have km0:KM g T.next g:=so.km;obtain⟨r1,r2,_⟩:=kρ km0;have nn1:¬ρ+1=g.next:=by omega
  have nn2:¬ρ=g.next:=by omega
  have nn3:¬ρ+1=σ.next:=by omega
  simp only [pwA,seval,-iQ0,E2,E3,E5,E6,E7,r1,r2,nn1,nn2,g1,g2,f1,f2];have kmN:KM g T.next (g.new []):=km0.new _;have soN:So (g.new []) T.next vC bs:=so.keep (zC _ _);have acN:PSl g.next 1 (g.new []) (.sl g.next 0 0 (.known 0)) 0 []:=PSl.new g.next 1 (cs:=[]) rfl (Nat.le_refl _);have hgN:(g.new []).next=g.next+1:=rfl;obtain⟨r1,r2,r3,r4,r5,r6,r7⟩:=kρ kmN;generalize g.new []=gN at *
  -- the end
  have fin:∀{g':PHeap} {v:PV} {im:List (List Int)} {rows:List PV},KM g T.next g'→So g' T.next vC bs→PSl g.next 1 g' v im.length rows→All2 FI rows im→SzL im→
    g'.wr σ.next 0 [.int .i64 p,vP,vB]=some (g'.set σ.next [.int .i64 p,vP,vB])∧(g'.set σ.next [.int .i64 p,vP,vB]).wr (σ.next+1) 0 [.int .i64 p',vP',vB']=some ((g'.set σ.next [.int .i64 p,vP,vB]).set (σ.next+1) [.int .i64 p',vP',vB'])∧
    ((g'.set σ.next [.int .i64 p,vP,vB]).set (σ.next+1) [.int .i64 p',vP',vB']).rd σ.next 0 3=some [.int .i64 p,vP,vB]∧((g'.set σ.next [.int .i64 p,vP,vB]).set (σ.next+1) [.int .i64 p',vP',vB']).rd (σ.next+1) 0 3=some [.int .i64 p',vP',vB']∧
    Gh σ K (.tup [.agg [.int .i64 p,vP,vB],.agg [.int .i64 p',vP',vB'],v]) ((g'.set σ.next [.int .i64 p,vP,vB]).set (σ.next+1) [.int .i64 p',vP',vB']):=fun {g' v im rows} k sog ac hr szl=>by
   obtain⟨q1,q2,q3,q4,q5,q6,q7⟩:=kρ k;have kk:=km.trans hsU k;have kT':Keep σ g':=hkT.trans (kk.keepOf kTU (Nat.le_refl _));have k2:Keep σ ((g'.set σ.next [.int .i64 p,vP,vB]).set (σ.next+1) [.int .i64 p',vP',vB']):=(kT'.set (Nat.le_refl _) _).set (by omega) _
   refine⟨by rw [qH q6,if_pos ⟨by simp,by simp only [List.all_cons,List.all_nil,g1,g2,Bool.and_true];rfl⟩];rfl,by rw [qH (by rw [zH,if_neg (by omega)];exact q7),if_pos ⟨by simp,by simp only [List.all_cons,List.all_nil,f1,f2,Bool.and_true];rfl⟩];rfl,by rw [qO,if_neg (by omega),qO,if_pos rfl];rfl,by rw [qO,if_pos rfl];rfl,?_⟩
   have ac2:PAcc g.next 1 ((g'.set σ.next [.int .i64 p,vP,vB]).set (σ.next+1) [.int .i64 p',vP',vB']) v im.length rows:=(ac.acc.set (by omega) _).set (by omega) _
   have hb0:=(hr.bI 0);rcases ac2 with ⟨rfl,hl0,rfl⟩|⟨t,cap,rfl,c1,c2,c3,c4,c5⟩
   ·have:im=[]:=List.eq_nil_of_length_eq_zero hl0
    subst this;exact Gh.fin0 k2 ⟨⟨trivial,hR.P.bel _,hR.B.bel _,trivial⟩,⟨trivial,hR'.P.bel _,hR'.B.bel _,trivial⟩,trivial,trivial⟩ (hk _ _ _ _ _ _ _ _ _ _ _ [] d hR d' hR' ⟨true,.nils,[],rfl,All2.nil _⟩ szl)
   ·refine Gh.freeze (s:=t) (cs:=rows) c2 (by omega) hb0 fun o _ _ _=>?_
    simp only [sb,sbs,hR.P.sb,hR.B.sb,hR'.P.sb,hR'.B.sb];rw [if_pos ⟨trivial,trivial,c1.ok⟩];exact Gh.fin0 ((k2.kill (by omega)).up (by simp only [PHeap.kill];omega)) ⟨⟨trivial,hR.P.bel _,hR.B.bel _,trivial⟩,⟨trivial,hR'.P.bel _,hR'.B.bel _,trivial⟩,trivial,trivial⟩ (hk _ _ _ _ _ _ _ _ _ _ _ im d hR d' hR' ⟨true,_,rows,rfl,hr⟩ szl)
  refine QM hR' d'.sz fun t ht=>?_
  have sz0:SzL ([]:List (List Int)):=⟨by simp,fun x hx=>by cases hx⟩
  cases t with
  | false=>
   obtain⟨w1,w2,w3,w4,w5⟩:=fin (im:=[]) kmN soN acN (All2.nil _) sz0;simp only [pwA,seval,-iQ0,r1,r2,g1,g2,f1,f2,w1,w2,w3,w4,nn3];exact w5
  | true=>
  have hl':=ht.1 rfl;simp only [pwA,seval,-iQ0,r1,g1,g2];refine QM hR d.sz fun t2 ht2=>?_
  cases t2 with
  | false=>
   obtain⟨w1,w2,w3,w4,w5⟩:=fin (im:=[]) kmN soN acN (All2.nil _) sz0;simp only [pwA,seval,-iQ0,r1,r2,g1,g2,f1,f2,w1,w2,w3,w4,nn3];exact w5
  | true=>
  have hl:=ht2.1 rfl
  by_cases hw0:W'.length=0
  ·obtain⟨w1,w2,w3,w4,w5⟩:=fin (im:=[]) kmN soN acN (All2.nil _) sz0
   have hw0':(W'.length:Int)=0:=by omega
   simp only [pwA,seval,-iQ0,r1,r2,r4,lP',hw0,hw0',g1,g2,f1,f2,w1,w2,w3,w4,nn3];exact w5
  have hw0':¬(W'.length:Int)=0:=by omega
  have o':=hl'.1.w;have q':=hl'.1.b;have hn6':=o'.le;obtain⟨P',hP'⟩:=Int.eq_ofNat_of_zero_le (show 0≤p' by have:=hl'.1.1;unfold isP at this;omega)
  have hpw':P' ^ W'.length≤729:=by
   have h:=hl'.1.2.2.2.1;rw [hP',ipowN]at h
   omega
  have nn4:¬ρ+1=gN.next:=by have:=kmN.next;omega
  have r2':(gN.new []).rd (ρ+1) 0 3=some [.int .i64 p',vP',vB']:=by rw [Q8,if_neg nn4];exact r2
  simp only [pwA,seval,-iQ0,r2,r4,lP',hw0,hw0',f1,f2,nn4,r2'];refine zAo hR' rfl (by omega) fun vW hW=>?_
  simp only [pwA,seval,-iQ0,r2,r2',nn4,zCS,List.nil_append];refine zA.frz (s:=gN.next) (cs:=[]) (by rw [zP,if_pos rfl]) trivial fun o1=>?_
  have e1:=hR'.P.sb gN.next o1 [];have e2:=hR'.B.sb gN.next o1 [];have e3:=hW.sb gN.next o1 [];simp only [sbs,Go.Ab.sb,capOK,and_self,if_true,decide_true,Nat.le_refl,e1,e2,e3];have k1:Keep gN ((gN.new []).kill gN.next):=(zC gN _).kill (Nat.le_refl _);refine zHA hR' o' q' hl'.1.1 hP' hpw' hW (Z7 o'.pr) (by rw [zt];omega) ⟨true,_,[],rfl,All2.nil _⟩ .nil fun w9 z L c hL hz=>?_
  have kmC:KM g T.next ((gN.new []).kill gN.next):=kmN.keep k1;have soC:So ((gN.new []).kill gN.next) T.next vC bs:=soN.keep k1;have acC:PSl g.next 1 ((gN.new []).kill gN.next) (.sl g.next 0 0 (.known 0)) 0 []:=acN.keep k1;generalize (gN.new []).kill gN.next=gC at *
  have hwl:=d.wl;have z9:=hz.one;have hzE:Els p' W'.length z:=c.base.els;have hzl:z.length≤6:=by
   have:=qj (fun v hv=>(c.base.led v hv).2.1) c.base.asc
   omega
  obtain⟨wz,az,rz,rfl,hrz⟩:=hz;obtain⟨w9,hw9⟩:∃w9,w9=PV.fz wz az z.length rz:=⟨_,rfl⟩
  rw [←hw9]at z9 ⊢
  have lz:pLen w9=some (.int .i64 z.length):=by rw [hw9];rfl
  have hp7:2≤p'∧p'≤7:=o'.pr;simp only [pwA,seval,-iQ0];refine zF (fun m vs g1=>∃(i:Nat) (v:PV) (rows:List PV) (im:List (List Int)),i≤W.length∧m=W.length-i∧vs=[.ptr σ.next 0,.ptr (σ.next+1) 0,.ptr T.next 0,.ptr ρ 0,.ptr (ρ+1) 0,v,w9,.int .i64 i]∧KM g T.next g1∧So g1 T.next vC bs∧PSl g.next 1 g1 v im.length rows∧All2 FI rows im∧im.length=i∧∀x∈im,x.length≤7) W.length ?_ ?_
  ·exact⟨0,_,[],[],Nat.zero_le _,rfl,rfl,kmC,soC,acC,All2.nil _,rfl,fun x hx=>by cases hx⟩
  rintro m vs gk ⟨i,v,rows,im,hi,rfl,rfl,k1,s1,ac,hr,hil,hx7⟩
  obtain⟨r1,r2,r3,r4,r5,r6,r7⟩:=kρ k1;have o8:=ac.acc.one
  by_cases hlt:i<W.length
  ·have hlt':(i:Int)<(W.length:Int):=by omega
   refine Z5 (J:=fun e' h'=>EVm e' σ.next T.next ρ v w9 i∧h'=gk) ?_ ?_
   ·simp only [pwA,seval,-iQ0,r3,lP,hlt,hlt']
    exact⟨rfl,rfl,rfl,rfl,rfl,rfl,rfl,rfl⟩
   rintro e1' g1' ⟨⟨E2,E3,E5,E6,E7,E8,E9,E10⟩,rfl⟩
   refine zBP (J:=fun e' h'=>∃(v2:PV) (rows2:List PV) (x:List Int),EVm e' σ.next T.next ρ v2 w9 i∧KM g T.next h'∧So h' T.next vC bs∧PSl g.next 1 h' v2 (im++[x]).length rows2∧All2 FI rows2 (im++[x])∧x.length≤7) ?_ ?_
   rotate_left
   ·rintro e3 g3 ⟨v2,rows2,x,⟨F2,F3,F5,F6,F7,F8,F9,F10⟩,k3,s3,ac3,hr3,hx⟩
    have wi:=wrapS hlt (by omega:W.length≤4611686018427387904)
    simp only [pwA,seval,-iQ0,F2,F3,F5,F6,F7,F8,F9,F10,wi];refine⟨_,by omega,i+1,v2,rows2,im++[x],by omega,rfl,rfl,k3,s3,ac3,hr3,by simp [hil],fun y hy=>?_⟩
    rcases List.mem_append.1 hy with hy|hy
    ·exact hx7 y hy
    ·rw [List.mem_singleton.1 hy];exact hx
   refine Z5 (J:=fun e' h'=>∃vx,EVm e' σ.next T.next ρ v w9 i∧e' 11=vx∧h'=g1'∧FI vx (List.replicate W'.length 0)) ?_ ?_
   ·simp only [pwA,seval,-iQ0,E2,E3,E5,E6,E7,E8,E9,E10,r2,f1,f2]
    refine QL hR' rfl (by omega) fun vz=>?_
    simp only [pwA,seval,-iQ0];exact⟨_,(by refine⟨?_,?_,?_,?_,?_,?_,?_,?_⟩<;>first | rfl | exact E2 | exact E3 | exact E5 | exact E6 | exact E7 | exact E8 | exact E9 | exact E10),rfl,⟨true,vz,by rw [List.length_replicate]⟩⟩
   rintro e2' g1' ⟨vx,⟨E2,E3,E5,E6,E7,E8,E9,E10⟩,E11,rfl,hvx⟩
   refine Z5 (J:=fun e' h'=>∃(vx:PV) (x:List Int),EVm e' σ.next T.next ρ v w9 i∧e' 11=vx∧h'=g1'∧FI vx x∧El p' W'.length x) ?_ ?_
   ·by_cases hiq:i<W'.length
    ·have hiq':(i:Int)<(W'.length:Int):=by omega
     simp only [pwA,seval,-iQ0,E2,E3,E5,E6,E7,E8,E9,E10,E11,r2,r4,lP',hiq,hiq',f1,f2];refine ZC hR' rfl (by omega) hiq fun vu=>?_
     simp only [pwA,seval,-iQ0];exact⟨_,_,(by refine⟨?_,?_,?_,?_,?_,?_,?_,?_⟩<;>first | rfl | exact E2 | exact E3 | exact E5 | exact E6 | exact E7 | exact E8 | exact E9 | exact E10),rfl,⟨true,vu,by rw [zk]⟩,Z7 o'.pr _ (List.mem_of_getElem? (Z6 hiq))⟩
    ·have hiq':¬(i:Int)<(W'.length:Int):=by omega
     simp only [pwA,seval,-iQ0,E2,E3,E5,E6,E7,E8,E9,E10,E11,r2,r4,lP',hiq,hiq',f1,f2];exact⟨_,_,(by refine⟨?_,?_,?_,?_,?_,?_,?_,?_⟩<;>first | rfl | exact E2 | exact E3 | exact E5 | exact E6 | exact E7 | exact E8 | exact E9 | exact E10),(by first | rfl | exact E11),hvx,zAF o'.pr⟩
   clear hvx E11
   rintro e3' g1' ⟨vx,x,⟨E2,E3,E5,E6,E7,E8,E9,E10⟩,E11,rfl,hvx,hxe⟩
   refine Z5 (J:=fun e' h'=>∃(vx:PV) (x:List Int),EVm e' σ.next T.next ρ v w9 i∧e' 11=vx∧Mv g1' T.next h'∧So h' T.next vC bs∧FI vx x∧El p' W'.length x) ?_ ?_
   ·have o11:=hvx.one
    simp only [pwA,seval,-iQ0,E2,E3,E5,E6,E7,E8,E9,E10,E11];refine ze s1 (by decide) fun cc h2 hcc m2 s2=>?_
    have km2:=k1.mv so.lt m2;obtain⟨t1,t2,t3,t4,t5,t6,t7⟩:=kρ km2
    by_cases hc0:cc=0
    rotate_left
    ·simp only [pwA,seval,-iQ0,hc0,E2,E3,E5,E6,E7,E8,E9,E10,E11]
     exact⟨_,_,(by refine⟨?_,?_,?_,?_,?_,?_,?_,?_⟩<;>first | rfl | exact E2 | exact E3 | exact E5 | exact E6 | exact E7 | exact E8 | exact E9 | exact E10),(by first | rfl | exact E11),m2,s2,hvx,hxe⟩
    subst hc0
    by_cases hz0:0<z.length
    rotate_left
    ·have hz0':¬(0:Int)<(z.length:Int):=by omega
     simp only [pwA,seval,-iQ0,E2,E3,E5,E6,E7,E8,E9,E10,E11,z9,lz,hz0,hz0'];exact⟨_,_,(by refine⟨?_,?_,?_,?_,?_,?_,?_,?_⟩<;>first | rfl | exact E2 | exact E3 | exact E5 | exact E6 | exact E7 | exact E8 | exact E9 | exact E10),(by first | rfl | exact E11),m2,s2,hvx,hxe⟩
    have hz0':(0:Int)<(z.length:Int):=by omega
    have hzi:z.length-1<z.length:=by omega
    have hzi':((z.length-1:Nat):Int)<(z.length:Int):=by omega
    have wz1:IntKind.i64.wrap ((z.length:Int)-1)=((z.length-1:Nat):Int):=by rw [wrap64 (by omega) (by omega)];omega
    obtain⟨w4,a4,hrow⟩:=hrz.rowI hzi;have hze:=hzE _ (List.getElem_mem hzi);simp only [pwA,seval,-iQ0,E2,E3,E5,E6,E7,E8,E9,E10,E11,z9,lz,hz0,hz0',t2,t5,f1,f2,o11,wz1,hw9,hzi,hzi',hrow];refine ze s2 (by omega) fun y h3 hy m3 s3=>?_
    have km3:=km2.mv so.lt m3;obtain⟨t1,t2,t3,t4,t5,t6,t7⟩:=kρ km3;have hy0:=hy.1;have hyp:=hy.lt (by omega)
    simp only [pwA,seval,-iQ0,t2,t5,f1,f2,o11,wz1,hzi,hzi',hrow];refine zMy hR' o' hxe hze hvx ⟨w4,a4,rfl⟩ (by omega) (by omega) fun vm hvm=>?_
    simp only [pwA,seval,-iQ0];exact⟨_,_,(by refine⟨?_,?_,?_,?_,?_,?_,?_,?_⟩<;>first | rfl | exact hw9.symm | exact E2 | exact E3 | exact E5 | exact E6 | exact E7 | exact E8 | exact E9 | exact E10),rfl,m2.trans m3,s3,hvm,zO o' hxe hze⟩
   clear hvx E11 hxe
   rintro e4' g4 ⟨vx,x,⟨E2,E3,E5,E6,E7,E8,E9,E10⟩,E11,m4,s4,hvx,hxe⟩
   have k4:=k1.mv so.lt m4;obtain⟨t1,t2,t3,t4,t5,t6,t7⟩:=kρ k4;refine Z5 (J:=fun e' h'=>∃(vx:PV) (x:List Int),EVm e' σ.next T.next ρ v w9 i∧e' 11=vx∧Mv g1' T.next h'∧So h' T.next vC bs∧FI vx x∧x.length≤7) ?_ ?_
   ·have o11:=hvx.one
    simp only [pwA,seval,-iQ0,E2,E3,E5,E6,E7,E8,E9,E10,E11];refine ze s4 (by decide) fun cc h2 hcc m2 s2=>?_
    have km2:=k4.mv so.lt m2;obtain⟨t1,t2,t3,t4,t5,t6,t7⟩:=kρ km2
    by_cases hc0:cc=0
    rotate_left
    ·simp only [pwA,seval,-iQ0,hc0,E2,E3,E5,E6,E7,E8,E9,E10,E11]
     exact⟨_,_,(by refine⟨?_,?_,?_,?_,?_,?_,?_,?_⟩<;>first | rfl | exact hw9.symm | exact E2 | exact E3 | exact E5 | exact E6 | exact E7 | exact E8 | exact E9 | exact E10),(by first | rfl | exact E11),m4.trans m2,s2,hvx,by rw [hxe.1];omega⟩
    subst hc0;simp only [pwA,seval,-iQ0,E2,E3,E5,E6,E7,E8,E9,E10,E11,t2,f1,f2];refine zFA s2 hR' (by omega) (by omega) fun ve xe h3 hve hxl m3 s3=>?_
    simp only [pwA,seval,-iQ0];exact⟨_,_,(by refine⟨?_,?_,?_,?_,?_,?_,?_,?_⟩<;>first | rfl | exact hw9.symm | exact E2 | exact E3 | exact E5 | exact E6 | exact E7 | exact E8 | exact E9 | exact E10),rfl,(m4.trans m2).trans m3,s3,hve,by omega⟩
   clear hvx E11 hxe
   rintro e5' g5 ⟨vx,x,⟨E2,E3,E5,E6,E7,E8,E9,E10⟩,E11,m5,s5,hvx,hx7'⟩
   have k5:=k1.mv so.lt m5;have o11:=hvx.one;have c11:=hvx.cells;have vc1:vx.cells.length=1∧vx.cells.all PV.one=true:=by rw [c11];exact⟨rfl,by simp [o11]⟩
   simp only [pwA,seval,-iQ0,E2,E3,E5,E6,E7,E8,E9,E10,E11,o8,o11,c11,vc1];refine zLu (T:=g) (bytes:=24) k5 (zAt ac so.lt m5) (by omega) (by omega) fun v' h6 k6 o6 p6=>?_
   have o12:=p6.acc.one;simp only [pwA,seval,-iQ0,o12];refine⟨v',_,x,(by refine⟨?_,?_,?_,?_,?_,?_,?_,?_⟩<;>first | rfl | exact hw9.symm | exact E2 | exact E3 | exact E5 | exact E6 | exact E7 | exact E8 | exact E9 | exact E10),k6,?_,by rw [List.length_append];exact p6,hr.snoc hvx,hx7'⟩
   obtain⟨a0,sd0,S⟩:=s5;exact⟨a0,sd0,by rw [o6 _ so.lt];exact S.obj,Nat.lt_of_lt_of_le so.lt k6.next,S.fb,S.byt,S.le,S.sd⟩
  ·have hlt':¬(i:Int)<(W.length:Int):=by omega
   have iml:im.length≤6:=by omega
   simp only [pwA,seval,-iQ0,r3,lP,hlt,hlt',o8];refine ze s1 (by decide) fun cc h2 hcc m2 s2=>?_
   have km2:=k1.mv so.lt m2;have ac2:=zAt ac so.lt m2;obtain⟨t1,t2,t3,t4,t5,t6,t7⟩:=kρ km2;have finS:∀{im:List (List Int)},im.length≤6→(∀x∈im,x.length≤7)→SzL im:=fun {im} h1 h2=>⟨by omega,fun x hx=>by have:=h2 x hx;omega⟩
   by_cases hc0:cc=0
   rotate_left
   ·obtain⟨w1,w2,w3,w4,w5⟩:=fin km2 s2 ac2 hr (finS iml hx7)
    have ow:=ac2.acc.one;simp only [pwA,seval,-iQ0,hc0,t1,t2,g1,g2,f1,f2,w1,w2,w3,w4,nn3,ow];exact w5
   subst hc0;simp only [pwA,seval,-iQ0,o8];refine zF (fun m vs h3=>∃(j:Nat) (rows:List PV) (im3:List (List Int)),j≤im.length∧m=im.length-j∧vs=[.ptr σ.next 0,.ptr (σ.next+1) 0,.ptr ρ 0,.ptr (ρ+1) 0,v,.int .i64 j]∧KM g T.next h3∧So h3 T.next vC bs∧PSl g.next 1 h3 v im3.length rows∧All2 FI rows im3∧im3.length=im.length∧∀x∈im3,x.length≤7) im.length ?_ ?_
   ·exact⟨0,_,im,Nat.zero_le _,rfl,rfl,km2,s2,ac2,hr,rfl,hx7⟩
   clear hr hx7 ac ac2
   rintro m vs h3 ⟨j,rows3,im3,hj,rfl,rfl,k3,s3,ac3,hr3,hl3,hx3⟩
   obtain⟨t1,t2,t3,t4,t5,t6,t7⟩:=kρ k3;have ow:=ac3.acc.one;have lv:=ac3.acc.pLen;rw [hl3]at lv
   by_cases hjl:j<im.length
   rotate_left
   ·have hjl':¬(j:Int)<(im.length:Int):=by omega
    obtain⟨w1,w2,w3,w4,w5⟩:=fin k3 s3 ac3 hr3 (finS (by omega) hx3)
    simp only [pwA,seval,-iQ0,lv,hjl,hjl',ow,t1,t2,g1,g2,f1,f2,w1,w2,w3,w4,nn3];exact w5
   have hjl':(j:Int)<(im.length:Int):=by omega
   obtain⟨t,cap,rfl,c1,c2,c3,c4,c5⟩:=ac3;have wj:=wrapS hjl (by omega:im.length≤4611686018427387904)
   simp only [pwA,seval,-iQ0,lv,hjl,hjl',ow,t2,f1,f2];refine QL hR' rfl (by omega) fun vz=>?_
   have hj3:j<im3.length:=by omega
   have hj3':(j:Int)<(im3.length:Int):=by omega
   have w0:h3.wr t j [.fz true vz W'.length (pis (List.replicate W'.length 0))]=some (h3.set t (rows3.set j (.fz true vz W'.length (pis (List.replicate W'.length 0))))):=Qh c2 (by omega) rfl
   have ft:T.next≠t:=by omega
   simp only [pwA,seval,-iQ0,hj3,hj3',w0,wj];refine⟨_,by omega,j+1,rows3.set j (.fz true vz W'.length (pis (List.replicate W'.length 0))),im3.set j (List.replicate W'.length 0),by omega,rfl,by simp,k3.set c4 _,s3.set ft _,⟨t,cap,by simp,by rw [List.length_set];exact c1,by rw [zH,if_pos rfl],by simp [c3],c4,c5⟩,?_,by simp [hl3],fun x hx=>?_⟩
   ·refine⟨by simp [hr3.1],fun i2 v2 y2 hv2 hy2=>?_⟩
    rw [List.getElem?_set]at hv2 hy2
    by_cases e:j=i2
    ·subst e
     rw [if_pos rfl,if_pos (by omega)]at hv2
     rw [if_pos rfl,if_pos (by omega)]at hy2
     cases hv2;cases hy2;exact⟨true,vz,by rw [List.length_replicate]⟩
    ·rw [if_neg e]at hv2 hy2
     exact hr3.2 i2 v2 y2 hv2 hy2
   ·rcases List.mem_or_eq_of_mem_set hx with q | q
    ·exact hx3 x q
    ·rw [q,List.length_replicate];omega
 simp only [vps];simp only [pwA,seval,-iQ0,hb.one];rw [hT];refine zIg hb hB fun sd hsd=>?_
 have so1:So (T.new (srcC vC 0 sd)) T.next vC bs:=⟨0,sd,by rw [zP,if_pos rfl],Nat.lt_succ_self _,hb,hB,Nat.zero_le _,hsd⟩
 have kT1:Keep T (T.new (srcC vC 0 sd)):=zC _ _;have hs1:T.next<(T.new (srcC vC 0 sd)).next:=Nat.lt_succ_self _;generalize T.new (srcC vC 0 sd)=U at *
 have km1:KM U T.next U:=so1.km;simp only [pwA,seval,-iQ0];refine zCZ so1 fun p vP vB W B h2 d hR m2 so2=>?_
 have km2:=km1.mv hs1 m2;have g1:=hR.P.one;have g2:=hR.B.one;have h2n:=km2.next;have so3:So ((h2.new [.int .i64 p,vP,vB]).new [.int .i64 p,vP,vB]) T.next vC bs:=so2.keep ((zC _ _).new _);have km3:KM U T.next ((h2.new [.int .i64 p,vP,vB]).new [.int .i64 p,vP,vB]):=(km2.new _).new _;have obr:((h2.new [.int .i64 p,vP,vB]).new [.int .i64 p,vP,vB]).obj h2.next=some [.int .i64 p,vP,vB]:=by simp only [pwA,seval,-iQ0]
 have obq:((h2.new [.int .i64 p,vP,vB]).new [.int .i64 p,vP,vB]).obj (h2.next+1)=some [.int .i64 p,vP,vB]:=by simp only [pwA,seval,-iQ0]
 have hGn:((h2.new [.int .i64 p,vP,vB]).new [.int .i64 p,vP,vB]).next=h2.next+2:=rfl;simp only [pwA,seval,-iQ0,g1,g2];generalize (h2.new [.int .i64 p,vP,vB]).new [.int .i64 p,vP,vB]=G at *
 refine ze so3 (by decide) fun c g hc m4 so4=>?_
 have km4:=km3.mv hs1 m4;have g4n:=m4.next;have obr4:g.obj h2.next=some [.int .i64 p,vP,vB]:=by rw [m4.obj (by omega)];exact obr
 have obq4:g.obj (h2.next+1)=some [.int .i64 p,vP,vB]:=by rw [m4.obj (by omega)];exact obq
 by_cases hcz:c=0
 rotate_left
 ·simp only [pwA,seval,-iQ0,hcz]
  exact rest d hR d hR kT1 km4 so4 hs1 (by omega) h2n obr4 obq4 rfl rfl rfl rfl rfl
 subst hcz;simp only [pwA,seval,-iQ0];refine zCZ so4 fun p' vP' vB' W' B' g5 d' hR' m5 so5=>?_
 have km5:=km4.mv hs1 m5;have g5n:=m5.next;have f1:=hR'.P.one;have f2:=hR'.B.one;have obr5:g5.obj h2.next=some [.int .i64 p,vP,vB]:=by rw [m5.obj (by omega)];exact obr4
 have obq5:g5.obj (h2.next+1)=some [.int .i64 p,vP,vB]:=by rw [m5.obj (by omega)];exact obq4
 have w0:g5.wr (h2.next+1) 0 [.int .i64 p',vP',vB']=some (g5.set (h2.next+1) [.int .i64 p',vP',vB']):=by rw [qH obq5,if_pos ⟨by simp,by simp only [List.all_cons,List.all_nil,f1,f2,Bool.and_true];rfl⟩];rfl
 simp only [pwA,seval,-iQ0,f1,f2,w0];exact rest d hR d' hR' kT1 (km5.set (by omega) _) (so5.set (by omega) _) hs1 (by show h2.next+1<g5.next;omega) h2n (by rw [zH,if_neg (by omega)];exact obr5) (by rw [zH,if_pos rfl]) rfl rfl rfl rfl rfl
end Go.Proofs
namespace Go.Proofs
open Go.Ab Go.Lie
variable {σ:PHeap} {K:PV→PHeap→Prop} {p:Int} {n:Nat} {W:List (List Int)} {B:List (List (List Int))} {vP vB vL vU vV vX:PV} {s:Nat} {u v gens c d:List (List Int)} {id:Prop}
theorem zEw (hR:IsR vP vB W B) (szr:SzR W B) (hL:FII vL gens) (sz:SzL gens)
  (hk:∀v z c,LsV (isLie p W B∧Els p W.length gens) (Canon p W.length W gens) z c→FII v z→K (.tup [v,.int .i64 c]) σ):zA Tryz.prog 10 [.agg [.int .i64 p,vP,vB],vL] σ K:=by
 have h1:=hR.P.one;have h2:=hR.B.one;refine zA.gh ?_;refine zD mix Tryz.func10 ?_;simp only [pwA,seval,-iQ0,h1,h2];have hkp:Keep σ (σ.new [.int .i64 p,vP,vB]):=zC σ _;have hp2:PtrR (σ.new [.int .i64 p,vP,vB]) σ.next p vP vB:=⟨by simp only [pwA,seval,-iQ0],Nat.lt_succ_self _⟩
 generalize σ.new [.int .i64 p,vP,vB]=H at *
 refine Qb hp2 hR szr hL sz fun t ht=>?_
 cases t with
 | false=>
  simp only [pwA,seval,-iQ0];exact Gh.fin0 hkp ⟨trivial,trivial,trivial⟩ (hk _ [] 1 (.inl ⟨fun e=>(by have:=ht.2 e;cases this),rfl,rfl⟩) zHc)
 | true=>
 have hl:=ht.1 rfl;simp only [pwA,seval,-iQ0];refine Q0 hp2 hR.P hl.1.1.w hl.1.1.1 hL hl.2 sz.l fun v z c hz=>?_
 simp only [pwA,seval,-iQ0];exact Gh.fin0 hkp ⟨hz.bel _,trivial,trivial⟩ (hk v z 0 (.inr ⟨hl,c,rfl⟩) hz)
end Go.Proofs
namespace Go.Grp
end Go.Grp
namespace Go.Proofs
open Go.Ab Go.Lie Go.Grp
variable {σ h h':PHeap} {K:PV→PHeap→Prop} {p lim:Int} {n s:Nat} {W gens:List (List Int)} {B:List (List (List Int))} {vC vP vB vL va vb:PV} {bs xs ys:List Int} {u:List (List Int)}
theorem zEv (hR:IsR vP vB W B) (szr:SzR W B) (hL:FII vL gens) (sz:SzL gens)
  (hk:∀v z c,LsV (isLie p W B∧Els p W.length gens) (Canon p W.length W gens) z c→FII v z→K (.tup [v,.int .i64 c]) σ):zA Tryz.prog 11 [.agg [.int .i64 p,vP,vB],vL] σ K:=by
 have h1:=hR.P.one;have h2:=hR.B.one;refine zA.gh ?_;refine zD mix Tryz.func11 ?_;simp only [pwA,seval,-iQ0,h1,h2];have hkp:Keep σ (σ.new [.int .i64 p,vP,vB]):=zC σ _;have hr3:(σ.new [.int .i64 p,vP,vB]).rd σ.next 0 3=some [.int .i64 p,vP,vB]:=by simp only [pwA,seval,-iQ0]
 generalize σ.new [.int .i64 p,vP,vB]=H at *
 have bad:¬(isLie p W B∧Els p W.length gens)→Gh σ K (.tup [.fz true .nils 0 [],.int .i64 1]) H:=fun e=>Gh.fin0 hkp ⟨trivial,trivial,trivial⟩ (hk _ [] 1 (.inl ⟨e,rfl,rfl⟩) zHc)
 refine QM hR szr fun t ht=>?_
 cases t with
 | false=>
  simp only [pwA,seval,-iQ0,hr3];exact bad fun e=>(by have:=ht.2 e.1;cases this)
 | true=>
 have hl:=ht.1 rfl;simp only [pwA,seval,-iQ0,hr3];refine zAx hR hL sz hl.1.w.pr fun t ht2=>?_
 cases t with
 | false=>
  simp only [pwA,seval,-iQ0,hr3];exact bad fun e=>(by have:=ht2.2 e.2;cases this)
 | true=>
 simp only [pwA,seval,-iQ0,hr3];refine zBF hR hl.1.w hl.1.1 hL (ht2.1 rfl) sz.l fun v z c hz=>?_
 simp only [pwA,seval,-iQ0];exact Gh.fin0 hkp ⟨hz.bel _,trivial,trivial⟩ (hk v z 0 (.inr ⟨⟨hl,ht2.1 rfl⟩,c,rfl⟩) hz)
theorem zAS (hb:FB vC bs) (hB:Byt bs) (hk:∀p vP vB W B p' vP' vB' W' B' vL im,DrR p W B→IsR vP vB W B→DrR p' W' B'→IsR vP' vB' W' B'→FII vL im→SzL im→K (.tup [.agg [.int .i64 p,vP,vB],.agg [.int .i64 p',vP',vB'],vL]) σ):zA Tryz.prog 5 [vC] σ K:=by
 refine zA.gh ?_;generalize hT:(σ.new nilR).new nilR=T;have hkT:Keep σ T:=by rw [←hT];exact(zC σ _).new _
 have obA:T.obj σ.next=some nilR:=by rw [←hT];simp only [pwA,seval,-iQ0]
 have obB:T.obj (σ.next+1)=some nilR:=by rw [←hT];simp only [pwA,seval,-iQ0]
 refine zD mix Tryz.func5 ?_;simp only [pwA,seval,-iQ0,hb.one];rw [hT];refine zIY hb hB fun p vP vB W B p' vP' vB' W' B' vL im d hR d' hR' hL sz=>?_
 have g1:=hR.P.one;have g2:=hR.B.one;have f1:=hR'.P.one;have f2:=hR'.B.one;have w1:T.wr σ.next 0 [.int .i64 p,vP,vB]=some (T.set σ.next [.int .i64 p,vP,vB]):=by rw [qH obA,if_pos ⟨by simp,by simp only [List.all_cons,List.all_nil,g1,g2,Bool.and_true];rfl⟩];rfl
 have w2:(T.set σ.next [.int .i64 p,vP,vB]).wr (σ.next+1) 0 [.int .i64 p',vP',vB']=some ((T.set σ.next [.int .i64 p,vP,vB]).set (σ.next+1) [.int .i64 p',vP',vB']):=by rw [qH (by rw [zH,if_neg (by omega)];exact obB),if_pos ⟨by simp,by simp only [List.all_cons,List.all_nil,f1,f2,Bool.and_true];rfl⟩];rfl
 have w3:((T.set σ.next [.int .i64 p,vP,vB]).set (σ.next+1) [.int .i64 p',vP',vB']).rd σ.next 0 3=some [.int .i64 p,vP,vB]:=by rw [qO,if_neg (by omega),qO,if_pos rfl];rfl
 have w4:((T.set σ.next [.int .i64 p,vP,vB]).set (σ.next+1) [.int .i64 p',vP',vB']).rd (σ.next+1) 0 3=some [.int .i64 p',vP',vB']:=by rw [qO,if_pos rfl];rfl
 simp only [pwA,seval,-iQ0,g1,g2,f1,f2,w1,w2,w3,w4,hL.one];exact Gh.fin0 ((hkT.set (Nat.le_refl _) _).set (by omega) _) ⟨⟨trivial,hR.P.bel _,hR.B.bel _,trivial⟩,⟨trivial,hR'.P.bel _,hR'.B.bel _,trivial⟩,hL.bel _,trivial⟩ (hk _ _ _ _ _ _ _ _ _ _ _ im d hR d' hR' hL sz)
theorem zDa (hx:FI va xs) (hy:FI vb ys) (hl:xs.length≤1048576) (hk:∀t:Bool,(t=true↔xs=ys)→K (.bool t) σ):zA Tryz.prog 16 [.agg [va,.int .i64 0],.agg [vb,.int .i64 0]] σ K:=by
 have h1:=hx.one;have h2:=hy.one;refine zA.gh ?_;refine zD mix Tryz.func16 ?_;simp only [pwA,seval,-iQ0,h1,h2];refine zCY hx hy hl fun t ht=>?_
 simp only [pwA,seval,-iQ0];exact Gh.fin0 ((zC σ _).new _) trivial (hk _ ht)
end Go.Proofs
namespace Go.Grp
end Go.Grp
namespace Go.Proofs
open Go.Ab Go.Lie Go.Grp
variable {σ h h':PHeap} {K:PV→PHeap→Prop} {n P j:Nat} {w:Bool} {a:AV} {x:List Int}
def zJt:List UInt8:=[0,1,2,2,3,3,3,3,4,4,4,4,4,4,4,4,5,5,5,5,5,5,5,5,5,5,5,5,5,5,5,5,6,6,6,6,6,6,6,6,6,6,6,6,6,6,6,6,6,6,6,6,6,6,6,6,6,6,6,6,6,6,6,6,7,7,7,7,7,7,7,7,7,7,7,7,7,7,7,7,7,7,7,7,7,7,7,7,7,7,7,7,7,7,7,7,7,7,7,7,7,7,7,7,7,7,7,7,7,7,7,7,7,7,7,7,7,7,7,7,7,7,7,7,7,7,7,7,8,8,8,8,8,8,8,8,8,8,8,8,8,8,8,8,8,8,8,8,8,8,8,8,8,8,8,8,8,8,8,8,8,8,8,8,8,8,8,8,8,8,8,8,8,8,8,8,8,8,8,8,8,8,8,8,8,8,8,8,8,8,8,8,8,8,8,8,8,8,8,8,8,8,8,8,8,8,8,8,8,8,8,8,8,8,8,8,8,8,8,8,8,8,8,8,8,8,8,8,8,8,8,8,8,8,8,8,8,8,8,8,8,8,8,8,8,8,8,8,8,8,8,8,8,8,8,8]
set_option maxRecDepth 100000 in
theorem zNC (hn:n≤6) (hk:∀k,K (.int .i64 k) σ):zA Tryz.prog 120 [.int .u64 n] σ K:=by
 refine zD mix Tryz.func120 ?_;have h1:¬(4294967296:Int)≤(n:Int):=by omega
 have h2:¬(65536:Int)≤(n:Int):=by omega
 have h3:¬(256:Int)≤(n:Int):=by omega
 simp only [pwA,seval,-iQ0,h1,h2,h3];have key:∃c:Int,(if 0≤IntKind.u8.wrap (n:Int)then Option.map (fun c:UInt8=>PV.int .u8 (c.toNat:Int)) (zJt[(IntKind.u8.wrap (n:Int)).toNat]?)else none)=some (.int .u8 c):=by
  have:n=0∨n=1∨n=2∨n=3∨n=4∨n=5∨n=6:=by omega
  rcases this with rfl|rfl|rfl|rfl|rfl|rfl|rfl<;>exact⟨_,rfl⟩
 obtain⟨c,hc⟩:=key;unfold zJt at hc
 simp only [hc];simp only [pwA,seval,-iQ0];exact hk _
theorem zMd (hn:n≤6) (hk:∀k,K (.int .i64 k) σ):zA Tryz.prog 99 [.int .u64 n] σ K:=by
 refine zD mix Tryz.func99 ?_;simp only [pwA,seval,-iQ0];refine zNC hn fun k=>?_
 simp only [pwA,seval,-iQ0];exact hk k
theorem zLJ {y:Int} (hk:K (.bool false) σ):zA Tryz.prog 129 [.int .i64 y] σ K:=by
 refine zD mix Tryz.func129 ?_;simp only [pwA,seval,-iQ0,decide_true];exact hk
theorem zMa {y z:Int} (h:¬y<z) (hk:K (.bool false) σ):zA Tryz.prog 116 [.int .i64 y,.int .i64 z] σ K:=by
 refine zD mix Tryz.func116 ?_;simp only [pwA,seval,-iQ0];refine zLJ ?_;simp only [pwA,seval,-iQ0,h,decide_false];exact hk
theorem zJ2 (hn:n=x.length) (hn6:n≤6) (ha:x.Pairwise (·≤·)) (hk:K (.tup []) σ):zA Tryz.prog 110 [.fz w a n (pis x),.int .i64 0,.int .i64 n] σ K:=by
 subst hn;refine zD mix Tryz.func110 ?_;simp only [pwA,seval,-iQ0];refine zF (fun m vs g=>∃i:Nat,1≤i∧m=x.length+1-i∧i≤x.length+1∧vs=[.fz w a x.length (pis x),.int .i64 0,.int .i64 x.length,.int .i64 i]∧σ=g) x.length ?_ ?_
 ·exact⟨1,Nat.le_refl _,by omega,by omega,rfl,rfl⟩
 rintro m vs g ⟨i,hi1,rfl,hi2,rfl,rfl⟩
 simp only [pwA,seval,-iQ0];refine iteI (fun hlt=>?_) fun hge=>?_
 rotate_left
 ·exact hk
 refine zF (fun m vs g=>m=0∧vs=[.fz w a x.length (pis x),.int .i64 0,.int .i64 x.length,.int .i64 i,.int .i64 i]∧σ=g) 0 ⟨rfl,rfl,rfl⟩ ?_
 rintro m vs g ⟨rfl,rfl,rfl⟩
 have hi0:(0:Int)<(i:Int):=by omega
 have hin:i<x.length:=by omega
 have hii:(i:Int)<(x.length:Int):=by omega
 have h1n:i-1<x.length:=by omega
 have h1i:((i-1:Nat):Int)<(x.length:Int):=by omega
 have wi1:IntKind.i64.wrap ((i:Int)-1)=((i-1:Nat):Int):=by rw [wrap64 (by omega) (by omega)];omega
 have wi:IntKind.i64.wrap ((i:Int)+1)=((i+1:Nat):Int):=by rw [wrap64 (by omega) (by omega)];omega
 have g1:(pis x)[i]? = some (.int .i64 x[i]):=by rw [zN,gi hin];rfl
 have g2:(pis x)[i-1]? = some (.int .i64 x[i-1]):=by rw [zN,gi h1n];rfl
 have hle:¬x[i] < x[i-1]:=by
  have:=List.pairwise_iff_getElem.1 ha (i-1) i h1n hin (by omega)
  omega
 simp only [pwA,seval,-iQ0,hi0,hin,hii,h1n,h1i,wi1,wi,g1,g2,hle];refine zMa hle ?_;simp only [pwA,seval,-iQ0,wi];exact⟨_,by omega,i+1,by omega,rfl,by omega,rfl⟩
theorem pdq_s {l:Int} (hn:n=x.length) (hn6:n≤6) (ha:x.Pairwise (·≤·)) (hk:K (.tup []) σ):zA Tryz.prog 98 [.fz w a n (pis x),.int .i64 0,.int .i64 n,.int .i64 l] σ K:=by
 have wn:IntKind.i64.wrap ((n:Int)-0)=(n:Int):=by rw [wrap64 (by omega) (by omega)];omega
 have h12:(n:Int)≤12:=by omega
 have wn2:IntKind.i64.wrap (n:Int)=(n:Int):=wrap64 (by omega) (by omega)
 refine zD mix Tryz.func98 ?_;simp only [pwA,seval,-iQ0];refine zF (fun m vs g=>m=0∧vs=[.fz w a n (pis x),.int .i64 0,.int .i64 n,.int .i64 l,.bool true,.bool true]∧σ=g) 0 ⟨rfl,rfl,rfl⟩ ?_
 rintro m vs g ⟨rfl,rfl,rfl⟩
 simp only [pwA,seval,-iQ0,wn,wn2,h12,Int.sub_zero];refine zJ2 hn hn6 ha ?_;simp only [pwA,seval,-iQ0];exact hk
theorem zNA (hn:n=x.length) (hn6:n≤6) (ha:x.Pairwise (·≤·)) (hk:K (.tup []) σ):zA Tryz.prog 69 [.fz w a n (pis x)] σ K:=by
 have wn:IntKind.u64.wrap (n:Int)=(n:Int):=by
  have:n=0∨n=1∨n=2∨n=3∨n=4∨n=5∨n=6:=by omega
  rcases this with rfl|rfl|rfl|rfl|rfl|rfl|rfl<;>rfl
 refine zD mix Tryz.func69 ?_;simp only [pwA,seval,-iQ0,wn];refine zMd hn6 fun k=>?_
 simp only [pwA,seval,-iQ0];refine pdq_s hn hn6 ha ?_;simp only [pwA,seval,-iQ0];exact hk
end Go.Proofs
namespace Go.Grp
end Go.Grp
namespace Go.Proofs
open Go.Ab Go.Lie Go.Grp
variable {σ h h':PHeap} {K:PV→PHeap→Prop} {n P j p:Nat}
theorem zMr:∀P∈[2,3,5,7],∀j<10,∀p<P,2≤p→P ^ j % p≠0:=by decide +kernel
theorem zLz (hP:P=2∨P=3∨P=5∨P=7) (hj:j≤9) (h2:2≤p) (hp:p<P):P ^ j % p≠0:=
 zMr P (by simp;omega) j (by omega) p hp h2
def FcB (σ:PHeap) (P:Nat) (v4 v5:PV) (g:PHeap):Prop:=∃(s4 s5:Nat) (c4 c5:Cap) (y:Int),v4=.sl s4 0 1 c4∧v5=.sl s5 0 1 c5∧Keep σ g∧full 1 c4 1∧full 1 c5 1∧g.obj s4=some (pis [(P:Int)])∧g.obj s5=some (pis [y])∧σ.next≤s4∧σ.next≤s5∧s4≠s5
theorem zIj (hP:P=2∨P=3∨P=5∨P=7) (hj1:1≤j) (hj:j≤9) (hq:P ^ j≤729) (hk:∀a1 v2,K (.tup [.fz true a1 1 (pis [(P:Int)]),v2]) σ):zA Tryz.prog 68 [.int .i64 ((P ^ j:Nat):Int)] σ K:=by
 refine zA.gh ?_;have hpj:P≤P ^ j:=by
  have h:P ^ 1≤P ^ j:=Nat.pow_le_pow_right (by omega) hj1
  rw [Nat.pow_one]at h
  exact h
 obtain⟨N,hN⟩:∃N,N=P ^ j:=⟨_,rfl⟩
 rw [←hN]at hpj hq ⊢
 refine zD mix Tryz.func68 ?_;simp only [pwA,seval,-iQ0];refine zF (fun m vs g=>(∃p:Nat,2≤p∧p≤P∧m=P-p+1∧vs=[.int .i64 N,.fz true .nils 0 [],.fz true .nils 0 [],.int .i64 p]∧g=σ)∨
  ∃(v4 v5:PV) (z:Int),m=0∧vs=[.int .i64 1,v4,v5,.int .i64 z]∧FcB σ P v4 v5 g) (P-2+1) ?_ ?_
 ·exact .inl ⟨2,Nat.le_refl _,by omega,rfl,rfl,rfl⟩
 rintro m vs g (⟨p,hp2,hpP,rfl,rfl,rfl⟩ | ⟨_,_,z,rfl,rfl,s4,s5,c4,c5,y,rfl,rfl,kk,f4,f5,o4,o5,b4,b5,hne⟩)
 ·refine Z5 (J:=fun e' h'=>e' 0=.int .i64 N∧e' 4=.fz true .nils 0 []∧e' 5=.fz true .nils 0 []∧e' 6=.int .i64 p∧h'=g) ?_ ?_
  ·have h1:(1:Int)<(N:Int):=by omega
   simp only [pwA,seval,-iQ0,h1]
  rintro e1 g1 ⟨E0,E4,E5,E6,rfl⟩
  refine zBP (J:=fun e' h'=>(e' 0=.int .i64 N∧e' 4=.fz true .nils 0 []∧e' 5=.fz true .nils 0 []∧e' 6=.int .i64 p∧p<P∧h'=g1)∨∃v4 v5,e' 0=.int .i64 1∧e' 4=v4∧e' 5=v5∧e' 6=.int .i64 P∧FcB g1 P v4 v5 h') ?_ ?_
  rotate_left
  ·rintro e2 g2 (⟨F0,F4,F5,F6,hlt,rfl⟩ | ⟨v4,v5,F0,F4,F5,F6,hF⟩)
   ·have wp:IntKind.i64.wrap ((p:Int)+1)=((p+1:Nat):Int):=by rw [wrap64 (by omega) (by omega)];omega
    simp only [pwA,seval,-iQ0,F0,F4,F5,F6,wp];exact⟨_,by omega,.inl ⟨p+1,by omega,by omega,rfl,rfl⟩⟩
   ·have wp:IntKind.i64.wrap ((P:Int)+1)=((P+1:Nat):Int):=by rw [wrap64 (by omega) (by omega)];omega
    simp only [pwA,seval,-iQ0,F0,F4,F5,F6,wp];exact⟨0,by omega,.inr ⟨v4,v5,_,rfl,rfl,hF⟩⟩
  refine Z5 (J:=fun e' h'=>∃p2:Nat,(p2=P∨(p2<P∧p2=p))∧e' 0=.int .i64 N∧e' 4=.fz true .nils 0 []∧e' 5=.fz true .nils 0 []∧e' 6=.int .i64 p2∧h'=g1) ?_ ?_
  ·have hpp:p*p≤49:=Nat.mul_le_mul (show p≤7 by omega) (show p≤7 by omega)
   have ee:(p:Int)*(p:Int)=((p*p:Nat):Int):=by push_cast;rfl
   have wpp:IntKind.i64.wrap ((p:Int)*(p:Int))=((p*p:Nat):Int):=by rw [ee];exact wrap64 (by omega) (by omega)
   by_cases hgt:N<p*p
   ·have hgt':(N:Int)<((p*p:Nat):Int):=Int.ofNat_lt.2 hgt
    simp only [pwA,seval,-iQ0,E0,E4,E5,E6,wpp,hgt,hgt'];refine⟨N,.inl ?_,rfl⟩;have h2:p*p≤P*P:=Nat.mul_le_mul hpP hpP;rcases Nat.lt_or_ge 1 j with q|q
    ·have h3:P ^ 2≤P ^ j:=Nat.pow_le_pow_right (by omega) q
     rw [←hN,Nat.pow_two]at h3
     omega
    ·have:j=1:=by omega
     rw [hN,this,Nat.pow_one]
   ·have hgt':¬(N:Int)<((p*p:Nat):Int):=fun h=>hgt (Int.ofNat_lt.1 h)
    simp only [pwA,seval,-iQ0,E0,E4,E5,E6,wpp,hgt,hgt'];refine⟨p,?_,rfl⟩;omega
  rintro e3 g3 ⟨p2,hp2',E0,E4,E5,E6,rfl⟩
  rcases hp2' with e|⟨hlt,e⟩
  ·rw [e]at E6
   clear e;simp only [pwA,seval,-iQ0,E0,E4,E5,E6];refine zF (fun m vs h'=>∃k:Nat,k≤j∧m=j-k∧vs=[.int .i64 ((P ^ (j-k):Nat):Int),.fz true .nils 0 [],.fz true .nils 0 [],.int .i64 P,.int .i64 k]∧h'=g3) j ?_ ?_
   ·refine⟨0,Nat.zero_le _,rfl,?_,rfl⟩
    rw [Nat.sub_zero,←hN];simp only [pwA,seval,-iQ0,E6]
    rfl
   rintro m vs h' ⟨k,hk1,rfl,rfl,rfl⟩
   have hnz:¬(P:Int)=0:=by omega
   rcases Nat.lt_or_ge k j with hkj|hkj
   ·obtain⟨i,hi⟩:∃i,j-k=i+1:=⟨j-k-1,by omega⟩
    have hrem:((P ^ (j-k):Nat):Int).tmod (P:Int)=0:=by
     rw [show((P ^ (j-k):Nat):Int).tmod (P:Int)=((P ^ (j-k) % P:Nat):Int) from rfl,hi,Nat.pow_succ,Nat.mul_mod_left];rfl
    have hdiv:((P ^ (j-k):Nat):Int).tdiv (P:Int)=((P ^ (j-(k+1)):Nat):Int):=by
     rw [show((P ^ (j-k):Nat):Int).tdiv (P:Int)=((P ^ (j-k) / P:Nat):Int) from rfl,hi,Nat.pow_succ,Nat.mul_div_cancel _ (by omega),show j-(k+1)=i by omega]
    have hb:P ^ (j-(k+1))≤N:=by rw [hN];exact Nat.pow_le_pow_right (by omega) (by omega)
    have wd:IntKind.i64.wrap ((P ^ (j-(k+1)):Nat):Int)=((P ^ (j-(k+1)):Nat):Int):=by
     generalize P ^ (j-(k+1))=z at *
     exact wrap64 (by omega) (by omega)
    have wk:IntKind.i64.wrap ((k:Int)+1)=((k+1:Nat):Int):=by rw [wrap64 (by omega) (by omega)];omega
    simp only [pwA,seval,-iQ0,hnz,hrem,hdiv,wd,wk];exact⟨_,by omega,k+1,by omega,rfl,rfl⟩
   ·obtain rfl:k=j:=by omega
    rw [Nat.sub_self,Nat.pow_zero];have hrem:((1:Nat):Int).tmod (P:Int)=1:=by
     rcases hP with rfl|rfl|rfl|rfl<;>rfl
    have hk0:(0:Int)<(k:Int):=by omega
    simp only [pwA,seval,-iQ0,hnz,hrem,hk0];refine PAcc.pushS (σb:=h') (bytes:=8) (Keep.refl h') (PAcc.nil h'.next 1 h') rfl (by omega) (by omega) fun v4 g4 k4 a4 q1 q2 q3=>?_
    have oo4:=a4.acc.one;simp only [pwA,seval,-iQ0,oo4];refine PAcc.pushS (σb:=h') (bytes:=8) k4 (PAcc.nil h'.next 1 g4) rfl (by omega) (by omega) fun v5 g5 k5 a5 r1 r2 r3=>?_
    have oo5:=a5.acc.one;simp only [pwA,seval,-iQ0,oo5];obtain⟨s4,c4,rfl,f4,o4,l4,b4,t4⟩:=a4;obtain⟨s5,c5,rfl,f5,o5,l5,b5,t5⟩:=a5;exact .inr ⟨_,_,rfl,rfl,rfl,s4,s5,c4,c5,_,rfl,rfl,k5,f4,f5,by rw [r1 s4 t4 fun off l c e=>by cases e];exact o4,o5,b4,b5,fun e=>r2 s4 t4 0 1 c5 (by rw [e])⟩
  ·rw [e]at E6 hlt
   clear e;simp only [pwA,seval,-iQ0,E0,E4,E5,E6];have hm:=zLz hP hj hp2 hlt;rw [←hN]at hm
   have hnz:¬(p:Int)=0:=by omega
   have hrem:(N:Int).tmod (p:Int)=((N % p:Nat):Int):=rfl;have hm':¬((N % p:Nat):Int)=0:=by omega
   refine zF (fun m vs h'=>m=0∧vs=[.int .i64 N,.fz true .nils 0 [],.fz true .nils 0 [],.int .i64 p,.int .i64 0]∧h'=g3) 0 ⟨rfl,by simp only [pwA,seval,-iQ0,E6],rfl⟩ ?_
   rintro m vs h' ⟨rfl,rfl,rfl⟩
   simp only [pwA,seval,-iQ0,hnz,hrem,hm'];exact .inl hlt
 ·simp only [pwA,seval,-iQ0]
  refine Gh.freeze (s:=s4) (cs:=pis [(P:Int)]) o4 b4 (zZ _ _) fun q1 _ _ _=>?_
  simp only [sb,sbs];rw [if_pos ⟨trivial,trivial,f4.ok⟩,if_neg (fun e=>hne e.1.symm)]
  have k2:Keep σ ((g.kill s4).up (max g.top (q1+1))):=(kk.kill b4).up (by simp only [PHeap.kill];omega)
  refine Gh.freeze (s:=s5) (cs:=pis [y]) (by simp only [PHeap.up,PHeap.kill];rw [if_neg (fun e=>hne e.symm)];exact o5) b5 (zZ _ _) fun q2 _ _ _=>?_
  simp only [sb,sbs];rw [if_pos ⟨trivial,trivial,f5.ok⟩];exact Gh.fin0 ((k2.kill b5).up (by simp only [PHeap.kill];omega)) ⟨trivial,trivial,trivial⟩ (hk _ _)
end Go.Proofs
namespace Go.Grp
end Go.Grp
namespace Go.Proofs
open Go.Ab Go.Lie Go.Grp
variable {σ h h':PHeap} {K:PV→PHeap→Prop} {n P j p:Nat} {w:Bool} {a:AV} {x:List Int}
theorem PtsOK.dvd (h:PtsOK P x) {i:Nat} (hi:i+1<x.length):x[i+1].tmod x[i]=0∧x[i]≠0:=by
 obtain⟨b,b1,_,hb,_⟩:=h.pw _ (List.getElem_mem (show i<x.length by omega))
 obtain⟨c,c1,_,hc,_⟩:=h.pw _ (List.getElem_mem hi);have hle:=List.pairwise_iff_getElem.1 h.asc i (i+1) (by omega) hi (by omega)
 have hP:1<P:=by have:=h.pr;omega
 have hbc:b≤c:=by
  rw [hb,hc]at hle
  exact(Nat.pow_le_pow_iff_right hP).1 (Int.ofNat_le.1 hle)
 have hp0:0<P ^ b:=Nat.pow_pos (by omega)
 rw [hb,hc];refine⟨?_,by omega⟩
 rw [show((P ^ c:Nat):Int).tmod ((P ^ b:Nat):Int)=((P ^ c % P ^ b:Nat):Int) from rfl,show c=(c-b)+b by omega,Nat.pow_add,Nat.mul_mod_left]
 rfl
theorem zGV (h:PtsOK P x) (hk:K (.bool true) σ):zA Tryz.prog 100 [.agg [.fz w a x.length (pis x),.int .i64 0]] σ K:=by
 have hl:=h.len;have hP:1<P:=by have:=h.pr;omega
 refine zA.gh ?_;refine Z8 mix Tryz.func100 ?_;have hw0:IntKind.i64.wrap ((x.length:Int)+0)=(x.length:Int):=by rw [wrap64 (by omega) (by omega)];omega
 have hw1:IntKind.i64.wrap (x.length:Int)=(x.length:Int):=wrap64 (by omega) (by omega)
 have h10:¬(10:Int)<(x.length:Int):=by omega
 simp only [pwA,seval,-iQ0,hw0,hw1,h10,Int.add_zero];have hr1:(σ.new [.fz w a x.length (pis x),.int .i64 0]).rd1 σ.next 0=some (.fz w a x.length (pis x)):=by simp only [pwA,seval,-iQ0]
 generalize hG:σ.new [.fz w a x.length (pis x),.int .i64 0]=G at *
 have hkG:Keep σ G:=by rw [←hG];exact zC _ _
 refine zF (fun m vs g=>∃i:Nat,i≤x.length∧m=x.length-i∧vs=[.ptr σ.next 0,.fz w a x.length (pis x),.int .i64 x.length,.int .i64 i]∧G=g) x.length ⟨0,Nat.zero_le _,rfl,rfl,rfl⟩ ?_
 rintro m vs g ⟨i,hi,rfl,rfl,rfl⟩
 simp only [pwA,seval,-iQ0];refine iteI (fun hlt=>?_) fun hge=>?_
 rotate_left
 ·exact Gh.fin0 hkG trivial hk
 have hlt':(i:Int)<(x.length:Int):=by omega
 have g1:(pis x)[i]? = some (.int .i64 x[i]):=by rw [zN,gi hlt];rfl
 have wi:=wrapS hlt (by omega:x.length≤4611686018427387904)
 simp only [pwA,seval,-iQ0,hlt,hlt',g1];refine zEj ?_;obtain⟨b,b1,_,hb,hb7⟩:=h.pw _ (List.getElem_mem hlt);have h2:2≤x[i]∧x[i]≤1000000:=by
  have h3:P ^ 1≤P ^ b:=Nat.pow_le_pow_right (by omega) b1
  rw [Nat.pow_one]at h3
  refine⟨?_,by omega⟩
  rw [hb];exact Int.ofNat_le.2 (show 2≤P ^ b by omega)
 have hd:decide (2≤x[i]∧x[i]≤1000000)=true:=by simp [h2]
 by_cases h0:i=0
 ·have hi0:¬(0:Int)<(i:Int):=by omega
  have hi0':¬0<i:=by omega
  simp only [pwA,seval,-iQ0,hd,hi0,hi0',wi];exact⟨_,by omega,i+1,by omega,rfl,rfl⟩
 ·obtain⟨k,hk1⟩:∃k,i=k+1:=⟨i-1,by omega⟩
  subst hk1;obtain⟨d1,d2⟩:=h.dvd hlt;have hi0:(0:Int)<((k+1:Nat):Int):=by omega
  have wm:IntKind.i64.wrap (((k+1:Nat):Int)-1)=(k:Int):=by rw [wrap64 (by omega) (by omega)];omega
  have hin:k<x.length:=by omega
  have hin':(k:Int)<(x.length:Int):=by omega
  have g2:(pis x)[k]? = some (.int .i64 x[k]):=by rw [zN,gi hin];rfl
  simp only [pwA,seval,-iQ0,hd,hi0,wm,hr1,hin,hin',g2,d1,d2,wi,decide_true,ne_eq,not_true];exact⟨_,by omega,k+1+1,by omega,rfl,rfl⟩
theorem zAQ (h:PtsOK P x) (hk:K (.tup [.agg [.fz w a x.length (pis x),.int .i64 0],.int .i64 0]) σ):zA Tryz.prog 71 [.agg [.fz w a x.length (pis x),.int .i64 0]] σ K:=by
 refine zA.gh ?_;refine zD mix Tryz.func71 ?_;simp only [pwA,seval,-iQ0];refine zGV h ?_;simp only [pwA,seval,-iQ0];exact Gh.fin0 ((zC σ _).new _) ⟨⟨trivial,trivial,trivial⟩,trivial,trivial⟩ hk
end Go.Proofs
namespace Go.Grp
end Go.Grp
namespace Go.Proofs
open Go.RowKit Go.Ab Go.Lie Go.Grp
variable {W:World} {n P j q:Nat} {x:List Int} {B:Nat} {w0 w:World} {jj:Inj} {h:AHeap} {Z:Nat→Prop}
def PHeap.non:PHeap:=⟨0,0,fun _=>none⟩
theorem zB3 (hw:HWF h) (hz:∀o,Z o→o<h.next):Rel idz Z PHeap.non h:=⟨hw,hz,Nat.zero_le _,fun _ _=>rfl,(fun s cs e=>by cases e),(fun s s' cs cs' e=>by cases e)⟩
theorem zJ5 {b:Bool} {a:AV} {cv:Value} {len:Nat} {ws:List AV} (m:MR B w0 jj h w) (v:VI jj a cv) (f:FzAt Z h b a len ws) (hl:0<len) (hne:ws≠[]):
  ∃blk o c,cv=.slice (some ⟨blk,o,none⟩) len c∧(b=true→B≤blk)∧∀i x,ws[i]? = some x→∃cx,w.cell? ⟨blk,o+i,none⟩=some cx∧VI jj x cx:=by
 rcases f with ⟨rfl,rfl,rfl⟩|⟨o,off,cap,rfl,hz,hr,hcap,hb⟩
 ·exact absurd hl (Nat.lt_irrefl _)
 ·obtain⟨lo,c,hj,e⟩:∃lo c,jj o=some lo∧cv=.slice (some ⟨lo.blk,lo.base+off,none⟩) len c:=by
   cases cap with
   | known c=>
    obtain⟨lo,a,hj,e,ha⟩:=v;rcases ha with rfl|⟨_,e0⟩
    ·exact⟨lo,_,hj,e⟩
    ·omega
   | grown e=>
    obtain⟨lo,c,f,hj,e1,hle,hf,_⟩:=v;rcases hf with rfl|⟨e0,_⟩
    ·exact⟨lo,_,hj,e1⟩
    ·omega
  refine⟨lo.blk,lo.base+off,c,e,fun eb=>?_,fun i x hx=>?_⟩
  ·obtain⟨cur,ty,fz,_,_,r3,_⟩:=(m.obj _ _ _ (hb eb).2 hj).row
   exact(r3 rfl).2.2
  have hr:=hr.resolve_left hne;obtain⟨ob,ho,hle,hws⟩:=AHeap.rd_some hr;obtain⟨cur,ty,fz,r1,r2,r3,r4⟩:=(m.obj _ _ _ ho hj).row;have hil:i<ws.length:=(List.getElem?_eq_some_iff.1 hx).1
  have:ob.cells[off+i]? = some x:=by
   rw [hws,List.getElem?_take,if_pos (by omega),List.getElem?_drop]at hx
   exact hx
  obtain⟨cx,c1,c2⟩:=r2 _ _ this;exact⟨cx,by rw [Lib.cell_of_heap r1,Nat.add_assoc];exact c1,c2⟩
theorem zJ6 (hP:P=2∨P=3∨P=5∨P=7) (hj1:1≤j) (hj:j≤9) (hq:P ^ j≤729) (W:World):
  Calls Tryz.prog 68 #[.int .i64 ((P ^ j:Nat):Int)] W fun e w'=>∃b o c v2,e=.returned (.tuple #[.slice (some ⟨b,o,none⟩) 1 c,v2])∧W.heap.size≤b∧w'.cell? ⟨b,o,none⟩=some (.int .i64 P)∧Below W.heap.size W w':=by
 have pc:=zIj (σ:=PHeap.non) (K:=fun v _=>∃a1 v2,v=.tup [.fz true a1 1 (pis [(P:Int)]),v2]) hP hj1 hj hq fun a1 v2=>⟨a1,v2,rfl⟩
 have m0:=MR.empty W;refine(pc idz (fun _=>False) _ (zB3 m0.wf fun o ho=>ho.elim) ⟨trivial,trivial⟩ _ _ _ _ [.int .i64 ((P ^ j:Nat):Int)] m0 ⟨_,_,rfl,rfl,rfl⟩).mono ?_
 rintro e w' ⟨v,h',j',cv,rfl,fr,mr,vi,pv,σ',ι',Z',r',a',vk,rfl,a1,v2,rfl⟩
 obtain⟨vs,⟨c1,vs2,rfl,vi1,c2,vs3,rfl,vi2,rfl⟩,rfl⟩:=vi;obtain⟨blk,o,c,rfl,hB,hc⟩:=zJ5 mr vi1 vk.1.1 (by simp) (by simp [pis,ers])
 obtain⟨cx,g1,g2⟩:=hc 0 (.int .i64 P) rfl;refine⟨blk,o,c,c2,rfl,hB rfl,?_,mr.below⟩;rw [Nat.add_zero]at g1
 rw [g1,show cx=_ from g2]
theorem zAL:∀x:List Int,ers idz (pis x)=ints x
 | []=>rfl
 | v::x=>by rw [zKt,ers,zAL x];rfl
theorem zCo {n:Nat}:∀x:List Int,VOKs Z h n (pis x)
 | []=>trivial
 | v::x=>⟨trivial,zCo x⟩
theorem zFv {g off c:Nat} (hn:n=x.length) (h0:0<n) (hnc:n≤c) (hc:∀i v,x[i]? = some v→W.cell? ⟨g,off+i,none⟩=some (.int .i64 v)):
  ∃(jj:Inj) (h:AHeap) (Z:Nat→Prop),MR W.heap.size W jj h W∧(∀o,Z o→o<h.next)∧VI jj (.sl 0 0 n (.known c)) (.slice (some ⟨g,off,none⟩) n c)∧VOK Z h 0 (.fz false (.sl 0 0 n (.known c)) n (pis x))∧jj 0=some ⟨g,off,0⟩:=by
 subst hn;obtain⟨v0,hv0⟩:∃v0,x[0]? = some v0:=⟨x[0],List.getElem?_eq_getElem h0⟩
 obtain⟨hs,cur,ty,fz,hrow,hcur0⟩:=zEP (hc 0 v0 hv0);have m0:=MR.empty W;have m1:=m0.lay (cells:=ints x) (l:=⟨g,off,0⟩) (by simp [ints,AV.one]) (by exact(Array.getElem?_eq_some_iff.1 hrow).1) hrow (fun i v hi=>by
  unfold ints at hi
  rw [List.getElem?_map,Option.map_eq_some_iff]at hi
  obtain⟨z,hz,rfl⟩:=hi;have h1:=hc i z hz;rw [Lib.cell_of_heap hrow]at h1
  exact⟨_,h1,rfl⟩)
 refine⟨_,_,fun o=>o=0,m1,fun o ho=>by rw [ho];exact Nat.lt_succ_self _,⟨⟨g,off,0⟩,⟨g,off,none⟩,rfl,rfl,.inl rfl⟩,?_,rfl⟩
 refine⟨.inr ⟨0,0,.known c,rfl,rfl,.inr ?_,fun c' e=>by cases e;exact hnc,fun e=>by cases e⟩,?_⟩
 ·have e:ers idz (pis x)=ints x:=zAL x
  rw [e];exact zAG (ob:=⟨false,ints x⟩) (by simp only [AHeap.new,if_true]) rfl
 ·exact zCo x
theorem zNB {g off c:Nat} (hn:n=x.length) (h0:0<n) (h6:n≤6) (ha:x.Pairwise (·≤·)) (hnc:n≤c) (hc:∀i v,x[i]? = some v→W.cell? ⟨g,off+i,none⟩=some (.int .i64 v)):
  Calls Tryz.prog 69 #[.slice (some ⟨g,off,none⟩) n c] W fun e w'=>e=.returned (.tuple #[])∧Below W.heap.size W w':=by
 obtain⟨jj,h,Z,m,hz,vi,vk,_⟩:=zFv hn h0 hnc hc;have pc:=zNA (σ:=PHeap.non) (w:=false) (a:=.sl 0 0 n (.known c)) (K:=fun v _=>v=.tup []) hn h6 ha rfl
 refine(pc idz Z h (zB3 m.wf hz) ⟨vk,trivial⟩ _ _ _ _ [.slice (some ⟨g,off,none⟩) n c] m ⟨_,_,rfl,vi,rfl⟩).mono ?_
 rintro e w' ⟨v,h',j',cv,rfl,fr,mr,vi',pv,σ',ι',Z',r',a',vk',rfl,rfl⟩
 obtain⟨vs,rfl,rfl⟩:=vi';exact⟨rfl,mr.below⟩
theorem zKK {g off c:Nat} (hn:n=x.length) (h0:0<n) (hx:PtsOK P x) (hnc:n≤c) (hc:∀i v,x[i]? = some v→W.cell? ⟨g,off+i,none⟩=some (.int .i64 v)):
  Calls Tryz.prog 71 #[.agg #[.slice (some ⟨g,off,none⟩) n c,.int .i64 0]] W fun e w'=>e=.returned (.tuple #[.agg #[.slice (some ⟨g,off,none⟩) n c,.int .i64 0],.int .i64 0])∧Below W.heap.size W w':=by
 obtain⟨jj,h,Z,m,hz,vi,vk,hj0⟩:=zFv hn h0 hnc hc;subst hn;have pc:=zAQ (σ:=PHeap.non) (w:=false) (a:=.sl 0 0 x.length (.known c)) (x:=x) (P:=P) (K:=fun v _=>v=.tup [.agg [.fz false (.sl 0 0 x.length (.known c)) x.length (pis x),.int .i64 0],.int .i64 0]) hx rfl
 refine(pc idz Z h (zB3 m.wf hz) ⟨⟨vk,trivial,trivial⟩,trivial⟩ _ _ _ _ [.agg #[.slice (some ⟨g,off,none⟩) x.length c,.int .i64 0]] m ⟨_,_,rfl,⟨[_,_],⟨_,_,rfl,vi,_,_,rfl,rfl,rfl⟩,rfl⟩,rfl⟩).mono ?_
 rintro e w' ⟨v,h',j',cv,rfl,fr,mr,vi',pv,σ',ι',Z',r',a',vk',rfl,rfl⟩
 obtain⟨vs,⟨c1,vs2,rfl,vi1,c2,vs3,rfl,rfl,rfl⟩,rfl⟩:=vi';obtain⟨vs,⟨d1,vs4,rfl,vi2,d2,vs5,rfl,rfl,rfl⟩,rfl⟩:=vi1;obtain⟨lo,a,hj,rfl,ha⟩:=vi2;have hj2:=(fr.inj 0 (m.lt hj0)).trans hj0;rw [hj2]at hj
 cases hj;rcases ha with rfl|⟨_,e0⟩
 ·exact⟨rfl,mr.below⟩
 ·omega
end Go.Proofs
namespace Go.Proofs
open Go.RowKit
open Go.ChangeMaps (setBlock)
theorem zAA:Tryz.prog.underlying 89=some (.map 2 36):=by kernel_rfl
theorem zHh:Tryz.prog.underlying 36=some (.slice 2):=by kernel_rfl
theorem Qn:Tryz.prog.underlying 2=some (.int .i64):=by kernel_rfl
theorem zMQ:(Tryz.prog.info? 2).map (fun i=>(i.zero,i.size,i.bytes))=some (some (.int .i64 0),1,8):=by kernel_rfl
theorem zLL:(Tryz.prog.info? 36).map (fun i=>(i.zero,i.size,i.bytes))=some (some (.slice none 0 0),1,24):=by kernel_rfl
theorem zLK (w:World):(zeroValue 36).run Tryz.prog w=.ok (.slice none 0 0) w:=by
 obtain⟨i0,hi,hz0,hz1,hz2⟩:=info_parts zLL;simp [zeroValue,typeInfo,hi,hz0,Sem.run_bind,Result.andThen]
def Mio (P k:Nat) (es:Array MapEntry) (c:Nat) (v:Value):Prop:=(k=0∧es = #[]∧c=0∧v=.slice none 0 0)∨(0<k∧es = #[⟨.int .i64 P,v,0⟩]∧c=1)
variable {P k c M:Nat} {es:Array MapEntry} {v:Value} {w:World}
theorem Mio.look (h:Mio P k es c v) (hb:w.heap[M]? = some (.map es c)):(Instr.lookup 89 (.map (some M)) (.int .i64 P) false).run Tryz.prog w=.ok v w:=by
 have hk:MapKept.IsKey (.int .i64) (.int .i64 (P:Int)):=rfl;rcases h with ⟨_,rfl,_,rfl⟩|⟨_,rfl,_⟩
 ·have hf:Instr.findNow (.int .i64) (.int .i64 (P:Int)) ([]:List MapEntry) 0=some none:=rfl
  simp [Instr.lookup,run_underlying zAA,MapKept.run_getObj_map hb,MapKept.run_checkKey Qn hk,MapKept.run_findKey Qn hf,Result.andThen,zLK]
 ·have hf:Instr.findNow (.int .i64) (.int .i64 (P:Int)) [⟨.int .i64 P,v,0⟩] 0=some (some (0,v)):=by simp [Instr.findNow,Instr.sameNow]
  simp [Instr.lookup,run_underlying zAA,MapKept.run_getObj_map hb,MapKept.run_checkKey Qn hk,MapKept.run_findKey Qn hf,Result.andThen]
theorem Mio.upd (h:Mio P k es c v) (hb:w.heap[M]? = some (.map es c)) (u:Value):(Instr.mapUpdate 89 (.map (some M)) (.int .i64 P) u).run Tryz.prog w=.ok () (setBlock w M (.map #[⟨.int .i64 P,u,0⟩] 1)):=by
 have hk:MapKept.IsKey (.int .i64) (.int .i64 (P:Int)):=rfl;rcases h with ⟨_,rfl,rfl,rfl⟩|⟨_,rfl,rfl⟩
 ·have hf:Instr.findNow (.int .i64) (.int .i64 (P:Int)) ([]:List MapEntry) 0=some none:=rfl
  simp [Instr.mapUpdate,run_underlying zAA,MapKept.run_getObj_map hb,MapKept.run_checkKey Qn hk,MapKept.run_findKey Qn hf,MapKept.run_setObj_map _ hb,Result.andThen,setBlock]
 ·have hf:Instr.findNow (.int .i64) (.int .i64 (P:Int)) [⟨.int .i64 P,v,0⟩] 0=some (some (0,v)):=by simp [Instr.findNow,Instr.sameNow]
  simp [Instr.mapUpdate,run_underlying zAA,MapKept.run_getObj_map hb,MapKept.run_checkKey Qn hk,MapKept.run_findKey Qn hf,MapKept.run_setObj_map _ hb,MapKept.run_keyThatStays hk,Result.andThen,setBlock]
def vls (x:List Int):List Value:=x.map (Value.int .i64)
theorem zEx {x:List Int} {k:Nat} {q:Int} (h:x[k]? = some q):vls (x.take (k+1))=vls (x.take k)++[.int .i64 q]:=by
 obtain⟨hl,rfl⟩:=List.getElem?_eq_some_iff.1 h;simp only [vls,List.take_succ_eq_append_getElem hl,List.map_append,List.map_cons,List.map_nil]
theorem zBR {w:World} {b:Nat} {o:Obj} (h:b<w.heap.size):(setBlock w b o).heap[b]? = some o:=by simp [setBlock,h]
theorem ZI {w:World} {b b':Nat} {o:Obj} (h:b'≠b):(setBlock w b o).heap[b']? = w.heap[b']?:=by simp [setBlock,Ne.symm h]
theorem Qt {w:World} {b:Nat} {o:Obj}:(setBlock w b o).heap.size=w.heap.size:=by simp [setBlock]
theorem zEr {B b:Nat} {a w:World} {o:Obj} (h:Below B a w) (hb:B≤b):Below B a (setBlock w b o):=
 h.trans ⟨rfl,rfl,rfl,Nat.le_of_eq Qt.symm,fun i hi=>ZI (by omega)⟩
theorem zBC {w w':World} {B e n:Nat} {v:Value} {xs:List Value} (hb:∀g,v.ownBlock=some g→w'.heap[g]? = w.heap[g]?) (h:w.ownsRow B e 1 v n xs):w'.ownsRow B e 1 v n xs:=by
 refine⟨h.1,?_⟩;rcases h.2 with q|⟨g,cap,cur,rfl,h2,h3,rest⟩
 ·exact .inl q
 ·exact .inr ⟨g,cap,cur,rfl,h2,by rw [hb g rfl];exact h3,rest⟩
theorem zBD {w w':World} {B e n:Nat} {v:Value} {xs:List Value} (hb:Below w.heap.size w w') (h:w.ownsRow B e 1 v n xs):w'.ownsRow B e 1 v n xs:=
 zBC (fun g hg=>hb.block g (h.lt g hg).2) h
structure FpI (W:World) (P:Nat) (x:List Int) (es:Array MapEntry) (c:Nat) (v:Value) (k:Nat) (wr:World):Prop where
 mio:Mio P k es c v
 map:wr.heap[W.heap.size+1]? = some (.map es c)
 own:wr.ownsRow (W.heap.size+2) 2 1 v k (vls (x.take k))
 blw:Below W.heap.size W wr
 cel:wr.heap[W.heap.size]? = some (.cells #[.slice none 0 0,.int .i64 0] 38 (0,0))
 siz:W.heap.size+2≤wr.heap.size
theorem FpI.below {W wr w':World} {x:List Int} (h:FpI W P x es c v k wr) (b:Below wr.heap.size wr w'):FpI W P x es c v k w' where
 mio:=h.mio
 map:=by rw [b.block _ (by have:=h.siz;omega)];exact h.map
 own:=zBD b h.own
 blw:=h.blw.trans (b.mono (by have:=h.siz;omega))
 cel:=by rw [b.block _ (by have:=h.siz;omega)];exact h.cel
 siz:=Nat.le_trans h.siz b.size
theorem FpI.next {W wr w1:World} {x:List Int} {q:Int} {u:Value} (h:FpI W P x es c v k wr) (hq:x[k]? = some q) (g:wr.grownBy w1 v.ownBlock) (hown:w1.ownsRow (W.heap.size+2) 2 1 u (k+1) (vls (x.take k)++[.int .i64 q])):
  FpI W P x #[⟨.int .i64 P,u,0⟩] 1 u (k+1) (setBlock w1 (W.heap.size+1) (.map #[⟨.int .i64 P,u,0⟩] 1)):=by
 have hs:=h.siz;have hs1:=g.size;have hno:∀j,j<W.heap.size+2→some j≠v.ownBlock:=fun j hj e=>by have:=(h.own.lt j e.symm).1;omega
 refine⟨.inr ⟨by omega,rfl,rfl⟩,zBR (by omega),?_,?_,?_,by rw [Qt];omega⟩
 ·rw [zEx hq]
  exact zBC (fun g hg=>ZI (by have:=(hown.lt g hg).1;omega)) hown
 ·exact zEr (h.blw.grown g (by omega) fun j hj=>by have:=(h.own.lt j hj).1;omega) (by omega)
 ·rw [ZI (by omega),g.block _ (by omega) (hno _ (by omega))];exact h.cel
end Go.Proofs
namespace Go.Proofs
section
open Go.RowKit Go.Lib Go.Sort
set_option maxHeartbeats 1600000 in
set_option maxRecDepth 1000000 in
theorem zKQ (blk off cap:Nat) (d:Array Int) (w:World) (hH:Holds encI w blk off d) (hsz:d.size≤9223372036854775807):
  Calls Tryz.prog 70 #[.slice (some ⟨blk,off,none⟩) d.size cap] w fun e w'=>e=.returned (.tuple #[])∧∃n,w'=putRow encI (Sort.ahead w n) blk off d.reverse:=by
 go_enter Tryz.func70,Tryz.ntmps70
 go_wp2
 go_loopg [2,3] d.size (fun k s2 s3 wr=>∃(i jn:Nat) (jz:Int) (dk:Array Int) (n:Nat),s2=.int .i64 i∧s3=.int .i64 jz∧((i:Int)<jz→jz=jn∧jn<d.size)∧(¬(i:Int)<jz→¬i<jn)∧jn-i≤k∧
  dk.size=d.size∧wr=putRow encI (Sort.ahead w n) blk off dk∧reverseLoop i jn dk=reverseLoop 0 (d.size-1) d)
 case atStart=>exact⟨0,d.size-1,(d.size:Int)-1,d,0,rfl,rfl,fun h=>⟨by omega,by omega⟩,fun h=>by omega,by omega,rfl,(putRow_self encI w blk off d hH).symm,rfl⟩
 case round=>
  obtain⟨i,jn,jz,dk,n,rfl,rfl,h1,h2,hk,hds,hwr,heq⟩:=hrel
  by_cases hlt:(i:Int)<jz
  ·obtain⟨rfl,hjn⟩:=h1 hlt
   have hij:i<jn:=by omega
   have hHk:Holds encI wr blk off dk:=by rw [hwr];exact holds_putRow encI _ blk off d dk (holds_ahead encI w n blk off d hH) hds
   obtain⟨ci,fi⟩:=hHk i (by omega)
   obtain⟨cj,fj⟩:=hHk jn (by omega)
   have A:Aside (wr=putRow encI (Sort.ahead w n) blk off dk):=hwr;clear hwr hHk hH h1 h2
   go_wp2_with fail
   go_region
   go_wp2
   go_roundg (jn-1-(i+1))
   case measure=>omega
   case rel=>
    rw [reverseLoop,if_pos hij]at heq
    exact⟨i+1,jn-1,(jn:Int)-1,swp dk i jn,n+1,by simp,rfl,fun h=>⟨by omega,by omega⟩,fun h=>by omega,Nat.le_refl _,by rw [size_swp];exact hds,
     swap_world encI (by omega) (by omega) A.out (by first | rfl | simp [encI,getElem!_pos,show jn<dk.size by omega]) (by first | rfl | simp [encI,getElem!_pos,show i<dk.size by omega]),heq⟩
  ·have hnot:=h2 hlt
   go_wp2
   go_end0
   refine⟨rfl,n,?_⟩;rw [reverseLoop,if_neg hnot]at heq
   rw [←Lib.reverseLoop_reverse,←heq]
end
end Go.Proofs
namespace Go.Proofs
open Go.RowKit Go.Lib Go.Sort
variable {w:World} {B g n cap m:Nat} {x y:List Int}
theorem zD2 {i:Nat}:(vls x)[i]? = x[i]?.map (Value.int .i64):=by simp [vls]
theorem zAK (h:w.ownsRow B 2 1 (.slice (some ⟨g,0,none⟩) n cap) n (vls x)) {i:Nat} {v:Int} (hi:x[i]? = some v):w.cell? ⟨g,i,none⟩=some (.int .i64 v):=by
 have hl:x.length=n:=by have:=h.1;simpa [vls]using this
 have hin:i<n:=by rw [←hl];exact(List.getElem?_eq_some_iff.1 hi).1
 rw [h.cellAt i (by omega),zD2,hi];rfl
theorem zJk (h:w.ownsRow B 2 1 (.slice (some ⟨g,0,none⟩) n cap) n (vls x)):Holds encI w g 0 x.toArray:=fun j hj=>by
 have hj':j<x.length:=by simpa using hj
 refine⟨?_,h.frozenAt _⟩;rw [Nat.zero_add,zAK h (List.getElem?_eq_getElem hj')];simp [encI,getElem!_pos,hj']
theorem zKf (h:w.ownsRow B 2 1 (.slice (some ⟨g,0,none⟩) n cap) n (vls x)) (hy:y.length=n):(putRow encI (Sort.ahead w m) g 0 y.toArray).ownsRow B 2 1 (.slice (some ⟨g,0,none⟩) n cap) n (vls y):=by
 refine⟨by simp [vls,hy],.inr ?_⟩
 rcases h.2 with ⟨e,_⟩|⟨g',cap',cur,e,h1,h2,h3,h4,h5,h6⟩
 ·cases e
 ·cases e
  refine⟨g,cap,putCells encI 0 y.toArray cur,rfl,h1,?_,h3,h4,?_,?_⟩
  ·have:(putRow encI (Sort.ahead w m) g 0 y.toArray).heap=w.heap.modify g (onCells (putCells encI 0 y.toArray)):=rfl
   rw [this,Array.getElem?_modify,if_pos rfl,h2];rfl
  ·simp [putCells,h5]
  ·apply List.ext_getElem?
   intro i;rw [List.getElem?_take,zD2]
   by_cases hi:i<n*1
   ·rw [if_pos hi]
    have hiy:i<y.length:=by omega
    have hic:i<cur.size:=by omega
    simp [putCells,hiy,hic,encI]
   ·rw [if_neg hi,List.getElem?_eq_none (by omega)];rfl
theorem zEY {d:Array Int} {k o:Nat} (hk:k≠g):(putRow encI (Sort.ahead w m) g o d).heap[k]? = w.heap[k]?:=by
 have:(putRow encI (Sort.ahead w m) g o d).heap=w.heap.modify g (onCells (putCells encI o d)):=rfl
 rw [this,Array.getElem?_modify,if_neg (Ne.symm hk)]
theorem zJD {a:World} {d:Array Int} {o:Nat} (h:Below B a w) (hk:B≤g):Below B a (putRow encI (Sort.ahead w m) g o d):=
 h.trans ⟨rfl,rfl,rfl,by simp,fun k hk'=>zEY (by omega)⟩
theorem zEu (h:w.ownsRow B 2 1 (.slice (some ⟨g,0,none⟩) n cap) n (vls x)) (hB:B≤g) (hn:n≤6):
  Calls Tryz.prog 70 #[.slice (some ⟨g,0,none⟩) n cap] w fun e w'=>e=.returned (.tuple #[])∧w'.ownsRow B 2 1 (.slice (some ⟨g,0,none⟩) n cap) n (vls x.reverse)∧Below B w w'∧(∀k,k≠g→w'.heap[k]? = w.heap[k]?)∧w'.heap.size=w.heap.size:=by
 have hl:x.length=n:=by have:=h.1;simpa [vls]using this
 have hs:x.toArray.size=n:=by simp [hl]
 have rc:=zKQ g 0 cap x.toArray w (zJk h) (by omega)
 rw [hs]at rc
 refine rc.mono ?_
 rintro e w' ⟨rfl,m,rfl⟩
 have e1:x.toArray.reverse=x.reverse.toArray:=by simp
 rw [e1];exact⟨rfl,zKf h (by simp [hl]),zJD (Below.refl _ _) hB,fun k hk=>zEY hk,by simp⟩
theorem zMD {i:Nat} {z:Int} (h:w.ownsRow B 2 1 (.slice (some ⟨g,0,none⟩) n cap) n (vls x)):(w.setCell ⟨g,i,none⟩ (.int .i64 z)).ownsRow B 2 1 (.slice (some ⟨g,0,none⟩) n cap) n (vls (x.set i z))∧w.grownBy (w.setCell ⟨g,i,none⟩ (.int .i64 z)) (some g):=by
 have:=h.stored i (.int .i64 z)
 rw [show vls (x.set i z)=(vls x).set i (.int .i64 z) by simp [vls,List.map_set]]
 exact this
open Go.ChangeMaps (setBlock)
theorem next1 {W wr:World} {P k:Nat} {v:Value} (h:FpI W P x #[⟨.int .i64 P,v,0⟩] 1 v k wr):
  ∃w5,(∀ty,(Instr.next (.pointer (some ⟨wr.heap.size,0,none⟩)) false ty).run Tryz.prog (wr.alloc (.mapIter (some (W.heap.size+1)) 1 #[] 1))=.ok (.tuple #[.bool true,.int .i64 P,v]) w5)∧
   (Instr.entry (.pointer (some ⟨wr.heap.size,0,none⟩))).run Tryz.prog w5=.ok (.tuple #[.int .i64 P,v]) w5∧
   FpI W P x #[⟨.int .i64 P,v,0⟩] 1 v k w5∧w5.heap[wr.heap.size]? = some (.mapIter (some (W.heap.size+1)) 1 #[0] 1)∧w5.heap.size=wr.heap.size+1:=by
 have hs:=h.siz;have hr:(wr.alloc (.mapIter (some (W.heap.size+1)) 1 #[] 1)).heap[wr.heap.size]? = some (.mapIter (some (W.heap.size+1)) 1 #[] 1):=heap_alloc_new wr _;have hb:(wr.alloc (.mapIter (some (W.heap.size+1)) 1 #[] 1)).heap[W.heap.size+1]? = some (.map #[⟨.int .i64 P,v,0⟩] 1):=(Below.heap_alloc wr _ _ (by omega)).trans h.map
 have b0:Below wr.heap.size wr (wr.alloc (.mapIter (some (W.heap.size+1)) 1 #[] 1)):=(Below.refl _ wr).alloc (Nat.le_refl _) _;have s0:(wr.alloc (.mapIter (some (W.heap.size+1)) 1 #[] 1)).heap.size=wr.heap.size+1:=by simp
 generalize wr.alloc (.mapIter (some (W.heap.size+1)) 1 #[] 1)=w3 at *
 have law:=run_next_at (P:=Tryz.prog) w3 0 wr.heap.size (W.heap.size+1) 1 1 #[] #[⟨.int .i64 P,v,0⟩] 1 hr hb (fun z hz=>by simp at hz;subst hz;exact Nat.zero_lt_one) (Nat.le_refl _)
 rcases law with ⟨h0,_⟩|⟨e,he,w4,h4,hrun⟩
 ·simp [leftOf]at h0
 ·obtain rfl:e=⟨.int .i64 P,v,0⟩:=by have:=(mem_left he).1;simpa using this
  have b4:Below wr.heap.size wr w4:=by
   rcases h4 with rfl|rfl
   ·exact b0
   ·exact b0.drew
  have s4:w4.heap.size=wr.heap.size+1:=by rcases h4 with rfl | rfl<;>exact s0
  have m4:w4.heap[W.heap.size+1]? = some (.map #[⟨.int .i64 P,v,0⟩] 1):=by rcases h4 with rfl | rfl<;>exact hb
  have it5:(setBlock w4 wr.heap.size (.mapIter (some (W.heap.size+1)) 1 (#[].push 0) 1)).heap[wr.heap.size]? = some (.mapIter (some (W.heap.size+1)) 1 (#[].push 0) 1):=zBR (by omega)
  have m5:(setBlock w4 wr.heap.size (.mapIter (some (W.heap.size+1)) 1 (#[].push 0) 1)).heap[W.heap.size+1]? = some (.map #[⟨.int .i64 P,v,0⟩] 1):=by rw [ZI (by omega)];exact m4
  refine⟨_,fun _=>hrun,?_,h.below (zEr b4 (Nat.le_refl _)),it5,by rw [Qt];exact s4⟩
  exact run_entry_at _ wr.heap.size (W.heap.size+1) 1 #[] #[⟨.int .i64 P,v,0⟩] 1 ⟨.int .i64 P,v,0⟩ it5 m5 (by simp) (by simp)
theorem next2 {w3:World} {R M P:Nat} {v:Value} (hr:w3.heap[R]? = some (.mapIter (some M) 1 #[0] 1)) (hb:w3.heap[M]? = some (.map #[⟨.int .i64 P,v,0⟩] 1)) (ty:TypeId):
  (Instr.next (.pointer (some ⟨R,0,none⟩)) false ty).run Tryz.prog w3=.ok (.tuple #[.bool false]) w3:=by
 have law:=run_next_at (P:=Tryz.prog) w3 ty R M 1 1 #[0] #[⟨.int .i64 P,v,0⟩] 1 hr hb (fun z hz=>by simp at hz;subst hz;exact Nat.zero_lt_one) (Nat.le_refl _)
 rcases law with ⟨_,h⟩|⟨e,he,_⟩
 ·exact h
 ·simp [leftOf]at he
end Go.Proofs
