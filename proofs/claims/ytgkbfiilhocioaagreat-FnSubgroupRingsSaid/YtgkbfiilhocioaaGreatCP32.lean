/- Orders of elements and roots, both sides. -/
import Derived.Test.YtgkbfiilhocioaaGreatCP31
open Int renaming reduceNatCast'→iQ0
set_option maxRecDepth 100000
namespace Go.Grp
end Go.Grp
set_option linter.unusedSimpArgs false
set_option linter.unusedVariables false
namespace Go.Proofs
open Go.Ab Go.Lie Go.Grp
variable {σ:PHeap} {K:PV→PHeap→Prop} {O:List Int} {P:List (List Int)} {C:List (List (List Int))} {vO vP vC vx vy vL:PV} {x y f a b:List Int} {L:List (List Int)} {rP rC rb:List PV} {D:List (Option (List Int))} {d j sp ss sb n:Nat}
theorem Keep.self {rb:List PV} {h:PHeap} (hb:σ.obj sb=some rb) (k:Keep σ h):Keep (σ.set sb rb) h:=⟨k.next,k.top,fun t ht=>by
 rw [k.obj t ht,zH]
 split
 ·rename_i e;rw [e];exact hb
 ·rfl⟩
theorem Gh.finB {σ0 σ1:PHeap} {rb:List PV} {v:PV} (hsb:sb<σ0.next) (hk:Keep (σ0.set sb rb) σ1) (hb:Bels 0 rb) (hv:Bel σ0.next v) (k:K v (σ0.set sb rb)):Gh σ0 K v σ1:=fun w=>
 Gh.cut (σ2:=σ0.set sb rb) rfl hk.top (fun t cs ht=>by
  have hlt:t<σ0.next:=by
   rw [zH]at ht
   split at ht
   ·rename_i e;rw [e];exact hsb
   ·exact w.lt ht
  refine⟨hlt,by rw [hk.obj t hlt];exact ht,?_⟩
  rw [zH]at ht
  split at ht
  ·cases ht;exact .inr (hb.up (Nat.zero_le _))
  ·exact .inl ht) hv k w
theorem zGQ (s:Shp O P C) (F:Full O P C O.length) (hs:PtrG σ sp vO vP vC) (hR:IsPr vO vP vC O P C) (hx:gS O x) (hy:gS O y) (hvx:FI vx x) (hvy:FI vy y) (hk:∀v,FI v (gcom O P C x y)→K v σ):
  zA Tryz.prog 235 [.ptr sp 0,vx,vy] σ K:=by
 have G:=F.g;have up:∀{z:List Int},gS O z→TT O (O.length-O.length) z:=fun h=>by rw [Nat.sub_self];exact h
 have dn:∀{z:List Int},TT O (O.length-O.length) z→gS O z:=fun h=>by rw [Nat.sub_self]at h;exact h
 refine zD mix Tryz.func235 ?_
 conv=>arg 2;cbv
 refine zF rfl ?_;simp only [pwA,seval,-iQ0];refine zF2 s F hs hR (up hx) hvx fun v1 z1 h1 e1 f1=>?_
 simp only [pwA,seval,-iQ0];refine zA4 s F hs hR (up hx) (up hy) hvx hvy fun v2 z2 h2 e2 f2=>?_
 simp only [pwA,seval,-iQ0];refine zBV s F hs hR h1 h2 f1 f2 fun v3 f3=>?_
 simp only [pwA,seval,-iQ0];have e:mu O P C O.length z1 z2=gcom O P C x y:=by
  refine G.com_eq hx hy (G.cl (dn h1) (dn h2)) ?_;have i1:z1=ginv (gS O) (gm O P C) (zv O) x:=G.inv_eq hx (dn h1) e1;show gm O P C (gm O P C y x) (gm O P C z1 z2)=gm O P C x y;have hxz:gm O P C x (gm O P C z1 z2)=z2:=by rw [←G.as hx (dn h1) (dn h2),show gm O P C x z1=zv O from e1,G.l1 (dn h2)]
  rw [G.as hy hx (G.cl (dn h1) (dn h2)),hxz];exact e2
 rw [e]at f3
 exact hk v3 f3
theorem zPk (s:Shp O P C) (F:Full O P C O.length) (hC:Cent O C) (hp:∀o∈O,isP o) (hq:SeqG σ ss sb sp O.length rb vO vP vC) (hR:IsPr vO vP vC O P C) (hD:OkD O D) (hrb:All2 (DRow O.length) rb D) (hQI:QI O P C D []) (hL:FII vL L) (hg:∀x∈L,gS O x) (hLl:L.length≤1000000)
  (hk:∀(t:Bool) rb' D',All2 (DRow O.length) rb' D'→OkD O D'→QI O P C D' []→(∀N,gB O P C N→(InD N D'↔(InD N D∧∀q∈L,N q)))→free D'≤free D→(t=true→free D'<free D)→K (.bool t) (σ.set sb rb')):
  zA Tryz.prog 194 [.ptr ss 0,vL] σ K:=by
 have hn6:=s.le;have hf6:=zAk D;rw [hD.len]at hf6
 have G:=F.g;have up:∀{z:List Int},gS O z→TT O (O.length-O.length) z:=fun h=>by rw [Nat.sub_self];exact h
 obtain⟨wl,al,rl,rfl,hrl⟩:=hL;have hR0:=hR;obtain⟨⟨w0,a0,rfl⟩,_,_⟩:=hR;refine zA.gh ?_;refine zL mix Tryz.func194 cf194 rfl ?_;dsimp only [if194,qI,eI,nI,qD,eD,mI0,kI0,tI0,lI0,fI0,xI0,bI0,cI0,sI0,pI0,C1,C2,C3,mD0,lD0,fD0,xD0,pD0,R0,S0];simp only [pwA,seval,-iQ0];refine zH4 hrl.1 (hrl.bI 0) (by omega) fun vQ h1 k1 q1=>?_
 simp only [pwA,seval,-iQ0];refine zG (fun m vs h'=>∃g Q vQ rb' D' rq,m=10*free D'+Q.length∧vs=[.ptr ss 0,.bool g,vQ]∧Keep (σ.set sb rb') h'∧PQ σ.next h' vQ Q.length rq∧All2 FI rq Q∧(∀x∈Q,gS O x)∧All2 (DRow O.length) rb' D'∧OkD O D'∧QI O P C D' Q∧(∀N,gB O P C N→((InD N D'∧∀q∈Q,N q)↔(InD N D∧∀q∈L,N q)))∧free D'≤free D∧(g=true→free D'<free D)∧Q.length+10*free D'≤L.length+10*free D) (10*free D+L.length) ?_ ?_
 ·exact⟨false,L,vQ,rb,D,rl,rfl,rfl,Keep.self hq.bobj k1,q1,hrl,hg,hrb,hD,hQI.mem (fun q hq=>by cases hq),fun N _=>Iff.rfl,Nat.le_refl _,by simp,Nat.le_refl _⟩
 clear k1 q1 vQ h1
 as_aux_lemma=>
 rintro m vs h' ⟨g,Q,vQ,rb',D',rq,rfl,rfl,hkp,hqq,hrq,hgQ,hrb',hD',hQq,hS,hf1,hf2,hb⟩
 have hq':=(hq.setB rb').keep hkp;cases Q with
 | nil=>
  have hlen:pLen vQ=some (.int .i64 0):=hqq.pLen;simp only [pwA,seval,-iQ0,hlen];exact Gh.finB hq.blt hkp (DRow.bels hrb' 0) trivial (hk g rb' D' hrb' hD' hQq (fun N hN=>⟨fun h=>(hS N hN).1 ⟨h,fun q hq=>(by cases hq)⟩,fun h=>((hS N hN).2 h).1⟩) hf1 hf2)
 | cons x Q=>
  have hlen:=hqq.pLen;obtain⟨c,rq',rfl,hc,hrq'⟩:∃c rq',rq=c::rq'∧FI c x∧All2 FI rq' Q:=by
   cases rq with
   | nil=>exact absurd hrq.1 (by simp)
   | cons c rq'=>exact⟨c,rq',rfl,hrq.2 0 c x rfl rfl,⟨by simpa using hrq.1,fun k a b ha hb=>hrq.2 (k+1) a b (by simpa using ha) (by simpa using hb)⟩⟩
  obtain⟨sq,off,cap,vQ',rfl,hrd,hpos,hsl',hqq'⟩:=hqq.uncons;have hcc:=hc;obtain⟨w4,a4,rfl⟩:=hc;have hx:=hgQ x (by simp)
  have hgQ':∀q∈Q,gS O q:=fun q hq=>hgQ q (List.mem_cons_of_mem _ hq)
  have hf6':=zAk D';rw [hD'.len]at hf6'
  simp only [List.length_cons]at hlen hsl' hqq' hpos hb ⊢
  have hposI:(0:Int)<((Q.length+1:Nat):Int):=by omega
  rw [Nat.add_sub_cancel]at hqq'
  simp only [pwA,seval,-iQ0,hlen,hposI,hpos,hrd,hsl'];refine zN3 s F hC hq' hR0 hD' hrb' hx hcc fun vz z fz gz hz1 hz2=>?_
  obtain⟨wz,az,rfl⟩:=fz;have hzl:=gz.len;simp only [pwA,seval,-iQ0,hlen,hposI,hpos,hrd,hsl'];refine Qq rfl (by omega) ?_
  by_cases hd:dep z<O.length
  rotate_left
  ·have hdn:dep z=O.length:=by have:=Zn z;omega
   have hz0:=zCx gz (by omega)
   simp only [pwA,seval,-iQ0,hzl,hdn];refine⟨_,?_,g,Q,vQ',rb',D',rq',rfl,rfl,hkp,hqq',hrq',hgQ',hrb',hD',hQq.drop (by rw [←hz0];exact hz2),fun N hN=>?_,hf1,hf2,by omega⟩
   ·omega
   ·rw [←hS N hN]
    refine⟨fun⟨h1,h2⟩=>⟨h1,fun q hq=>?_⟩,fun⟨h1,h2⟩=>⟨h1,fun q hq=>h2 q (List.mem_cons_of_mem _ hq)⟩⟩
    rcases List.mem_cons.1 hq with rfl|hq
    ·rw [hz2.iff F hN h1,hz0];exact hN.one
    ·exact h2 q hq
  have hdz:dep z<z.length:=by omega
  have hOd:=hp _ (List.getElem_mem hd);have bO:=hOd.bd;have bz:=gz.bd _ hd;have nz:=qc hdz;rw [at_eq hdz]at bz nz
  rw [at_eq hd]at bz
  have hdn:((dep z:Int)=(z.length:Int))=False:=by simp;omega
  have rr:∀{h:PHeap},SeqG h ss sb sp O.length rb' (.fz w0 a0 O.length (pis O)) vP vC→h.rd1 ss 0=some (.ptr sp 0)∧h.rd1 ss 1=some (.sl sb 0 O.length (.known O.length))∧h.rd1 sp 0=some (.fz w0 a0 O.length (pis O)):=fun q=>⟨by rw [zI q.obj];rfl,by rw [zI q.obj];rfl,by rw [zI q.pg.obj];rfl⟩
  obtain⟨r0,r1,e0⟩:=rr hq';simp only [pwA,seval,-iQ0,hd,hdn,r0,e0,zU,gi hdz,gi hd,hdz];refine zCO hOd ⟨by omega,bz.2⟩ fun q qb q1 q2 q3=>?_
  simp only [pwA,seval,-iQ0,hd,hdn,r0,e0,zU,gi hdz,gi hd,hdz];refine PQ.push (bytes:=24) (σb:=σ.set sb rb') hkp hqq' (by omega) (by omega) fun v1 h1 k1 p1=>?_
  have hq1:=(hq.setB rb').keep k1;obtain⟨s0,s1,f0⟩:=rr hq1;simp only [pwA,seval,-iQ0,s0,s1,f0];refine zMu s F (by omega) hq1.pg hR0 gz ⟨wz,az,rfl⟩ (k:=q) (by omega) fun oy capy=>?_
  obtain⟨y1,y2⟩:=Qw s F hC hd (zAH gz) q.toNat;have hy1:at_ (Grp.pw (gm O P C) (zv O) z q.toNat) (dep z)=1:=by
   rw [y2,at_eq hdz,at_eq hd,Int.toNat_of_nonneg q1,Int.mul_comm];exact q3
  have hNy:∀N,gB O P C N→N z→N (Grp.pw (gm O P C) (zv O) z q.toNat):=fun N hN h=>hN.pw h _
  generalize Grp.pw (gm O P C) (zv O) z q.toNat=y at *
  have yS:gS O y:=y1.mono (Nat.zero_le _);have hyl:=yS.len;simp only [pwA,seval,-iQ0,s0,s1,f0,zU,gi hd,hd];refine zDv s F hq1.pg hR0 (up yS) ⟨true,.sl oy 0 O.length capy,by rw [hyl]⟩ (k:=O[dep z]) (by omega) fun vo fo=>?_
  have fo':=fo;obtain⟨wo,ao,rfl⟩:=fo;simp only [pwA,seval,-iQ0,s0,s1,f0,zU,gi hd,hd];refine PQ.push (bytes:=24) (σb:=σ.set sb rb') k1 p1 (by omega) (by omega) fun v2 h2 k2 p2=>?_
  have hq2:=(hq.setB rb').keep k2;obtain⟨t0,t1,g0⟩:=rr hq2;have gpo:gS O (Grp.pw (gm O P C) (zv O) y O[dep z].toNat):=G.pw yS _;have fz':FI (.fz wz az z.length (pis z)) z:=⟨wz,az,rfl⟩;have hrq2:All2 FI ((rq'++[.fz wz az z.length (pis z)])++[.fz wo ao _ (pis (Grp.pw (gm O P C) (zv O) y O[dep z].toNat))]) ((Q++[z])++[Grp.pw (gm O P C) (zv O) y O[dep z].toNat]):=(hrq'.snoc fz').snoc fo';have hgQ2:∀q∈(Q++[z])++[Grp.pw (gm O P C) (zv O) y O[dep z].toNat],gS O q:=fun q hq=>by
   rcases List.mem_append.1 hq with hq|hq
   ·rcases List.mem_append.1 hq with hq | hq
    ·exact hgQ' q hq
    ·rw [List.mem_singleton.1 hq];exact gz
   ·rw [List.mem_singleton.1 hq];exact gpo
  simp only [pwA,seval,-iQ0,t0,t1,g0];generalize hQ2:(Q++[z])++[Grp.pw (gm O P C) (zv O) y O[dep z].toNat]=Q2 at *
  have hQ2l:Q2.length=Q.length+1+1:=by rw [←hQ2];simp
  have hmz:z∈Q2:=by rw [←hQ2];simp
  have hmQ:∀q∈Q,q∈Q2:=fun q hq=>by rw [←hQ2];simp [hq]
  have hmp:Grp.pw (gm O P C) (zv O) y O[dep z].toNat∈Q2:=by rw [←hQ2];simp
  have hNQ2:∀N,gB O P C N→N y→((∀q∈Q2,N q)↔(∀q∈Q,N q)∧N z):=fun N hN hy=>by
   rw [←hQ2];refine⟨fun h=>⟨fun q hq=>h q (by simp [hq]),h z (by simp)⟩,fun⟨h3,h4⟩ q hq=>?_⟩
   rcases List.mem_append.1 hq with hq|hq
   ·rcases List.mem_append.1 hq with hq | hq
    ·exact h3 q hq
    ·rw [List.mem_singleton.1 hq];exact h4
   ·rw [List.mem_singleton.1 hq];exact hN.pw hy _
  generalize (rq'++[PV.fz wz az z.length (pis z)])++[.fz wo ao _ (pis (Grp.pw (gm O P C) (zv O) y O[dep z].toNat))]=rq2 at *
  rw [←hQ2l]at p2
  refine zG (fun m us h3=>∃(i:Nat) (vQ:PV) (E:List (List Int)) (re:List PV),i≤O.length∧m=O.length-i∧us=[.ptr ss 0,.bool true,vQ,.fz true (.sl oy 0 O.length capy) O.length (pis y),.int .i64 (dep z),.sl sb 0 O.length (.known O.length),.int .i64 O.length,.int .i64 i]∧Keep (σ.set sb rb') h3∧PQ σ.next h3 vQ (Q2++E).length re∧All2 FI re (Q2++E)∧(∀q∈E,gS O q)∧E.length≤i∧(∀(e:Nat) (b:List Int),e<i→D'[e]? = some (some b)→gcom O P C b y∈E)∧∀N,gB O P C N→InD N D'→N y→∀q∈E,N q) O.length ?_ ?_
  ·exact⟨0,v2,[],_,by omega,by omega,rfl,k2,by rw [List.append_nil];exact p2,by rw [List.append_nil];exact hrq2,fun q hq=>(by cases hq),Nat.le_refl _,fun e b h=>(by omega),fun N _ _ _ q hq=>(by cases hq)⟩
  clear k2 p2 v2 h2 hq2 t0 t1 g0
  as_aux_lemma=>
  rintro m us h3 ⟨i,vQ,E,re,hi,rfl,rfl,k3,p3,hre,hgE,hEl,hcE,hNE⟩
  have hq3:=(hq.setB rb').keep k3;obtain⟨t0,t1,g0⟩:=rr hq3;simp only [pwA,seval,-iQ0];refine iteI (fun hlt=>?_) fun hge=>?_
  rotate_left
  ·have hdb:dep z<rb'.length:=by rw [hrb'.1,hD'.len];exact hd
   have hwr:h3.wr sb (dep z) [.fz true (.sl oy 0 O.length capy) O.length (pis y)]=some (h3.set sb (rb'.set (dep z) (.fz true (.sl oy 0 O.length capy) O.length (pis y)))):=by
    rw [zn hq3.bobj,if_pos ⟨by rw [List.length_singleton];omega,rfl⟩,List.append_assoc,List.singleton_append,List.length_singleton,take_set _ hdb]
   simp only [pwA,seval,-iQ0,t1,hd,hwr];have hnone:D'[dep z]? = some none:=hz1 hd;have hfree:=zD4 (y:=y) hnone;refine⟨_,?_,true,Q2++E,vQ,_,D'.set (dep z) (some y),re,rfl,rfl,?_,?_,hre,?_,DRow.put (o:=oy) (cap:=capy) hrb',hD'.put hd y1 hy1,hQq.put hz2 hnone (by simp [hmz]) (fun q hq=>by simp [hmQ q hq]) (by rw [at_eq hd];simp [hmp]) (fun e b hb=>.inl (by
    have:=hcE e b (by
     rcases Nat.lt_or_ge e D'.length with h|h
     ·have:=hD'.len;omega
     ·rw [List.getElem?_eq_none h]at hb;cases hb) hb
    simp [this])),fun N hN=>?_,by omega,fun _=>by omega,?_⟩
   ·simp only [List.length_append];omega
   ·exact⟨k3.next,k3.top,fun t ht=>by
     rw [zH,zH]
     split
     ·rfl
     ·rename_i e
      have:=k3.obj t ht
      rw [zH,if_neg e]at this
      exact this⟩
   ·exact p3.set hq.blt _
   ·intro q hq
    rcases List.mem_append.1 hq with hq|hq
    ·exact hgQ2 q hq
    ·exact hgE q hq
   ·rw [←hS N hN,InD.put hnone]
    constructor
    ·rintro ⟨⟨g1,g2⟩,g3⟩
     obtain⟨g4,g5⟩:=(hNQ2 N hN g2).1 fun q hq=>g3 q (by simp [hq])
     refine⟨g1,fun q hq=>?_⟩
     rcases List.mem_cons.1 hq with rfl|hq
     ·exact(hz2.iff F hN g1).2 g5
     ·exact g4 q hq
    ·rintro ⟨g1,g2⟩
     have gz':=(hz2.iff F hN g1).1 (g2 x (by simp))
     have gy:=hNy N hN gz';refine⟨⟨g1,gy⟩,fun q hq=>?_⟩
     rcases List.mem_append.1 hq with hq|hq
     ·exact(hNQ2 N hN gy).2 ⟨fun q hq=>g2 q (List.mem_cons_of_mem _ hq),gz'⟩ q hq
     ·exact hNE N hN g1 gy q hq
   ·simp only [List.length_append];omega
  have hlt':i<O.length:=by omega
  have hrd3:=zI hq3.bobj i;rcases DRow.get hrb' (d:=i) (by rw [hD'.len];exact hlt')with ⟨e1,e2⟩|⟨oo,cap,b,e1,e2⟩
  ·rw [e1]at hrd3
   simp only [pwA,seval,-iQ0,hlt',hrd3,wrapS hlt' (by omega:O.length≤4611686018427387904)]
   refine⟨_,by omega,i+1,vQ,E,re,by omega,rfl,rfl,k3,p3,hre,hgE,by omega,fun e b h1 h2=>?_,hNE⟩
   rcases Nat.lt_or_ge e i with h|h
   ·exact hcE e b h h2
   ·rw [show e=i by omega,e2]at h2;cases h2
  ·rw [e1]at hrd3
   have bS:gS O b:=(hD'.row _ _ e2).1.mono (Nat.zero_le _);simp only [pwA,seval,-iQ0,hlt',hrd3,t0];refine zGQ s F hq3.pg hR0 bS yS ⟨true,_,by rw [bS.len]⟩ ⟨true,_,by rw [hyl]⟩ fun vc fc=>?_
   have fc':=fc;obtain⟨wc,ac,rfl⟩:=fc;simp only [pwA,seval,-iQ0];refine PQ.push (bytes:=24) (σb:=σ.set sb rb') k3 p3 (by rw [List.length_append];omega) (by rw [List.length_append];omega) fun v4 h4 k4 p4=>?_
   simp only [pwA,seval,-iQ0,wrapS hlt' (by omega:O.length≤4611686018427387904)]
   refine⟨_,by omega,i+1,v4,E++[gcom O P C b y],re++[.fz wc ac (gcom O P C b y).length (pis (gcom O P C b y))],by omega,rfl,rfl,k4,?_,?_,?_,?_,?_,?_⟩
   rotate_left
   ·rw [←List.append_assoc];exact hre.snoc fc'
   ·intro q hq
    rcases List.mem_append.1 hq with hq|hq
    ·exact hgE q hq
    ·rw [List.mem_singleton.1 hq];exact G.com_in bS yS
   ·simp;omega
   ·intro e b' h1 h2
    rcases Nat.lt_or_ge e i with h|h
    ·simp [hcE e b' h h2]
    ·rw [show e=i by omega,e2]at h2;cases h2;simp
   ·intro N hN hD1 hy q hq
    rcases List.mem_append.1 hq with hq|hq
    ·exact hNE N hN hD1 hy q hq
    ·rw [List.mem_singleton.1 hq];exact hN.com_in (hD1 _ _ e2) hy
   ·rw [←List.append_assoc,List.length_append,List.length_singleton];exact p4
end Go.Proofs
namespace Go.Grp
end Go.Grp
namespace Go.Proofs
open Go.Ab Go.Lie Go.Grp
variable {σ:PHeap} {K:PV→PHeap→Prop} {O:List Int} {P:List (List Int)} {C:List (List (List Int))} {vO vP vC vx vy vL vU:PV} {x y z f a b:List Int} {L u:List (List Int)} {rP rC rb:List PV} {D:List (Option (List Int))} {d j sp ss sb n:Nat}
def Ones (O:List Int) (u:List (List Int)):Prop:=∀v∈u,gS O v∧dep v<O.length∧at_ v (dep v)=1
theorem zNN {o z:Int} (ho:2≤o) (hz:0≤z∧z<o) (h0:z≠0):((o-(z+1) % o) % o).toNat<((o-z) % o).toNat:=by
 have e:(o-z) % o=o-z:=Int.emod_eq_of_lt (by omega) (by omega)
 rw [e]
 by_cases h:z+1=o
 ·rw [h,Int.emod_self,Int.sub_zero,Int.emod_self];omega
 ·rw [Int.emod_eq_of_lt (a:=z+1) (by omega) (by omega),Int.emod_eq_of_lt (by omega) (by omega)];omega
theorem zAX (s:Shp O P C) (F:Full O P C O.length) (hC:Cent O C) (hn:0<O.length) (hs:PtrG σ sp vO vP vC) (hR:IsPr vO vP vC O P C) (hU:FII vU u) (hu:Ones O u) (hasc:u.Pairwise fun a b=>dep a<dep b) (hul:u.length≤1000) (hx:gS O x) (hvx:FI vx x)
  (hk:∀o cap z,gS O z→(∀t,(∀v∈u,t<dep v)→∀j,j≤t→at_ z j=at_ x j)→(∀v∈u,at_ z (dep v)=0)→(∀N,gB O P C N→(∀v∈u,N v)→(N x↔N z))→K (.fz true (.sl o 0 O.length cap) O.length (pis z)) σ):
  zA Tryz.prog 209 [.ptr sp 0,vU,vx] σ K:=by
 have hn6:=s.le;have hxl:=hx.len;have hsl:=hs.lt;obtain⟨wx,ax,rfl⟩:=hvx;have hUU:=hU;obtain⟨wl,al,rl,rfl,hrl⟩:=hU;refine zA.gh ?_;refine zD mix Tryz.func209 ?_
 conv=>arg 2;cbv
 refine zF rfl ?_;simp only [pwA,seval,-iQ0];refine Zf rfl (by omega) ⟨fun h0=>absurd hxl (by rw [h0];simp;omega),fun cap hc=>?_⟩
 rw [hxl]at hc ⊢
 simp only [pwA,seval,-iQ0];refine zBD hUU (fun v hv=>⟨by rw [(hu v hv).1.len];exact(hu v hv).2.1,by rw [(hu v hv).1.len];omega⟩) (by omega) fun vp=>?_
 simp only [pwA,seval,-iQ0];refine zG (fun m vs h'=>∃(i:Nat) (z:List Int),i≤u.length∧m=u.length-i∧vs=[.ptr sp 0,.fz wl al u.length rl,.sl σ.next 0 O.length cap,.fz true vp u.length (pis (deps u)),.int .i64 u.length,.int .i64 i]∧h'=σ.new (pis z)∧gS O z∧(∀t,(∀v∈u,t<dep v)→∀j,j≤t→at_ z j=at_ x j)∧(∀k (hk:k<u.length),k<i→at_ z (dep u[k])=0)∧(∀N,gB O P C N→(∀v∈u,N v)→(N x↔N z))) u.length ⟨0,x,by omega,by omega,rfl,rfl,hx,fun _ _ _ _=>rfl,fun k _ h=>by omega,fun _ _ _=>Iff.rfl⟩ ?_
 rintro m vs h' ⟨i,z,hi,rfl,rfl,rfl,hz,hj,h0,hN⟩
 simp only [pwA,seval,-iQ0];refine iteI (fun hlt=>?_) fun hge=>?_
 rotate_left
 ·exact Gh.finF (zC σ _) (by simp only [pwA,seval,-iQ0]) (Nat.le_refl _) (zN _ _) hc.ok fun o=>hk o cap z hz hj (fun v hv=>by
   obtain⟨k,hkl,rfl⟩:=List.mem_iff_getElem.1 hv;exact h0 k hkl (by omega)) hN
 obtain⟨w4,a4,hr⟩:=hrl.rowI hlt;obtain⟨u1,u2,u3⟩:=hu _ (List.getElem_mem hlt);have hmem:u[i]∈u:=List.getElem_mem hlt;have hpd:(deps u)[i]? = some (dep u[i]:Int):=by simp [deps,hlt]
 simp only [pwA,seval,-iQ0,hlt,zU,hpd];refine zG (fun m vs h'=>∃(z:List Int),m=((at_ O (dep u[i])-at_ z (dep u[i])) % at_ O (dep u[i])).toNat∧vs=[.ptr sp 0,.fz wl al u.length rl,.sl σ.next 0 O.length cap,.int .i64 i,.int .i64 (dep u[i]),.fz true vp u.length (pis (deps u)),.int .i64 u.length,.int .i64 i]∧h'=σ.new (pis z)∧gS O z∧(∀t,(∀v∈u,t<dep v)→∀j,j≤t→at_ z j=at_ x j)∧(∀k (hk:k<u.length),k<i→at_ z (dep u[k])=0)∧(∀N,gB O P C N→(∀v∈u,N v)→(N x↔N z))) _ ⟨z,rfl,rfl,rfl,hz,hj,h0,hN⟩ ?_
 clear hz hj hN h0 z
 rintro m vs h' ⟨z,rfl,rfl,rfl,hz,hj,h0,hN⟩
 have hzl:=hz.len;have hdz:dep u[i] < z.length:=by omega
 have bz:=hz.bd _ u2;have bO:=s.pr _ u2;simp only [pwA,seval,-iQ0,u2,pisAt hdz];refine iteI (fun heq=>?_) fun hneq=>?_
 ·simp only [pwA,seval,-iQ0,wrapS hlt (by omega:u.length≤4611686018427387904)]
  refine⟨_,by omega,i+1,z,by omega,rfl,rfl,rfl,hz,hj,fun k hkl hk=>?_,hN⟩
  rcases Nat.lt_or_ge k i with h|h
  ·exact h0 k hkl h
  ·have e:k=i:=by omega
   subst e;exact heq
 ·obtain⟨g1,g2,g3⟩:=zMl s F hC u2 hz (zAH u1) u3
  simp only [pwA,seval,-iQ0,hlt,hr];refine QJ s F (hs.new _) hR (x:=z) (by simp only [pwA,seval,-iQ0]) (by simp only [pwA,seval,-iQ0]) (by omega) hc (by rw [Nat.sub_self];exact hz) (by rw [Nat.sub_self];exact u1) ⟨w4,a4,rfl⟩ ?_
  simp only [pwA,seval,-iQ0];refine⟨_,?_,_,rfl,rfl,g1,fun t ht j hjt=>?_,fun k hkl hk=>?_,fun N h1 h2=>(hN N h1 h2).trans ⟨fun h=>h1.cl h (h2 _ hmem),fun h=>h1.quotR F.g (h2 _ hmem) hz h⟩⟩
  ·show((at_ O (dep u[i])-at_ (gm O P C z u[i]) (dep u[i])) % at_ O (dep u[i])).toNat<_
   rw [g3];exact zNN bO.1 bz hneq
  ·show at_ (gm O P C z u[i]) j=_
   rw [g2 j (by have:=ht _ hmem;omega)]
   exact hj t ht j hjt
  ·show at_ (gm O P C z u[i]) (dep u[k])=0
   rw [g2 _ (List.pairwise_iff_getElem.1 hasc k i hkl hlt hk)];exact h0 k hkl hk
end Go.Proofs
namespace Go.Grp
end Go.Grp
namespace Go.Proofs
open Go.Ab Go.Lie Go.Grp
variable {σ:PHeap} {K:PV→PHeap→Prop} {O:List Int} {P:List (List Int)} {C:List (List (List Int))} {vO vP vC vx vy vL vU vB vg:PV} {x y z f a b g:List Int} {L u by_:List (List Int)} {rP rC rb:List PV} {D:List (Option (List Int))} {d j sp ss sb n:Nat}
theorem zFU (s:Shp O P C) (hs:PtrG σ sp vO vP vC) (hR:IsPr vO vP vC O P C) (hk:∀ss sb h',Keep σ h'→σ.next≤ss→σ.next≤sb→SeqG h' ss sb sp O.length (List.replicate O.length (.fz true .nils 0 [])) vO vP vC→K (.ptr ss 0) h'):
  zA Tryz.prog 193 [.ptr sp 0] σ K:=by
 have hn6:=s.le;have hsl:=hs.lt;obtain⟨⟨w0,a0,rfl⟩,_,_⟩:=hR;have e0:σ.rd1 sp 0=some (.fz w0 a0 O.length (pis O)):=by rw [zI hs.obj];rfl
 refine zD mix Tryz.func193 ?_
 conv=>arg 2;cbv
 refine zF rfl ?_;simp only [pwA,seval,-iQ0,e0,mk24 (n:=O.length) (by omega),mkL (n:=O.length) (by omega)]
 exact hk (σ.next+1) σ.next _ ((zC σ _).new _) (by omega) (Nat.le_refl _) ⟨by simp only [pwA,seval,-iQ0],by simp only [pwA,seval,-iQ0],by simp only [pwA,seval,-iQ0],by simp only [pwA,seval,-iQ0];omega,(hs.new _).new _,by omega,by omega⟩
theorem zHk (s:Shp O P C) (F:Full O P C O.length) (hC:Cent O C) (hq:SeqG σ ss sb sp O.length rb vO vP vC) (hR:IsPr vO vP vC O P C) (hD:OkD O D) (hrb:All2 (DRow O.length) rb D)
  (hk:∀v u,FII v u→CanD O P C D u→K v σ):zA Tryz.prog 195 [.ptr ss 0] σ K:=by
 have hn6:=s.le;have r0:σ.rd1 ss 0=some (.ptr sp 0):=by rw [zI hq.obj];rfl
 have r1:σ.rd1 ss 1=some (.sl sb 0 O.length (.known O.length)):=by rw [zI hq.obj];rfl
 have hw:IntKind.i64.wrap ((O.length:Int)-1)=(O.length:Int)-1:=wrap64 (by omega) (by omega)
 refine zA.gh ?_;refine zD mix Tryz.func195 ?_
 conv=>arg 2;cbv
 refine zF rfl ?_;simp only [pwA,seval,-iQ0,r1,hw];refine Zc (fun m vs h2=>∃(k:Nat) (vO:PV) (u:List (List Int)),k≤O.length∧m=k∧vs=[.ptr ss 0,vO,.int .i64 ((k:Int)-1)]∧Keep σ h2∧FII vO u∧Ones O u∧u.length+k≤O.length∧(∀v∈u,k≤dep v)∧(u.Pairwise fun a b=>dep a<dep b)∧(∀v∈u,∀w∈u,dep v≠dep w→at_ v (dep w)=0)∧(∀(d:Nat) (y:List Int),k≤d→D[d]? = some (some y)→∃v∈u,dep v=d)∧(∀N,gB O P C N→((∀x∈u,N x)↔∀d y,k≤d→D[d]? = some (some y)→N y))) O.length (.here ⟨O.length,_,[],Nat.le_refl _,rfl,rfl,Keep.refl σ,⟨_,_,_,rfl,All2.nil _⟩,fun v hv=>(by cases hv),by simp,fun v hv=>(by cases hv),List.Pairwise.nil,fun v hv=>(by cases hv),fun d y h1 h2=>?_,fun N hN=>⟨fun _ d y h1 h2=>?_,fun _ x hx=>(by cases hx)⟩⟩) ?_
 ·rw [List.getElem?_eq_none (by rw [hD.len];exact h1)]at h2;cases h2
 ·rw [List.getElem?_eq_none (by rw [hD.len];exact h1)]at h2;cases h2
 rintro m vs h2 ⟨k,vU,u,hkn,rfl,rfl,hk2,hU,hu,hul,hud,hasc,hred,hall0,hN⟩
 rcases Nat.eq_zero_or_pos m with rfl|hmp
 ·simp only [pwA,seval,-iQ0,show ¬((0:Int)≤((0:Nat):Int)-1) by omega]
  exact Gh.fin0 hk2 (hU.bel _) (hk vU u hU ⟨hu,hasc,hred,fun d y hy=>hall0 d y (Nat.zero_le _) hy,by omega,fun N h1=>(hN N h1).trans ⟨fun h d y hy=>h d y (Nat.zero_le _) hy,fun h d y _ hy=>h d y hy⟩⟩)
 obtain⟨k,rfl⟩:∃k,m=k+1:=⟨m-1,by omega⟩
 have e:((k+1:Nat):Int)-1=(k:Int):=by omega
 have hkn':k<O.length:=hkn;have hrd:=zI (hq.keep hk2).bobj k;have r0':h2.rd1 ss 0=some (.ptr sp 0):=by rw [zI (hq.keep hk2).obj];rfl
 have r1':h2.rd1 ss 1=some (.sl sb 0 O.length (.known O.length)):=by rw [zI (hq.keep hk2).obj];rfl
 rw [e];have hw2:IntKind.i64.wrap ((k:Int)-1)=(k:Int)-1:=wrap64 (by omega) (by omega)
 rcases DRow.get hrb (d:=k) (by rw [hD.len];exact hkn')with ⟨e1,e2⟩|⟨oo,cap,y,e1,e2⟩
 ·rw [e1]at hrd
  simp only [pwA,seval,-iQ0,hkn',r1',hrd,hw2];refine⟨_,Nat.lt_succ_self k,.here ⟨k,vU,u,by omega,rfl,rfl,hk2,hU,hu,by omega,fun v hv=>by have:=hud v hv;omega,hasc,hred,fun d y hd hy=>?_,fun N h1=>(hN N h1).trans ⟨fun h d y hd hy=>?_,fun h d y hd hy=>h d y (by omega) hy⟩⟩⟩
  ·rcases Nat.lt_or_ge k d with x | x
   ·exact hall0 d y x hy
   ·rw [show d=k by omega,e2]at hy;cases hy
  rcases Nat.lt_or_ge k d with x|x
  ·exact h d y x hy
  ·rw [show d=k by omega,e2]at hy;cases hy
 ·rw [e1]at hrd
  obtain⟨y1,y2⟩:=hD.row _ _ e2;have yS:gS O y:=y1.mono (Nat.zero_le _);simp only [pwA,seval,-iQ0,hkn',r0',r1',hrd,hw2];refine zAX s F hC (by omega) (hq.keep hk2).pg hR hU hu hasc (by omega) yS ⟨true,_,by rw [y1.len]⟩ fun oz capz z zS z1 z0 z2=>?_
  have za:∀j,j≤k→at_ z j=at_ y j:=z1 k fun v hv=>hud v hv
  have zt:TT O k z:=⟨zS.len,zS.bd,fun j hj=>by rw [za j (by omega)];exact y1.zero j hj⟩
  have zk:at_ z k=1:=by rw [za k (Nat.le_refl _)];exact y2
  have hzl:=zS.len;have zd:dep z=k:=by
   have h1:=dep_ge zt (by omega)
   rcases Nat.lt_or_ge k (dep z)with h|h
   ·rw [zV h]at zk;omega
   ·omega
  obtain⟨wO,aO,rO,rfl,hrO⟩:=hU;simp only [pwA,seval,-iQ0];refine PSl.cat (bytes:=24) (σb:=h2) (n:=1) (cs:=[.fz true (.sl oz 0 O.length capz) O.length (pis z)]) (zC h2 _) (PSl.new _ 1 rfl (Nat.le_refl _)) hrO.1 (by omega) (by omega) fun v3 h3 k3 a3=>?_
  obtain⟨s3,cap3,rfl,hc3,ho3,hl3,hge3,hlt3⟩:=a3;have hall:All2 FI ([.fz true (.sl oz 0 O.length capz) O.length (pis z)]++rO) (z::u):=(All2.nil FI |>.snoc (⟨true,_,by rw [hzl]⟩:FI (.fz true (.sl oz 0 O.length capz) O.length (pis z)) z)).append hrO
  have hkn2:=hk2.next;simp only [pwA,seval,-iQ0,hw2];refine⟨k,Nat.lt_succ_self k,.fz s3 _ ho3 (hall.bI 0) fun o1=>.here ⟨k,.fz true (.sl o1 0 (1+u.length) cap3) (1+u.length) ([.fz true (.sl oz 0 O.length capz) O.length (pis z)]++rO),z::u,by omega,rfl,?_,(hk2.trans k3).kill (by omega),⟨true,_,_,by rw [List.length_cons,Nat.add_comm],hall⟩,?_,by simp;omega,?_,?_,?_,?_,fun N h1=>?_⟩⟩
  ·simp [sbs,Go.Ab.sb,hc3.ok]
  ·intro v hv
   rcases List.mem_cons.1 hv with rfl|hv
   ·exact⟨zS,by omega,by rw [zd];exact zk⟩
   ·exact hu v hv
  ·intro v hv
   rcases List.mem_cons.1 hv with rfl|hv
   ·omega
   ·have:=hud v hv;omega
  ·rw [List.pairwise_cons]
   exact⟨fun v hv=>by have:=hud v hv;omega,hasc⟩
  ·intro v hv w hw hne
   rcases List.mem_cons.1 hv with ev|hv2
   ·rcases List.mem_cons.1 hw with ew | hw2
    ·rw [ev,ew]at hne;exact absurd rfl hne
    ·rw [ev];exact z0 w hw2
   ·rcases List.mem_cons.1 hw with ew | hw2
    ·rw [ew];exact zV (by have:=hud v hv2;omega)
    ·exact hred v hv2 w hw2 hne
  ·intro d y' hd hy
   rcases Nat.lt_or_ge k d with x|x
   ·obtain⟨v,hv,e⟩:=hall0 d y' x hy
    exact⟨v,List.mem_cons_of_mem _ hv,e⟩
   ·exact⟨z,by simp,by omega⟩
  ·have hsplit:(∀d y,k≤d→D[d]? = some (some y)→N y)↔(N y∧∀d y,k+1≤d→D[d]? = some (some y)→N y):=by
    refine⟨fun h=>⟨h k y (Nat.le_refl _) e2,fun d y hd hy=>h d y (by omega) hy⟩,fun⟨h3,h4⟩ d y' hd hy=>?_⟩
    rcases Nat.lt_or_ge k d with x|x
    ·exact h4 d y' x hy
    ·rw [show d=k by omega,e2]at hy;cases hy;exact h3
   rw [hsplit,←hN N h1,List.forall_mem_cons];refine⟨fun⟨h3,h4⟩=>⟨(z2 N h1 h4).2 h3,h4⟩,fun⟨h3,h4⟩=>⟨(z2 N h1 h4).1 h3,h4⟩⟩
end Go.Proofs
namespace Go.Proofs
open Go.Ab Go.Lie
variable {σ:PHeap} {K:PV→PHeap→Prop} {p p':Int} {n:Nat} {W:List (List Int)} {B:List (List (List Int))} {vP vB vL vU vV:PV} {s:Nat}
def units (n:Nat):List (List Int):=(List.range n).map (unitL n)
theorem qm:(units n).length=n:=by simp [units]
theorem zKz {i:Nat} (h:i<n):(units n)[i]? = some (unitL n i):=by simp [units,h]
theorem zCX (hp:okp p):Els p n (units n):=fun v hv=>by
 obtain⟨i,hi,rfl⟩:=List.mem_map.1 hv;exact zT hp (List.mem_range.1 hi)
theorem zEL {i:Nat} (h:i<n):(units n).take (i+1)=(units n).take i++[unitL n i]:=by
 have hl:i<(units n).length:=by rw [qm];exact h
 have e:=zKz h;rw [List.getElem?_eq_getElem hl]at e
 rw [List.take_succ_eq_append_getElem hl,Option.some.inj e]
def brL (p:Int) (W:List (List Int)) (B:List (List (List Int))) (n:Nat) (u v:List (List Int)):List (List Int):=u.flatMap fun x=>v.map fun y=>br p W B n x y
theorem Qr (u v:List (List Int)):(brL p W B n u v).length=u.length*v.length:=by
 induction u with
 | nil=>simp [brL]
 | cons x u ih=>
  have:(brL p W B n (x::u) v)=v.map (fun y=>br p W B n x y)++brL p W B n u v:=rfl
  rw [this,List.length_append,List.length_map,ih,List.length_cons,Nat.add_mul,Nat.one_mul,Nat.add_comm]
theorem zHr (u v:List (List Int)) (x:List Int):brL p W B n (u++[x]) v=brL p W B n u v++v.map fun y=>br p W B n x y:=by
 simp [brL,List.flatMap_append]
theorem zBm (o:OkW p n W) (q:OkB p n B) (u v:List (List Int)):Els p n (brL p W B n u v):=fun z hz=>by
 obtain⟨x,hx,h⟩:=List.mem_flatMap.1 hz;obtain⟨y,hy,rfl⟩:=List.mem_map.1 h;exact br_el o q
theorem zDZ (hs:PtrR σ s p vP vB) (hP:FII vP W) (hWn:W.length=n) (hn:n≤1048576) (hk:∀v,FII v (units n)→K v σ):zA Tryz.prog 141 [.ptr s 0] σ K:=by
 obtain⟨wp,ap,rp,rfl,hrp⟩:=hP;have hP1:σ.rd1 s 1=some (.fz wp ap W.length rp):=by rw [zI hs.obj];rfl
 refine zA.gh ?_;refine zD mix Tryz.func141 ?_
 conv=>arg 2;cbv
 refine zF rfl ?_;simp only [pwA,seval,-iQ0,hP1,hWn];refine zG (fun m vs h'=>∃(i:Nat) (v:PV) (rows:List PV),i≤n∧m=n-i∧vs=[.ptr s 0,v,.int .i64 n,.int .i64 i]∧Keep σ h'∧PAcc σ.next 1 h' v i rows∧All2 FI rows ((units n).take i)) n ?_ ?_
 ·exact⟨0,_,[],by omega,by omega,rfl,Keep.refl σ,PAcc.nil _ _ _,by rw [List.take_zero];exact All2.nil _⟩
 rintro m vs h' ⟨i,v,rows,hi,rfl,rfl,hkp,ha,hrows⟩
 simp only [pwA,seval,-iQ0];have hs':=hs.keep hkp;have hP2:h'.rd1 s 1=some (.fz wp ap W.length rp):=by rw [zI hs'.obj];rfl
 refine iteI (fun hlt=>?_) fun hge=>?_
 ·simp only [pwA,seval,-iQ0,hP2,hWn]
  refine z8 hn hlt fun a1=>?_
  simp only [pwA,seval,-iQ0];refine PAcc.push (bytes:=24) hkp ha (by omega) (by omega) fun v' h2 k2 a2=>?_
  simp only [pwA,seval,-iQ0,wrapS hlt (by omega:n≤4611686018427387904)]
  refine⟨_,by omega,i+1,v',_,by omega,rfl,rfl,k2,a2.acc,?_⟩
  rw [zEL hlt];exact hrows.snoc ⟨true,a1,by rw [qF]⟩
 ·have hie:i=n:=by omega
  subst hie;rw [List.take_of_length_le (by rw [qm];exact Nat.le_refl _)]at hrows
  exact ha.fin hkp (hrows.bI 0) fun a=>hk _ ⟨true,a,rows,by rw [qm],hrows⟩
theorem zHq {u v:List (List Int)} (hs:PtrR σ s p vP vB) (hR:IsR vP vB W B) (o:OkW p n W) (q:OkB p n B) (hU:FII vU u) (hV:FII vV v) (eu:Els p n u) (ev:Els p n v) (hul:u.length≤6) (hvl:v.length≤12)
  (hk:∀z,FII z (brL p W B n u v)→K z σ):zA Tryz.prog 188 [.ptr s 0,vU,vV] σ K:=by
 obtain⟨wu,au,ru,rfl,hru⟩:=hU;obtain⟨wv,av,rv,rfl,hrv⟩:=hV;have bnd:∀(i j:Nat),i<u.length→j≤v.length→(brL p W B n (u.take i) v++(v.take j).map fun y=>br p W B n (u.getD i []) y).length≤84:=fun i j hi hj=>by
  rw [List.length_append,Qr,List.length_map,List.length_take,List.length_take]
  have:min i u.length*v.length≤6*12:=Nat.mul_le_mul (by omega) hvl
  omega
 refine zA.gh ?_;refine zD mix Tryz.func188 ?_
 conv=>arg 2;cbv
 refine zF rfl ?_;simp only [pwA,seval,-iQ0];refine zG (fun m vs h'=>∃(i:Nat) (z:PV) (rows:List PV),i≤u.length∧m=u.length-i∧vs=[.ptr s 0,.fz wv av v.length rv,z,.fz wu au u.length ru,.int .i64 u.length,.int .i64 i]∧Keep σ h'∧PAcc σ.next 1 h' z (brL p W B n (u.take i) v).length rows∧All2 FI rows (brL p W B n (u.take i) v)) u.length ?_ ?_
 ·exact⟨0,_,[],by omega,by omega,rfl,Keep.refl σ,PAcc.nil _ _ _,by rw [List.take_zero];exact All2.nil _⟩
 rintro m vs h' ⟨i,z,rows,hi,rfl,rfl,hkp,ha,hrows⟩
 simp only [pwA,seval,-iQ0];refine iteI (fun hlt=>?_) fun hge=>?_
 ·obtain⟨w4,a4,hr⟩:=hru.rowI hlt
  have hui:=eu _ (List.getElem_mem hlt);have hgd:u.getD i []=u[i]:=by simp [List.getD_eq_getElem?_getD,hlt]
  simp only [pwA,seval,-iQ0,hlt,hr];refine zG (fun m vs h'=>∃(j:Nat) (z:PV) (rows:List PV),j≤v.length∧m=v.length-j∧vs=[.ptr s 0,.fz wv av v.length rv,z,.fz w4 a4 u[i].length (pis u[i]),.fz wu au u.length ru,.int .i64 u.length,.int .i64 i,.fz wv av v.length rv,.int .i64 v.length,.int .i64 j]∧Keep σ h'∧
   PAcc σ.next 1 h' z (brL p W B n (u.take i) v++(v.take j).map fun y=>br p W B n (u.getD i []) y).length rows∧All2 FI rows (brL p W B n (u.take i) v++(v.take j).map fun y=>br p W B n (u.getD i []) y)) v.length ?_ ?_
  ·exact⟨0,z,rows,by omega,by omega,rfl,hkp,by simpa using ha,by simpa using hrows⟩
  clear hkp ha hrows z rows
  rintro m vs h' ⟨j,z,rows,hj,rfl,rfl,hkp,ha,hrows⟩
  simp only [pwA,seval,-iQ0];refine iteI (fun hlj=>?_) fun hgj=>?_
  ·obtain⟨w5,a5,hr5⟩:=hrv.rowI hlj
   have hvj:=ev _ (List.getElem_mem hlj);simp only [pwA,seval,-iQ0,hlj,hr5];refine qg (hs.keep hkp) hR o q hui hvj rfl rfl fun a6=>?_
   have hb:=bnd i j hlt hj;simp only [pwA,seval,-iQ0];refine PAcc.push (bytes:=24) hkp ha (by omega) (by omega) fun v' h2 k2 a2=>?_
   simp only [pwA,seval,-iQ0,wrapS hlj (by omega:v.length≤4611686018427387904)]
   have e:(brL p W B n (u.take i) v++(v.take (j+1)).map fun y=>br p W B n (u.getD i []) y)=(brL p W B n (u.take i) v++(v.take j).map fun y=>br p W B n (u.getD i []) y)++[br p W B n u[i] v[j]]:=by
    rw [List.take_succ_eq_append_getElem hlj,List.map_append,List.append_assoc,hgd];rfl
   refine⟨_,by omega,j+1,v',rows++[.fz true a6 n (pis (br p W B n u[i] v[j]))],by omega,rfl,rfl,k2,?_,?_⟩
   ·rw [e,List.length_append]
    exact a2.acc
   ·rw [e]
    exact hrows.snoc ⟨true,a6,by rw [(br_el o q).1]⟩
  ·have hje:j=v.length:=by omega
   subst hje;have e:(brL p W B n (u.take i) v++(v.take v.length).map fun y=>br p W B n (u.getD i []) y)=brL p W B n (u.take (i+1)) v:=by
    rw [List.take_length,List.take_succ_eq_append_getElem hlt,zHr,hgd]
   rw [e]at ha hrows
   simp only [pwA,seval,-iQ0,wrapS hlt (by omega:u.length≤4611686018427387904)]
   exact⟨_,by omega,i+1,z,rows,by omega,rfl,rfl,hkp,ha,hrows⟩
 ·have hie:i=u.length:=by omega
  subst hie;rw [List.take_length]at ha hrows
  exact ha.fin hkp (hrows.bI 0) fun a=>hk _ ⟨true,a,rows,rfl,hrows⟩
theorem zDo {u v:List (List Int)} (hs:PtrR σ s p vP vB) (hR:IsR vP vB W B) (o:OkW p n W) (q:OkB p n B) (hU:FII vU u) (hV:FII vV v) (eu:Els p n u) (ev:Els p n v) (hul:u.length≤6) (hvl:v.length≤6)
  (hk:∀z,FII z (brL p W B n u v)→K z σ):zA Tryz.prog 188 [.ptr s 0,vU,vV] σ K:=zHq hs hR o q hU hV eu ev hul (by omega) hk
end Go.Proofs
namespace Go.Proofs
open Go.Ab Go.Lie
variable {σ:PHeap} {K:PV→PHeap→Prop} {p p':Int} {n:Nat} {W:List (List Int)} {B:List (List (List Int))} {vP vB vL vU vV:PV} {s:Nat}
theorem zDg (hR:IsR vP vB W B) (hWn:W.length=n) (hn:n≤1048576) (hk:∀v,FII v (units n)→K v σ):zA Tryz.prog 146 [.agg [.int .i64 p,vP,vB]] σ K:=by
 have h1:=hR.P.one;have h2:=hR.B.one;have hRR:=hR;obtain⟨⟨wp,ap,rp,rfl,hrp⟩,hB⟩:=hR;refine zA.gh ?_;refine zD mix Tryz.func146 ?_
 conv=>arg 2;cbv
 refine zF rfl ?_;simp only [pwA,seval,-iQ0,h1,h2];generalize hH:σ.new [.int .i64 p,.fz wp ap W.length rp,vB]=H;have hHn:H.next=σ.next+1:=by rw [←hH];simp only [pwA,seval,-iQ0]
 have hHk:Keep σ H:=by rw [←hH];exact zC σ _
 have hob:H.obj σ.next=some [.int .i64 p,.fz wp ap W.length rp,vB]:=by rw [←hH];simp only [pwA,seval,-iQ0]
 refine zG (fun m vs h'=>∃(i:Nat) (v:PV) (rows:List PV),i≤n∧m=n-i∧vs=[.ptr σ.next 0,v,.int .i64 i]∧Keep H h'∧PSl H.next 1 h' v i rows∧All2 FI rows ((units n).take i)) n ?_ ?_
 ·refine⟨0,_,[],by omega,by omega,rfl,zC H _,?_,by rw [List.take_zero];exact All2.nil _⟩
  rw [←hHn];exact PSl.new H.next 1 rfl (Nat.le_refl _)
 rintro m vs h' ⟨i,v,rows,hi,rfl,rfl,hkp,ha,hrows⟩
 have hob':h'.obj σ.next=some [.int .i64 p,.fz wp ap W.length rp,vB]:=by rw [hkp.obj _ (by omega)];exact hob
 have hr1:h'.rd1 σ.next 1=some (.fz wp ap W.length rp):=by rw [zI hob'];rfl
 have hr3:h'.rd σ.next 0 3=some [.int .i64 p,.fz wp ap W.length rp,vB]:=by rw [zi hob'];rfl
 simp only [pwA,seval,-iQ0,hr1,hWn];refine iteI (fun hlt=>?_) fun hge=>?_
 ·simp only [pwA,seval,-iQ0,hr3]
  refine qo hRR hWn hn hlt fun a1=>?_
  simp only [pwA,seval,-iQ0];refine PSl.push (bytes:=24) hkp ha (by omega) (by omega) fun v' h2 k2 a2=>?_
  simp only [pwA,seval,-iQ0,wrapS hlt (by omega:n≤4611686018427387904)]
  refine⟨_,by omega,i+1,v',_,by omega,rfl,rfl,k2,a2,?_⟩
  rw [zEL hlt];exact hrows.snoc ⟨true,a1,by rw [qF]⟩
 ·have hie:i=n:=by omega
  subst hie;rw [List.take_of_length_le (by rw [qm];exact Nat.le_refl _)]at hrows
  obtain⟨s',cap,rfl,hc,q2,q3,q4,q5⟩:=ha;exact Gh.finF (hHk.trans hkp) q2 (by omega) (hrows.bI 0) hc.ok fun o1=>hk _ ⟨true,.sl o1 0 i cap,rows,by rw [qm],hrows⟩
theorem zOY {b:Nat} {u:List (List Int)} (hb:σ.rd1 b 0=some (.ptr s 0)) (hs:PtrR σ s p vP vB) (hR:IsR vP vB W B) (o:OkW p n W) (q:OkB p n B) (hp:isP p) (hU:FII vU u) (eu:Els p n u) (hul:u.length≤6)
  (hk:∀v out,Canon p n W (brL p W B n u (units n)) out→FII v out→K v σ):zA Tryz.prog 254 [vU,.ptr b 0] σ K:=by
 have hn6:=o.le;have hUU:=hU;obtain⟨wu,au,ru,rfl,hru⟩:=hU;refine zD mix Tryz.func254 ?_
 conv=>arg 2;cbv
 refine zF rfl ?_;simp only [pwA,seval,-iQ0,hb];refine zDZ hs hR.P o.len (by omega) fun vV hV=>?_
 have hVV:=hV;obtain⟨wv,av,rv,rfl,hrv⟩:=hV;simp only [pwA,seval,-iQ0,hb];refine zDo hs hR o q hUU hVV eu (zCX o.pr) hul (by rw [qm];exact hn6) fun vZ hZ=>?_
 have hZZ:=hZ;obtain⟨wz,az,rz,rfl,hrz⟩:=hZ;have hzl:(brL p W B n u (units n)).length≤1048576:=by
  rw [Qr,qm]
  have:u.length*n≤6*6:=Nat.mul_le_mul hul hn6
  omega
 simp only [pwA,seval,-iQ0,hb];refine zB7 hs hR.P o hp hZZ (zBm o q _ _) hzl fun v out hc hv=>?_
 simp only [pwA,seval,-iQ0];exact hk v out hc hv
end Go.Proofs
namespace Go.Proofs
open Go.Ab Go.Lie
variable {σ:PHeap} {K:PV→PHeap→Prop} {p p':Int} {n:Nat} {W:List (List Int)} {B:List (List (List Int))} {vP vB vL vU vV:PV} {s:Nat}
theorem zOt (o:OkW p n W) (q:OkB p n B) {a b:List Int} {k:Nat} (ha:∀j,j<k→at_ a j=0):∀j,j<k+1→at_ (br p W B n a b) j=0:=by
 have hs:∀t,t<k+1→at_ (bsum B a b n) t=0:=fun t ht=>by
  rw [bsum,bi_at q t (Nat.le_refl _)];refine qN _ fun i hi=>qN _ fun j hj=>?_
  rcases Nat.lt_or_ge (i+1+j) k with x|x
  ·rw [coef,ha i (by omega),ha _ x,Int.zero_mul,Int.zero_mul,Int.sub_zero,Int.zero_mul]
  ·rw [(q.get hi hj).2 t (by omega),Int.mul_zero]
 intro j hj;rcases Nat.lt_or_ge j n with x|x
 ·exact zAK o (qd q) (d:=min (k+1) n) (Nat.min_le_right _ _) (fun j hj=>hs j (by omega)) j (by omega)
 ·exact at_ge (by rw [(br_el o q).1];exact x)
theorem zBr (o:OkW p n W) (q:OkB p n B) {u out:List (List Int)} (hc:Canon p n W (brL p W B n u (units n)) out) {m:Nat} (hu:∀x∈u,m≤dep x):∀y∈out,m+1≤dep y:=fun y hy=>by
 have hl:=hc.base.led y hy;have hg:Gen p n W (brL p W B n u (units n)) (at_ y):=(hc.gen _).2 (zb hy);have hz:=zCC o (m:=min (m+1) n) (zBm o q _ _) (Nat.min_le_right _ _) (fun v hv j hj=>by
  obtain⟨x,hx,h⟩:=List.mem_flatMap.1 hv;obtain⟨e,he,rfl⟩:=List.mem_map.1 h;exact zOt o q (k:=m) (fun j hj=>zV (by have:=hu x hx;omega)) j (by omega)) hl.1 hg
 have hd:=dep_ge (v:=y) (d:=min (m+1) n) (by rw [hl.1.1];exact Nat.min_le_right _ _) hz
 have:=hl.2.1
 omega
theorem zMi (o:OkW p n W) (q:OkB p n B) {u:List (List Int)} (hc:Canon p n W (brL p W B n u (units n)) u):u=[]:=by
 have h:∀m:Nat,∀x∈u,m≤dep x:=fun m=>by
  induction m with
  | zero=>exact fun x hx=>Nat.zero_le _
  | succ m ih=>exact zBr o q hc ih
 cases u with
 | nil=>rfl
 | cons x t=>
  have h1:=h n x (by simp)
  have h2:=(hc.base.led x (by simp)).2.1
  omega
theorem zOX (o:OkW p n W) (q:OkB p n B) {out:List (List Int)} (hc:Canon p n W (brL p W B n [] (units n)) out):out=[]:=by
 cases out with
 | nil=>rfl
 | cons y t=>
  have h1:=zBr o q hc (m:=n) (fun x hx=>by cases hx) y (by simp)
  have h2:=(hc.base.led y (by simp)).2.1
  omega
inductive Low (p:Int) (n:Nat) (W:List (List Int)) (B:List (List (List Int))):Nat→List (List Int)→Prop where
 | zero:Low p n W B 0 (units n)
 | succ {k:Nat} {u out:List (List Int)} (h:Low p n W B k u) (hc:Canon p n W (brL p W B n u (units n)) out):Low p n W B (k+1) out
theorem Low.unique (o:OkW p n W):∀{k:Nat} {u v:List (List Int)},Low p n W B k u→Low p n W B k v→u=v
 | _,_,_,.zero,.zero=>rfl
 | _,_,_,.succ h hc,.succ h' hc'=>by
  have:=Low.unique o h h'
  subst this;exact hc.unique o hc'
theorem Low.els (o:OkW p n W):∀{k:Nat} {u:List (List Int)},Low p n W B k u→Els p n u∧u.length≤n
 | _,_,.zero=>⟨zCX o.pr,by rw [qm];exact Nat.le_refl _⟩
 | _,_,.succ _ hc=>⟨hc.base.els,Z5 (fun v hv=>(hc.base.led v hv).2.1) hc.base.asc⟩
theorem Low.dep (o:OkW p n W) (q:OkB p n B):∀{k:Nat} {u:List (List Int)},Low p n W B k u→∀x∈u,k≤Go.Lie.dep x
 | _,_,.zero=>fun x hx=>Nat.zero_le _
 | _,_,.succ h hc=>zBr o q hc (Low.dep o q h)
theorem Low.le (o:OkW p n W) (q:OkB p n B) {k:Nat} {u:List (List Int)} (h:Low p n W B k u) (hu:u≠[]):k≤n:=by
 cases u with
 | nil=>exact absurd rfl hu
 | cons x t=>
  have h1:=h.dep o q x (by simp)
  have h2:=Zn x;have h3:=((h.els o).1 x (by simp)).1
  omega
def Cls (p:Int) (n:Nat) (W:List (List Int)) (B:List (List (List Int))) (c:Nat):Prop:=Low p n W B c []∧∀k u,k<c→Low p n W B k u→u≠[]
theorem Cls.unique {c d:Nat} (h:Cls p n W B c) (g:Cls p n W B d):c=d:=by
 rcases Nat.lt_trichotomy c d with x|x|x
 ·exact absurd rfl (g.2 c _ x h.1)
 ·exact x
 ·exact absurd rfl (h.2 d _ x g.1)
theorem zPI:okF Tryz.prog 277=true:=by kernel_rfl
theorem zH3 {xs ys:List (List Int)} (hU:FII vU xs) (hV:FII vV ys) (hx:xs.length≤1048576) (hxl:∀x∈xs,x.length≤1048576) (hk:∀t:Bool,(t=true↔xs=ys)→K (.bool t) σ):
  zA Tryz.prog 276 [vU,vV,.clo 277 [] []] σ K:=by
 have fl:∀{A:Prop},¬A→((false=true)↔A):=fun h=>⟨fun x=>(by cases x),fun x=>absurd x h⟩
 obtain⟨wu,au,ru,rfl,hru⟩:=hU;obtain⟨wv,av,rv,rfl,hrv⟩:=hV;refine zD mix Tryz.func276 ?_
 conv=>arg 2;cbv
 refine zF rfl ?_
 by_cases hl:xs.length=ys.length
 ·simp only [pwA,seval,-iQ0,hl]
  refine zG (fun m vs h'=>∃i:Nat,i≤ys.length∧m=ys.length-i∧vs=[.fz wv av ys.length rv,.clo 277 [] [],.fz wu au ys.length ru,.int .i64 ys.length,.int .i64 i]∧σ=h'∧xs.take i=ys.take i) ys.length ?_ ?_
  ·exact⟨0,by omega,by omega,rfl,rfl,by simp⟩
  rintro m vs h' ⟨i,hi,rfl,rfl,rfl,heq⟩
  simp only [pwA,seval,-iQ0];refine iteI (fun hlt=>?_) fun hge=>?_
  ·have hlx:i<xs.length:=by omega
   obtain⟨w4,a4,hr⟩:=hru.rowI hlx;obtain⟨w5,a5,hr5⟩:=hrv.rowI hlt;simp only [pwA,seval,-iQ0,hlt,hr,hr5];refine⟨zPI,zAA rfl rfl (by have:=hxl _ (List.getElem_mem hlx);omega) ?_⟩
   by_cases he:xs[i]=ys[i]
   ·simp only [pwA,seval,-iQ0,he,wrapS hlt (by omega:ys.length≤4611686018427387904)]
    exact⟨_,by omega,i+1,by omega,rfl,rfl,zPX hl hlx heq he⟩
   ·simp only [pwA,seval,-iQ0,he]
    refine hk _ (fl fun e=>?_)
    subst e;exact he rfl
  ·have hie:i=ys.length:=by omega
   subst hie;refine hk _ ⟨fun _=>?_,fun _=>rfl⟩
   rw [List.take_of_length_le (by omega),List.take_of_length_le (Nat.le_refl _)]at heq
   exact heq
 ·have hlI:((xs.length:Int)=(ys.length:Int))=False:=by simp;omega
  simp only [pwA,seval,-iQ0,hlI];exact hk _ (fl fun e=>hl (by rw [e]))
theorem zBQ {xs ys:List (List Int)} (hU:FII vU xs) (hV:FII vV ys) (hx:xs.length≤1048576) (hxl:∀x∈xs,x.length≤1048576) (hk:∀t:Bool,(t=true↔xs=ys)→K (.bool t) σ):
  zA Tryz.prog 187 [vU,vV] σ K:=by
 refine zD mix Tryz.func187 ?_
 conv=>arg 2;cbv
 refine zF rfl ?_;simp only [pwA,seval,-iQ0];refine zH3 hU hV hx hxl fun t ht=>?_
 simp only [pwA,seval,-iQ0];exact hk t ht
end Go.Proofs
namespace Go.Grp
end Go.Grp
namespace Go.Proofs
open Go.Ab Go.Lie Go.Grp
variable {σ:PHeap} {K:PV→PHeap→Prop} {O:List Int} {P:List (List Int)} {C:List (List (List Int))} {vO vP vC vx vy vL vU vV vB vg:PV} {x y z f a b g:List Int} {L u v z':List (List Int)} {rP rC rb:List PV} {D:List (Option (List Int))} {d j sp ss sb n:Nat}
theorem isCen.cent (s:Shp O P C) (h:isCen O C):Cent O C:=fun i j hij hj=>by
 obtain⟨_,h2⟩:=h i (by omega)
 have hc:=s.cj i j hij hj;have h3:=h2 (j-i-1) (by omega)
 unfold cenE at h3
 rw [show i+(1+(j-i-1))=j by omega]at h3
 refine⟨⟨hc.len,hc.bd,fun t ht=>?_⟩,h3.1⟩
 have hl:t<(cvec C i j).length:=by rw [hc.len];omega
 rw [at_eq hl];exact h3.2 _ (by rw [List.mem_take_iff_getElem];exact⟨t,by omega,rfl⟩)
end Go.Proofs
namespace Go.Grp
end Go.Grp
namespace Go.Proofs
open Go.Ab Go.Lie Go.Grp
variable {σ:PHeap} {K:PV→PHeap→Prop} {O:List Int} {P:List (List Int)} {C:List (List (List Int))} {vO vP vC vx vy vL vU vV vB vg:PV} {x y z f a b g:List Int} {L u v z':List (List Int)} {rP rC rb:List PV} {d j sp ss sb n:Nat}
theorem Cons.full (s:Shp O P C) (hc:Cons O P C):Full O P C O.length:=full_of s (Nat.le_refl _) fun j _ h=>hc j h
theorem ZI.isp (h:ZI O P C):∀o∈O,isP o:=h.2.2.2.1
end Go.Proofs
namespace Go.Proofs
open Go.Ab Go.Lie
variable {σ:PHeap} {K:PV→PHeap→Prop} {p p':Int} {n:Nat} {W:List (List Int)} {B:List (List (List Int))} {vP vB vL vU vV:PV} {s:Nat}
theorem zPH:okF Tryz.prog 254=true:=by kernel_rfl
theorem zK5 {b:Nat} (hb:σ.obj b=some [.ptr s 0]) (hbl:b<σ.next) (hs:PtrR σ s p vP vB) (hR:IsR vP vB W B) (o:OkW p n W) (q:OkB p n B) (hp:isP p) (hU:FII vU (units n))
  (hk:∀c a rows,Cls p n W B c→K (.fz true a (c+1) rows) σ):zA Tryz.prog 253 [vU,.clo 254 [] [.ptr b 0]] σ K:=by
 have hn6:=o.le;have h1:=hU.one;have h1c:=hU.cells;refine zA.gh ?_;refine zD mix Tryz.func253 ?_
 conv=>arg 2;cbv
 refine zF rfl ?_;simp only [pwA,seval,-iQ0,h1,h1c];refine zG (fun m vs h'=>∃k u us rows v,m=n+1-k∧k≤n+1∧vs=[.clo 254 [] [.ptr b 0],v]∧Keep σ h'∧PSl σ.next 1 h' v (k+1) rows∧All2 FII rows us∧us.length=k+1∧us[k]? = some u∧Low p n W B k u∧∀j u',j<k→Low p n W B j u'→u'≠[]) (n+1) ?_ ?_
 ·exact⟨0,units n,[units n],[vU],_,by omega,by omega,rfl,zC σ _,PSl.new _ 1 rfl (Nat.le_refl _),All2.nil _ |>.snoc hU,rfl,rfl,.zero,fun j u' hj=>by omega⟩
 rintro m vs h' ⟨k,u,us,rows,v,rfl,hkn,rfl,hkp,ha,hall,hul,huk,hlow,hbef⟩
 obtain⟨s',cap,rfl,hc,q2,q3,q4,q5⟩:=ha;have hku:k<us.length:=by omega
 obtain⟨vk,hvk,hFk⟩:=hall.get hku;have huk':us[k]=u:=by rw [List.getElem?_eq_getElem hku]at huk;exact Option.some.inj huk
 rw [huk']at hFk
 have hrd:h'.rd1 s' k=some vk:=by rw [zI q2];exact hvk
 have hw:IntKind.i64.wrap (((k+1:Nat):Int)-1)=(k:Int):=by rw [wrap64 (by omega) (by omega)];omega
 have hkk:k<k+1:=Nat.lt_succ_self k;obtain⟨e1,e2⟩:=hlow.els o;have hb':h'.rd1 b 0=some (.ptr s 0):=by rw [zI (by rw [hkp.obj b hbl];exact hb)];rfl
 have hFF:=hFk;obtain⟨wk,ak,rk,rfl,hrk⟩:=hFk;simp only [pwA,seval,-iQ0,hw,hkk,hrd];refine⟨zPH,zOY hb' (hs.keep hkp) hR o q hp hFF e1 (by omega) fun vo out hcan hFo=>?_⟩
 have hFFo:=hFo;obtain⟨wo,ao,ro,rfl,hro⟩:=hFo;have hol:out.length≤n:=Z5 (fun v hv=>(hcan.base.led v hv).2.1) hcan.base.asc
 simp only [pwA,seval,-iQ0,hw,hkk,hrd];refine zBQ hFFo hFF (by omega) (fun x hx=>by rw [(hcan.base.els x hx).1];omega) fun t ht=>?_
 cases t
 ·have hne:out≠u:=fun e=>by have:=ht.2 e;cases this
  have hune:u≠[]:=fun e=>by
   subst e;exact hne (zOX o q hcan)
  have hkn':=hlow.le o q hune;simp only [pwA,seval,-iQ0];refine PSl.push (bytes:=24) (σb:=σ) hkp ⟨s',cap,rfl,hc,q2,q3,q4,q5⟩ (by omega) (by omega) fun v2 h2 k2 a2=>?_
  simp only [pwA,seval,-iQ0];refine⟨_,?_,k+1,out,us++[out],_,v2,rfl,by omega,rfl,k2,a2,hall.snoc hFFo,by rw [List.length_append,hul];rfl,?_,.succ hlow hcan,fun j u' hj hl=>?_⟩
  ·omega
  ·rw [List.getElem?_append_right (by omega),hul,Nat.sub_self];rfl
  ·by_cases x:j=k
   ·subst x
    rw [hl.unique o hlow];exact hune
   ·exact hbef j u' (by omega) hl
 ·obtain rfl:out=u:=ht.1 rfl
  obtain rfl:out=[]:=zMi o q hcan;simp only [pwA,seval,-iQ0];exact Gh.finF hkp q2 q4 (hall.bL 0) hc.ok fun o1=>hk k _ _ ⟨hlow,hbef⟩
theorem zIf (hs:PtrR σ s p vP vB) (hR:IsR vP vB W B) (o:OkW p n W) (q:OkB p n B) (hp:isP p) (hk:∀c a rows,Cls p n W B c→K (.fz true a (c+1) rows) σ):zA Tryz.prog 164 [.ptr s 0] σ K:=by
 have hn6:=o.le;refine zA.gh ?_;refine zD mix Tryz.func164 ?_
 conv=>arg 2;cbv
 refine zF rfl ?_;simp only [pwA,seval,-iQ0];have hs1:=hs.new [.ptr s 0];refine zDZ hs1 hR.P o.len (by omega) fun vV hV=>?_
 have hVV:=hV;obtain⟨wv,av,rv,rfl,hrv⟩:=hV;simp only [pwA,seval,-iQ0];refine zK5 (b:=σ.next) (by simp only [pwA,seval,-iQ0]) (by simp only [pwA,seval,-iQ0]) hs1 hR o q hp hVV fun c a rows hc=>?_
 simp only [pwA,seval,-iQ0];exact Gh.fin0 (zC σ _) trivial (hk c a rows hc)
def isLz (p:Int) (n:Nat) (W:List (List Int)) (B:List (List (List Int))):Prop:=∃c,Cls p n W B c∧(c:Int)<p
theorem zLw {c:Nat} (h:Cls p n W B c):isLz p n W B↔(c:Int)<p:=⟨fun⟨d,h1,h2⟩=>by rw [h.unique h1];exact h2,fun e=>⟨c,h,e⟩⟩
theorem zDk (hs:PtrR σ s p vP vB) (hR:IsR vP vB W B) (o:OkW p n W) (q:OkB p n B) (hp:isP p) (hk:∀t:Bool,(t=true↔isLz p n W B)→K (.bool t) σ):zA Tryz.prog 92 [.ptr s 0] σ K:=by
 have hn6:=o.le;have hp0:σ.rd1 s 0=some (.int .i64 p):=by rw [zI hs.obj];rfl
 refine zD mix Tryz.func92 ?_
 conv=>arg 2;cbv
 refine zF rfl ?_;simp only [pwA,seval,-iQ0,hp0];refine zIf hs hR o q hp fun c a rows hc=>?_
 have hcn:c≤n+1:=by
  rcases Nat.lt_or_ge n c with x|x
  ·obtain⟨c',rfl⟩:∃c',c=c'+1:=⟨c-1,by omega⟩
   obtain⟨h1,h2⟩:=hc;cases h1 with
   | succ h hcan=>exact Nat.succ_le_succ (h.le o q (h2 _ _ (Nat.lt_succ_self _) h))
  ·omega
 have hw:IntKind.i64.wrap (((c+1:Nat):Int)-1)=(c:Int):=by rw [wrap64 (by omega) (by omega)];omega
 simp only [pwA,seval,-iQ0,hw];refine⟨hp0,hk _ ?_⟩;rw [zLw hc,decide_eq_true_eq]
def isLaz (p:Int) (W:List (List Int)) (B:List (List (List Int))):Prop:=isLie p W B∧isLz p W.length W B
end Go.Proofs
namespace Go.Proofs
open Go.Ab Go.Lie
variable {σ:PHeap} {K:PV→PHeap→Prop} {p p':Int} {n:Nat} {W:List (List Int)} {B:List (List (List Int))} {vP vB vL vU vV:PV} {s:Nat}
theorem zFZ {u v:List (List Int)} (hR:IsR vP vB W B) (o:OkW p n W) (q:OkB p n B) (hp:isP p) (hU:FII vU u) (hV:FII vV v) (eu:Els p n u) (ev:Els p n v) (hul:u.length≤6) (hvl:v.length≤6)
  (hk:∀z out,Canon p n W (brL p W B n u v) out→FII z out→K z σ):zA Tryz.prog 85 [.agg [.int .i64 p,vP,vB],vU,vV] σ K:=by
 have h1:=hR.P.one;have h2:=hR.B.one;obtain⟨wu,au,ru,rfl,hru⟩:=hU;obtain⟨wv,av,rv,rfl,hrv⟩:=hV;have bnd:∀(i j:Nat),i<u.length→j≤v.length→(brL p W B n (u.take i) v++(v.take j).map fun y=>br p W B n (u.getD i []) y).length≤42:=fun i j hi hj=>by
  rw [List.length_append,Qr,List.length_map,List.length_take,List.length_take]
  have:min i u.length*v.length≤6*6:=Nat.mul_le_mul (by omega) hvl
  omega
 refine zA.gh ?_;refine zD mix Tryz.func85 ?_
 conv=>arg 2;cbv
 refine zF rfl ?_;simp only [pwA,seval,-iQ0,h1,h2];generalize hH:σ.new [.int .i64 p,vP,vB]=H;have hHn:H.next=σ.next+1:=by rw [←hH];simp only [pwA,seval,-iQ0]
 have hHk:Keep σ H:=by rw [←hH];exact zC σ _
 have hob:H.obj σ.next=some [.int .i64 p,vP,vB]:=by rw [←hH];simp only [pwA,seval,-iQ0]
 refine zG (fun m vs h'=>∃(i:Nat) (z:PV) (rows:List PV),i≤u.length∧m=u.length-i∧vs=[.fz wu au u.length ru,.fz wv av v.length rv,.ptr σ.next 0,z,.int .i64 i]∧Keep H h'∧PSl H.next 1 h' z (brL p W B n (u.take i) v).length rows∧All2 FI rows (brL p W B n (u.take i) v)) u.length ?_ ?_
 ·refine⟨0,_,[],by omega,by omega,rfl,zC H _,?_,by rw [List.take_zero];exact All2.nil _⟩
  rw [←hHn];exact PSl.new H.next 1 rfl (Nat.le_refl _)
 rintro m vs h' ⟨i,z,rows,hi,rfl,rfl,hkp,ha,hrows⟩
 simp only [pwA,seval,-iQ0];refine iteI (fun hlt=>?_) fun hge=>?_
 ·obtain⟨w4,a4,hr⟩:=hru.rowI hlt
  have hui:=eu _ (List.getElem_mem hlt);have hgd:u.getD i []=u[i]:=by simp [List.getD_eq_getElem?_getD,hlt]
  refine zG (fun m vs h'=>∃(j:Nat) (z:PV) (rows:List PV),j≤v.length∧m=v.length-j∧vs=[.fz wu au u.length ru,.fz wv av v.length rv,.ptr σ.next 0,z,.int .i64 i,.int .i64 j]∧Keep H h'∧
   PSl H.next 1 h' z (brL p W B n (u.take i) v++(v.take j).map fun y=>br p W B n (u.getD i []) y).length rows∧All2 FI rows (brL p W B n (u.take i) v++(v.take j).map fun y=>br p W B n (u.getD i []) y)) v.length ?_ ?_
  ·exact⟨0,z,rows,by omega,by omega,rfl,hkp,by simpa using ha,by simpa using hrows⟩
  clear hkp ha hrows z rows
  rintro m vs h' ⟨j,z,rows,hj,rfl,rfl,hkp,ha,hrows⟩
  have hob':h'.obj σ.next=some [.int .i64 p,vP,vB]:=by rw [hkp.obj _ (by omega)];exact hob
  have hr3:h'.rd σ.next 0 3=some [.int .i64 p,vP,vB]:=by rw [zi hob'];rfl
  simp only [pwA,seval,-iQ0];refine iteI (fun hlj=>?_) fun hgj=>?_
  ·obtain⟨w5,a5,hr5⟩:=hrv.rowI hlj
   have hvj:=ev _ (List.getElem_mem hlj);simp only [pwA,seval,-iQ0,hlj,hr5,hlt,hr,hr3];refine qE hR o q hui hvj rfl rfl fun a6=>?_
   have hb:=bnd i j hlt hj;simp only [pwA,seval,-iQ0];refine PSl.push (bytes:=24) hkp ha (by omega) (by omega) fun v' h2 k2 a2=>?_
   simp only [pwA,seval,-iQ0,wrapS hlj (by omega:v.length≤4611686018427387904)]
   have e:(brL p W B n (u.take i) v++(v.take (j+1)).map fun y=>br p W B n (u.getD i []) y)=(brL p W B n (u.take i) v++(v.take j).map fun y=>br p W B n (u.getD i []) y)++[br p W B n u[i] v[j]]:=by
    rw [List.take_succ_eq_append_getElem hlj,List.map_append,List.append_assoc,hgd];rfl
   refine⟨_,by omega,j+1,v',rows++[.fz true a6 n (pis (br p W B n u[i] v[j]))],by omega,rfl,rfl,k2,?_,?_⟩
   ·rw [e,List.length_append]
    exact a2
   ·rw [e]
    exact hrows.snoc ⟨true,a6,by rw [(br_el o q).1]⟩
  ·have hje:j=v.length:=by omega
   subst hje;have e:(brL p W B n (u.take i) v++(v.take v.length).map fun y=>br p W B n (u.getD i []) y)=brL p W B n (u.take (i+1)) v:=by
    rw [List.take_length,List.take_succ_eq_append_getElem hlt,zHr,hgd]
   rw [e]at ha hrows
   simp only [pwA,seval,-iQ0,wrapS hlt (by omega:u.length≤4611686018427387904)]
   exact⟨_,by omega,i+1,z,rows,by omega,rfl,rfl,hkp,ha,hrows⟩
 ·have hie:i=u.length:=by omega
  subst hie;rw [List.take_length]at ha hrows
  obtain⟨s',cap,rfl,hc,q2,q3,q4,q5⟩:=ha;have hob':h'.obj σ.next=some [.int .i64 p,vP,vB]:=by rw [hkp.obj _ (by omega)];exact hob
  have hr3:h'.rd σ.next 0 3=some [.int .i64 p,vP,vB]:=by rw [zi hob'];rfl
  simp only [pwA,seval,-iQ0,hr3];refine zA.frz q2 (hrows.bI 0) fun o1=>?_
  have hl:(brL p W B n u v).length≤1048576:=by
   rw [Qr]
   have:u.length*v.length≤6*6:=Nat.mul_le_mul hul hvl
   omega
  obtain⟨⟨wp,ap,rp,rfl,hrp⟩,wb,ab,rb,rfl,hrb⟩:=hR;simp only [sbs,sb,hc.ok,and_self,if_true];refine zEk ⟨⟨wp,ap,rp,rfl,hrp⟩,wb,ab,rb,rfl,hrb⟩ o hp ⟨true,_,rows,rfl,hrows⟩ (zBm o q _ _) hl fun z out hcan hz=>?_
  obtain⟨wz,az,rz,rfl,hrz⟩:=hz;simp only [pwA,seval,-iQ0];exact Gh.fin0 ((hHk.trans hkp).kill (by omega)) trivial (hk _ out hcan ⟨wz,az,rz,rfl,hrz⟩)
theorem zIk (hR:IsR vP vB W B) (o:OkW p n W) (q:OkB p n B) (hp:isP p) (hk:∀c a rows,Cls p n W B c→K (.fz true a (c+1) rows) σ):zA Tryz.prog 269 [.agg [.int .i64 p,vP,vB]] σ K:=by
 have hn6:=o.le;have h1:=hR.P.one;have h2:=hR.B.one;refine zA.gh ?_;refine zD mix Tryz.func269 ?_
 conv=>arg 2;cbv
 refine zF rfl ?_;simp only [pwA,seval,-iQ0,h1,h2];generalize hH:σ.new [.int .i64 p,vP,vB]=H;have hHn:H.next=σ.next+1:=by rw [←hH];simp only [pwA,seval,-iQ0]
 have hHk:Keep σ H:=by rw [←hH];exact zC σ _
 have hob:H.obj σ.next=some [.int .i64 p,vP,vB]:=by rw [←hH];simp only [pwA,seval,-iQ0]
 refine zDg hR o.len (by omega) fun vV hV=>?_
 have hVV:=hV;obtain⟨wv,av,rv,rfl,hrv⟩:=hV;simp only [pwA,seval,-iQ0];refine zG (fun m vs h'=>∃k u us rows v vU,m=n+1-k∧k≤n+1∧vs=[.ptr σ.next 0,vU,v]∧Keep H h'∧PSl H.next 1 h' v (k+1) rows∧All2 FII rows us∧us.length=k+1∧FII vU u∧Low p n W B k u∧∀j u',j<k→Low p n W B j u'→u'≠[]) (n+1) ?_ ?_
 ·refine⟨0,units n,[units n],[_],_,_,by omega,by omega,rfl,zC H _,PSl.new _ 1 rfl (Nat.le_refl _),All2.nil _ |>.snoc hVV,rfl,hVV,.zero,fun j u' hj=>by omega⟩
 rintro m vs h' ⟨k,u,us,rows,v,vU,rfl,hkn,rfl,hkp,ha,hall,hul,hFU,hlow,hbef⟩
 have hob':h'.obj σ.next=some [.int .i64 p,vP,vB]:=by rw [hkp.obj _ (by omega)];exact hob
 have hr3:h'.rd σ.next 0 3=some [.int .i64 p,vP,vB]:=by rw [zi hob'];rfl
 obtain⟨e1,e2⟩:=hlow.els o;have hFF:=hFU;obtain⟨wk,ak,rk,rfl,hrk⟩:=hFU
 by_cases hu:u=[]
 ·subst hu
  obtain⟨s',cap,rfl,hc,q2,q3,q4,q5⟩:=ha;simp only [pwA,seval,-iQ0,List.length_nil];exact Gh.finF (hHk.trans hkp) q2 (by omega) (hall.bL 0) hc.ok fun o1=>hk k _ _ ⟨hlow,hbef⟩
 ·have hkn':=hlow.le o q hu
  have hpos:(0:Int)<(u.length:Int):=by
   have:0<u.length:=List.length_pos_iff.2 hu
   omega
  simp only [pwA,seval,-iQ0,hpos,hr3];refine zDg hR o.len (by omega) fun vW hW=>?_
  have hWW:=hW;obtain⟨ww,aw,rw',rfl,hrw⟩:=hW;simp only [pwA,seval,-iQ0,hr3];refine zFZ hR o q hp hFF hWW e1 (zCX o.pr) (by omega) (by rw [qm];omega) fun z out hcan hz=>?_
  have hzz:=hz;obtain⟨wz,az,rz,rfl,hrz⟩:=hz;simp only [pwA,seval,-iQ0,hr3];refine PSl.push (bytes:=24) hkp ha (by omega) (by omega) fun v2 h2 k2 a2=>?_
  simp only [pwA,seval,-iQ0];refine⟨_,?_,k+1,out,us++[out],_,v2,_,rfl,by omega,rfl,k2,a2,hall.snoc hzz,by rw [List.length_append,hul];rfl,hzz,.succ hlow hcan,fun j u' hj hl=>?_⟩
  ·omega
  ·by_cases x:j=k
   ·subst x
    rw [hl.unique o hlow];exact hu
   ·exact hbef j u' (by omega) hl
end Go.Proofs
namespace Go.Proofs
open Go.Ab Go.Lie
variable {σ:PHeap} {K:PV→PHeap→Prop} {p p':Int} {n:Nat} {W:List (List Int)} {B:List (List (List Int))} {vP vB vL vU vV:PV} {s:Nat}
theorem Cls.le (o:OkW p n W) (q:OkB p n B) {c:Nat} (hc:Cls p n W B c):c≤n+1:=by
 rcases Nat.lt_or_ge n c with x|x
 ·obtain⟨c',rfl⟩:∃c',c=c'+1:=⟨c-1,by omega⟩
  obtain⟨h1,h2⟩:=hc;cases h1 with
  | succ h hcan=>exact Nat.succ_le_succ (h.le o q (h2 _ _ (Nat.lt_succ_self _) h))
 ·omega
theorem zIl (hR:IsR vP vB W B) (o:OkW p n W) (q:OkB p n B) (hp:isP p) (hk:∀c:Nat,Cls p n W B c→K (.int .i64 c) σ):zA Tryz.prog 174 [.agg [.int .i64 p,vP,vB]] σ K:=by
 have hn6:=o.le;have h1:=hR.P.one;have h2:=hR.B.one;refine zA.gh ?_;refine zD mix Tryz.func174 ?_
 conv=>arg 2;cbv
 refine zF rfl ?_;simp only [pwA,seval,-iQ0,h1,h2];refine zIk hR o q hp fun c a rows hc=>?_
 have hcn:=hc.le o q;have hw:IntKind.i64.wrap (((c+1:Nat):Int)-1)=(c:Int):=by rw [wrap64 (by omega) (by omega)];omega
 simp only [pwA,seval,-iQ0,hw];exact Gh.fin0 (zC σ _) trivial (hk c hc)
theorem zD0 (hR:IsR vP vB W B) (o:OkW p n W) (q:OkB p n B) (hp:isP p) (hk:∀t:Bool,(t=true↔isLz p n W B)→K (.bool t) σ):zA Tryz.prog 83 [.agg [.int .i64 p,vP,vB]] σ K:=by
 have h1:=hR.P.one;have h2:=hR.B.one;refine zA.gh ?_;refine zD mix Tryz.func83 ?_
 conv=>arg 2;cbv
 refine zF rfl ?_;simp only [pwA,seval,-iQ0,h1,h2];refine zIl hR o q hp fun c hc=>?_
 simp only [pwA,seval,-iQ0,h1,h2];refine Gh.fin0 (zC σ _) trivial (hk _ ?_);rw [zLw hc,decide_eq_true_eq]
theorem zHE (hR:IsR vP vB W B) (sz:SzR W B) (hk:∀t:Bool,(t=true↔isLaz p W B)→K (.bool t) σ):zA Tryz.prog 112 [.agg [.int .i64 p,vP,vB]] σ K:=by
 have fl:∀{A:Prop},¬A→((false=true)↔A):=fun h=>⟨fun x=>(by cases x),fun x=>absurd x h⟩
 have h1:=hR.P.one;have h2:=hR.B.one;refine zA.gh ?_;refine zD mix Tryz.func112 ?_
 conv=>arg 2;cbv
 refine zF rfl ?_;simp only [pwA,seval,-iQ0,h1,h2];refine zEn hR sz fun t ht=>?_
 cases t
 ·simp only [pwA,seval,-iQ0]
  exact Gh.fin0 (zC σ _) trivial (hk _ (fl fun x=>absurd (ht.2 x.1) (by simp)))
 ·have hl:=ht.1 rfl
  simp only [pwA,seval,-iQ0,h1,h2];refine zD0 hR hl.1.w hl.1.b hl.1.1 fun t ht=>?_
  simp only [pwA,seval,-iQ0];exact Gh.fin0 (zC σ _) trivial (hk _ ⟨fun e=>⟨hl,ht.1 e⟩,fun x=>ht.2 x.2⟩)
end Go.Proofs
namespace Go.Proofs
open Go.Ab Go.Lie
variable {σ:PHeap} {K:PV→PHeap→Prop}
structure EucI (m a r nx x y:Int):Prop where
 cof:∃s u v:Int,(s=1∨s=-1)∧0≤u∧u≤m∧0≤v∧x=s*u∧y=-s*v∧r*v+nx*u=m
 pos:0<r∧r≤m∧0≤nx∧nx<r
 xa:∃t,x*a=r+t*m
 ya:∃t,y*a=nx+t*m
 dm:∃c d,m=c*r+d*nx
 da:∃c d,a=c*r+d*nx
theorem zCo {a b m:Int} (ha:1≤a) (hb:0≤b) (h:a*b≤m):b≤m:=by
 have:=Int.mul_le_mul_of_nonneg_right ha hb
 omega
theorem EucI.start {m a:Int} (h1:0≤a) (h2:a<m):EucI m a m a 0 1 where
 cof:=⟨-1,0,1,.inr rfl,by omega,by omega,by omega,by omega,by omega,by omega⟩
 pos:=by omega
 xa:=⟨-1,by omega⟩
 ya:=⟨0,by omega⟩
 dm:=⟨1,0,by omega⟩
 da:=⟨0,1,by omega⟩
theorem EucI.step {m a r nx x y:Int} (h:EucI m a r nx x y) (hn:nx≠0):EucI m a nx (r-r / nx*nx) y (x-r / nx*y)∧
  (-m≤x∧x≤m∧-m≤y∧y≤m∧-m≤r / nx*y∧r / nx*y≤m∧0≤r / nx∧r / nx≤m∧0≤r / nx*nx∧r / nx*nx≤m∧-m≤x-r / nx*y∧x-r / nx*y≤m):=by
 obtain⟨s,u,v,hs,hu,hum,hv,hx,hy,he⟩:=h.cof;obtain⟨p1,p2,p3,p5⟩:=h.pos;obtain⟨tx,hxa⟩:=h.xa;obtain⟨ty,hya⟩:=h.ya;obtain⟨cm,dm,hdm⟩:=h.dm;obtain⟨ca,da,hda⟩:=h.da;have hq0:0≤r / nx:=Int.ediv_nonneg (by omega) p3
 have e1:=Int.emod_nonneg r hn;have e2:=Int.emod_lt_of_pos r (show 0<nx by omega)
 have e3:r % nx=r-r / nx*nx:=by have:=Int.mul_ediv_add_emod r nx;rw [Int.mul_comm];omega
 generalize r / nx=q at *
 rw [e3]at e1 e2
 have hqv:0≤q*v:=Int.mul_nonneg hq0 hv;have hqn:0≤q*nx:=Int.mul_nonneg hq0 p3;have k1:nx*(u+q*v)+(r-q*nx)*v=m:=by grind
 have k2:0≤(r-q*nx)*v:=Int.mul_nonneg e1 hv;have k3:u+q*v≤m:=zCo (a:=nx) (by omega) (by omega) (by omega)
 have k4:0≤nx*u:=Int.mul_nonneg p3 hu;have k5:v≤m:=zCo (a:=r) (by omega) hv (by omega)
 have k6:q≤m:=zCo (a:=nx) (by omega) hq0 (by rw [Int.mul_comm];omega)
 refine⟨⟨⟨-s,v,u+q*v,by omega,hv,k5,by omega,by grind,by grind,by omega⟩,by omega,⟨ty,hya⟩,⟨tx-q*ty,by grind⟩,⟨dm+cm*q,cm,by grind⟩,⟨da+ca*q,ca,by grind⟩⟩,?_⟩
 have k7:q*y=-s*(q*v):=by grind
 have k8:x-q*y=s*(u+q*v):=by grind
 rcases hs with rfl|rfl<;>omega
theorem zIz {a m:Int} (ha:0≤a) (ham:a<m) (hm:m≤1000000) (hk:∀(x:Int) (b:Bool),0≤x→x<m→((∃z w:Int,a*z=1+w*m)→∃t,a*x=1+t*m)→K (.tup [.int .i64 x,.bool b]) σ):zA Tryz.prog 203 [.int .i64 a,.int .i64 m] σ K:=by
 refine zD mix Tryz.func203 ?_
 conv=>arg 2;cbv
 refine zF rfl ?_;simp only [pwA,seval,-iQ0];refine zG (fun k vs h'=>∃r nx x y:Int,k=nx.toNat∧vs=[.int .i64 m,.int .i64 r,.int .i64 nx,.int .i64 x,.int .i64 y]∧σ=h'∧EucI m a r nx x y) a.toNat ?_ ?_
 ·exact⟨m,a,0,1,rfl,rfl,rfl,EucI.start ha ham⟩
 rintro k vs h' ⟨r,nx,x,y,rfl,rfl,rfl,hI⟩
 obtain⟨p1,p2,p3,p5⟩:=hI.pos
 by_cases h0:nx=0
 ·subst h0
  simp only [pwA,seval,-iQ0];refine zBv (by omega) (by omega) ?_
  simp only [pwA,seval,-iQ0];refine hk _ _ (Int.emod_nonneg _ (by omega)) (Int.emod_lt_of_pos _ (by omega)) fun⟨z,w,hz⟩=>?_
  obtain⟨tx,hxa⟩:=hI.xa;obtain⟨cm,dm,hdm⟩:=hI.dm;obtain⟨ca,da,hda⟩:=hI.da;have e:r*(ca*z-w*cm)=1:=by grind
  have hr1:r=1:=by
   have hd:r∣1:=⟨_,e.symm⟩
   have:=Int.le_of_dvd (by omega) hd
   omega
  have em:=Int.mul_ediv_add_emod x m;exact⟨tx-a*(x / m),by grind⟩
 ·obtain⟨hI',b⟩:=hI.step h0
  have ht:r.tdiv nx=r / nx:=Int.tdiv_eq_ediv_of_nonneg (by omega)
  obtain⟨p1',p2',p3',p5'⟩:=hI'.pos;simp only [pwA,seval,-iQ0,h0,ht,wrap64 (n:=r / nx) (by omega) (by omega),wrap64 (n:=r / nx*nx) (by omega) (by omega),wrap64 (n:=r / nx*y) (by omega) (by omega),wrap64 (n:=r-r / nx*nx) (by omega) (by omega),wrap64 (n:=x-r / nx*y) (by omega) (by omega)]
  exact⟨_,by omega,_,_,_,_,rfl,rfl,hI'⟩
end Go.Proofs
namespace Go.Grp
end Go.Grp
namespace Go.Proofs
open Go.Ab Go.Lie Go.Grp
variable {σ:PHeap} {K:PV→PHeap→Prop} {O:List Int} {P:List (List Int)} {C:List (List (List Int))} {vO vP vC vx vy vz:PV} {x y z:List Int} {d j sp n:Nat}
structure LG (O:List Int) (P:List (List Int)) (C:List (List (List Int))):Prop where
 pr:ZI O P C
 co:Cons O P C
 ce:isCen O C
theorem LG.s (g:LG O P C):Shp O P C:=g.pr.shp
theorem LG.F (g:LG O P C):Full O P C O.length:=Cons.full g.s g.co
theorem LG.cent (g:LG O P C):Cent O C:=g.ce.cent g.s
theorem zFu {p:Int}:∀{O:List Int},(∀o∈O,o=p)→prodL O=p ^ O.length
 | [],_=>by simp [prodL]
 | o::O,h=>by
  rw [prodL,zFu fun o ho=>h o (List.mem_cons_of_mem _ ho),h o (by simp),List.length_cons,Int.pow_succ,Int.mul_comm]
theorem zFx (g:LG O P C) (hR:IsPr vO vP vC O P C) (hx:gS O x) (hvx:FI vx x) {k:Int} (hk0:0≤k∧k≤1000) (hk:∀v,FI v (Grp.pw (gm O P C) (zv O) x k.toNat)→K v σ):
  zA Tryz.prog 182 [.agg [vO,vP,vC],vx,.int .i64 k] σ K:=by
 have h0:=hR.O.one;have h1:=hR.P.one;have h2:=hR.C.one;have M:=g.F.g.toMon;have hk1:¬k<0:=by omega
 refine zA.gh ?_;refine zD mix Tryz.func182 ?_
 conv=>arg 2;cbv
 refine zF rfl ?_;simp only [pwA,seval,-iQ0,h0,h1,h2,hk1];refine zCq g.s (d:=O.length) (i:=0) (by omega) (zA2 g.s (by omega)) M hR hx hvx hk0 fun v hv=>?_
 simp only [pwA,seval,-iQ0];exact Gh.fin0 (zC σ _) (hv.bel _) (hk v hv)
end Go.Proofs
