/- Codes of Lazard groups; sums and brackets of elements, both sides. -/
import Derived.Test.YtgkbfiilhocioaaGreatBP31
open Int renaming reduceNatCast'→iQ0
set_option maxRecDepth 100000
namespace Go.Grp
end Go.Grp
set_option linter.unusedSimpArgs false
set_option linter.unusedVariables false
namespace Go.Proofs
open Go.Ab Go.Lie Go.Grp
variable {σ:PHeap} {K:PV→PHeap→Prop} {O:List Int} {P:List (List Int)} {C:List (List (List Int))} {vO vP vC vx vy vL vU vB vg:PV} {x y z f a b g:List Int} {L u by_:List (List Int)} {rP rC rb:List PV} {D:List (Option (List Int))} {d j sp ss sb n:Nat}
theorem zFT (s:Shp O P C) (hs:PtrG σ sp vO vP vC) (hR:IsPr vO vP vC O P C) (hk:∀ss sb h',Keep σ h'→σ.next≤ss→σ.next≤sb→SeqG h' ss sb sp O.length (List.replicate O.length (.fz true .nils 0 [])) vO vP vC→K (.ptr ss 0) h'):
  zA Tryz.prog 193 [.ptr sp 0] σ K:=by
 have hn6:=s.le;have hsl:=hs.lt;obtain⟨⟨w0,a0,rfl⟩,_,_⟩:=hR;have e0:σ.rd1 sp 0=some (.fz w0 a0 O.length (pis O)):=by rw [zI hs.obj];rfl
 refine zC mix Tryz.func193 ?_
 conv=>arg 2;cbv
 refine zF rfl ?_;simp only [pwA,seval,-iQ0,e0,mk24 (n:=O.length) (by omega),mkL (n:=O.length) (by omega)]
 exact hk (σ.next+1) σ.next _ ((zD σ _).new _) (by omega) (Nat.le_refl _) ⟨by simp only [pwA,seval,-iQ0],by simp only [pwA,seval,-iQ0],by simp only [pwA,seval,-iQ0],by simp only [pwA,seval,-iQ0];omega,(hs.new _).new _,by omega,by omega⟩
theorem zCr (s:Shp O P C) (F:Full O P C O.length) (hC:Cent O C) (hq:SeqG σ ss sb sp O.length rb vO vP vC) (hR:IsPr vO vP vC O P C) (hD:OkD O D) (hrb:All2 (DRow O.length) rb D)
  (hk:∀v u,FII v u→CanD O P C D u→K v σ):zA Tryz.prog 195 [.ptr ss 0] σ K:=by
 have hn6:=s.le;have r0:σ.rd1 ss 0=some (.ptr sp 0):=by rw [zI hq.obj];rfl
 have r1:σ.rd1 ss 1=some (.sl sb 0 O.length (.known O.length)):=by rw [zI hq.obj];rfl
 have hw:IntKind.i64.wrap ((O.length:Int)-1)=(O.length:Int)-1:=wrap64 (by omega) (by omega)
 refine zA.gh ?_;refine zC mix Tryz.func195 ?_
 conv=>arg 2;cbv
 refine zF rfl ?_;simp only [pwA,seval,-iQ0,r1,hw];refine Za (fun m vs h2=>∃(k:Nat) (vO:PV) (u:List (List Int)),k≤O.length∧m=k∧vs=[.ptr ss 0,vO,.int .i64 ((k:Int)-1)]∧Keep σ h2∧FII vO u∧Ones O u∧u.length+k≤O.length∧(∀v∈u,k≤dep v)∧(u.Pairwise fun a b=>dep a<dep b)∧(∀v∈u,∀w∈u,dep v≠dep w→at_ v (dep w)=0)∧(∀(d:Nat) (y:List Int),k≤d→D[d]? = some (some y)→∃v∈u,dep v=d)∧(∀N,gB O P C N→((∀x∈u,N x)↔∀d y,k≤d→D[d]? = some (some y)→N y))) O.length (.here ⟨O.length,_,[],Nat.le_refl _,rfl,rfl,Keep.refl σ,⟨_,_,_,rfl,All2.nil _⟩,fun v hv=>(by cases hv),by simp,fun v hv=>(by cases hv),List.Pairwise.nil,fun v hv=>(by cases hv),fun d y h1 h2=>?_,fun N hN=>⟨fun _ d y h1 h2=>?_,fun _ x hx=>(by cases hx)⟩⟩) ?_
 ·rw [List.getElem?_eq_none (by rw [hD.len];exact h1)]at h2;cases h2
 ·rw [List.getElem?_eq_none (by rw [hD.len];exact h1)]at h2;cases h2
 rintro m vs h2 ⟨k,vU,u,hkn,rfl,rfl,hk2,hU,hu,hul,hud,hasc,hred,hall0,hN⟩
 rcases Nat.eq_zero_or_pos m with rfl|hmp
 ·simp only [pwA,seval,-iQ0,show ¬((0:Int)≤((0:Nat):Int)-1) by omega]
  exact Gh.fin0 hk2 (hU.bel _) (hk vU u hU ⟨hu,hasc,hred,fun d y hy=>hall0 d y (Nat.zero_le _) hy,by omega,fun N h1=>(hN N h1).trans ⟨fun h d y hy=>h d y (Nat.zero_le _) hy,fun h d y _ hy=>h d y hy⟩⟩)
 obtain⟨k,rfl⟩:∃k,m=k+1:=⟨m-1,by omega⟩
 have e:((k+1:Nat):Int)-1=(k:Int):=by omega
 have hkn':k<O.length:=hkn;have hrd:=zI (hq.keep hk2).bobj k;have r0':h2.rd1 ss 0=some (.ptr sp 0):=by rw [zI (hq.keep hk2).obj];rfl
 have r1':h2.rd1 ss 1=some (.sl sb 0 O.length (.known O.length)):=by rw [zI (hq.keep hk2).obj];rfl
 rw [e];have hw2:IntKind.i64.wrap ((k:Int)-1)=(k:Int)-1:=wrap64 (by omega) (by omega)
 rcases DRow.get hrb (d:=k) (by rw [hD.len];exact hkn')with ⟨e1,e2⟩|⟨oo,cap,y,e1,e2⟩
 ·rw [e1]at hrd
  simp only [pwA,seval,-iQ0,hkn',r1',hrd,hw2];refine⟨_,Nat.lt_succ_self k,.here ⟨k,vU,u,by omega,rfl,rfl,hk2,hU,hu,by omega,fun v hv=>by have:=hud v hv;omega,hasc,hred,fun d y hd hy=>?_,fun N h1=>(hN N h1).trans ⟨fun h d y hd hy=>?_,fun h d y hd hy=>h d y (by omega) hy⟩⟩⟩
  ·rcases Nat.lt_or_ge k d with x | x
   ·exact hall0 d y x hy
   ·rw [show d=k by omega,e2]at hy;cases hy
  rcases Nat.lt_or_ge k d with x|x
  ·exact h d y x hy
  ·rw [show d=k by omega,e2]at hy;cases hy
 ·rw [e1]at hrd
  obtain⟨y1,y2⟩:=hD.row _ _ e2;have yS:gS O y:=y1.mono (Nat.zero_le _);simp only [pwA,seval,-iQ0,hkn',r0',r1',hrd,hw2];refine zDL s F hC (by omega) (hq.keep hk2).pg hR hU hu hasc (by omega) yS ⟨true,_,by rw [y1.len]⟩ fun oz capz z zS z1 z0 z2=>?_
  have za:∀j,j≤k→at_ z j=at_ y j:=z1 k fun v hv=>hud v hv
  have zt:TT O k z:=⟨zS.len,zS.bd,fun j hj=>by rw [za j (by omega)];exact y1.zero j hj⟩
  have zk:at_ z k=1:=by rw [za k (Nat.le_refl _)];exact y2
  have hzl:=zS.len;have zd:dep z=k:=by
   have h1:=Qu zt (by omega)
   rcases Nat.lt_or_ge k (dep z)with h|h
   ·rw [zg h]at zk;omega
   ·omega
  obtain⟨wO,aO,rO,rfl,hrO⟩:=hU;simp only [pwA,seval,-iQ0];refine PSl.cat (bytes:=24) (σb:=h2) (n:=1) (cs:=[.fz true (.sl oz 0 O.length capz) O.length (pis z)]) (zD h2 _) (PSl.new _ 1 rfl (Nat.le_refl _)) hrO.1 (by omega) (by omega) fun v3 h3 k3 a3=>?_
  obtain⟨s3,cap3,rfl,hc3,ho3,hl3,hge3,hlt3⟩:=a3;have hall:All2 FI ([.fz true (.sl oz 0 O.length capz) O.length (pis z)]++rO) (z::u):=(All2.nil FI |>.snoc (⟨true,_,by rw [hzl]⟩:FI (.fz true (.sl oz 0 O.length capz) O.length (pis z)) z)).append hrO
  have hkn2:=hk2.next;simp only [pwA,seval,-iQ0,hw2];refine⟨k,Nat.lt_succ_self k,.fz s3 _ ho3 (hall.bI 0) fun o1=>.here ⟨k,.fz true (.sl o1 0 (1+u.length) cap3) (1+u.length) ([.fz true (.sl oz 0 O.length capz) O.length (pis z)]++rO),z::u,by omega,rfl,?_,(hk2.trans k3).kill (by omega),⟨true,_,_,by rw [List.length_cons,Nat.add_comm],hall⟩,?_,by simp;omega,?_,?_,?_,?_,fun N h1=>?_⟩⟩
  ·simp [sbs,Go.Ab.sb,hc3.ok]
  ·intro v hv
   rcases List.mem_cons.1 hv with rfl|hv
   ·exact⟨zS,by omega,by rw [zd];exact zk⟩
   ·exact hu v hv
  ·intro v hv
   rcases List.mem_cons.1 hv with rfl|hv
   ·omega
   ·have:=hud v hv;omega
  ·rw [List.pairwise_cons]
   exact⟨fun v hv=>by have:=hud v hv;omega,hasc⟩
  ·intro v hv w hw hne
   rcases List.mem_cons.1 hv with ev|hv2
   ·rcases List.mem_cons.1 hw with ew | hw2
    ·rw [ev,ew]at hne;exact absurd rfl hne
    ·rw [ev];exact z0 w hw2
   ·rcases List.mem_cons.1 hw with ew | hw2
    ·rw [ew];exact zg (by have:=hud v hv2;omega)
    ·exact hred v hv2 w hw2 hne
  ·intro d y' hd hy
   rcases Nat.lt_or_ge k d with x|x
   ·obtain⟨v,hv,e⟩:=hall0 d y' x hy
    exact⟨v,List.mem_cons_of_mem _ hv,e⟩
   ·exact⟨z,by simp,by omega⟩
  ·have hsplit:(∀d y,k≤d→D[d]? = some (some y)→N y)↔(N y∧∀d y,k+1≤d→D[d]? = some (some y)→N y):=by
    refine⟨fun h=>⟨h k y (Nat.le_refl _) e2,fun d y hd hy=>h d y (by omega) hy⟩,fun⟨h3,h4⟩ d y' hd hy=>?_⟩
    rcases Nat.lt_or_ge k d with x|x
    ·exact h4 d y' x hy
    ·rw [show d=k by omega,e2]at hy;cases hy;exact h3
   rw [hsplit,←hN N h1,List.forall_mem_cons];refine⟨fun⟨h3,h4⟩=>⟨(z2 N h1 h4).2 h3,h4⟩,fun⟨h3,h4⟩=>⟨(z2 N h1 h4).1 h3,h4⟩⟩
noncomputable abbrev gcnj (O:List Int) (P:List (List Int)) (C:List (List (List Int))) (x g:List Int):List Int:=cnj (gS O) (gm O P C) (zv O) x g
theorem zGR (s:Shp O P C) (F:Full O P C O.length) (hs:PtrG σ sp vO vP vC) (hR:IsPr vO vP vC O P C) (hU:FII vU u) (hu:∀x∈u,gS O x) (hul:u.length≤1000) (hg:gS O g) (hvg:FI vg g) (hk:∀v,FII v (u.map fun y=>gcnj O P C y g)→K v σ):
  zA Tryz.prog 327 [.ptr sp 0,vU,vg] σ K:=by
 have up:∀{z:List Int},gS O z→TT O (O.length-O.length) z:=fun h=>by rw [Nat.sub_self];exact h
 have dn:∀{z:List Int},TT O (O.length-O.length) z→gS O z:=fun h=>by rw [Nat.sub_self]at h;exact h
 obtain⟨wl,al,rl,rfl,hrl⟩:=hU;have hvg0:=hvg;obtain⟨wg,ag,rfl⟩:=hvg;refine zA.gh ?_;refine zC mix Tryz.func327 ?_
 conv=>arg 2;cbv
 refine zF rfl ?_;simp only [pwA,seval,-iQ0];refine zG (fun m vs h'=>∃(i:Nat) (v:PV) (rows:List PV),i≤u.length∧m=u.length-i∧vs=[.ptr sp 0,.fz wg ag g.length (pis g),v,.fz wl al u.length rl,.int .i64 u.length,.int .i64 i]∧Keep σ h'∧PAcc σ.next 1 h' v i rows∧All2 FI rows ((u.take i).map fun y=>gcnj O P C y g)) u.length ?_ ?_
 ·exact⟨0,_,[],by omega,by omega,rfl,Keep.refl σ,PAcc.nil _ _ _,by simpa using All2.nil _⟩
 rintro m vs h' ⟨i,v,rows,hi,rfl,rfl,hkp,ha,hall⟩
 simp only [pwA,seval,-iQ0];refine iteI (fun hlt=>?_) fun hge=>?_
 rotate_left
 ·have hie:i=u.length:=by omega
  subst hie;rw [List.take_length]at hall
  exact ha.fin hkp (hall.bI 0) fun a=>hk _ ⟨true,a,rows,by rw [List.length_map],hall⟩
 obtain⟨w4,a4,hr⟩:=hrl.rowI hlt;have hui:=hu _ (List.getElem_mem hlt);simp only [pwA,seval,-iQ0,hlt,hr];refine Qv s F (hs.keep hkp) hR (up hui) (up hg) ⟨w4,a4,rfl⟩ hvg0 fun v1 z h1 h2 f1=>?_
 obtain rfl:z=gcnj O P C u[i] g:=F.g.cnj_eq hui hg (dn h1) h2;have f1':=f1;obtain⟨w1,a1,rfl⟩:=f1;simp only [pwA,seval,-iQ0];refine PAcc.push (bytes:=24) hkp ha (by omega) (by omega) fun v' h2 k2 a2=>?_
 simp only [pwA,seval,-iQ0,wrapS hlt (by omega:u.length≤4611686018427387904)]
 refine⟨_,by omega,i+1,v',rows++[.fz w1 a1 (gcnj O P C u[i] g).length (pis (gcnj O P C u[i] g))],by omega,rfl,rfl,k2,a2.acc,?_⟩
 rw [List.take_succ_eq_append_getElem hlt,List.map_append];exact hall.snoc f1'
theorem zE2 (s:Shp O P C) (F:Full O P C O.length) (hC:Cent O C) (hp:∀o∈O,isP o) (hs:PtrG σ sp vO vP vC) (hR:IsPr vO vP vC O P C) (hL:FII vL L) (hgL:∀x∈L,gS O x) (hLl:L.length≤1000000) (hB:FII vB by_) (hb:∀x∈by_,gS O x) (hbl:by_.length≤1000000)
  (hk:∀v u,FII v u→Ones O u→u.length≤O.length→(∀N,gN O P C N→((∀x∈u,N x)↔∀x∈L,N x))→K v σ):zA Tryz.prog 306 [.ptr sp 0,vL,vB] σ K:=by
 have hn6:=s.le;have hLL:=hL;obtain⟨wl,al,rl,rfl,hrl⟩:=hL;obtain⟨wb,ab,rb,rfl,hrb⟩:=hB;refine zA.gh ?_;refine zC mix Tryz.func306 ?_
 conv=>arg 2;cbv
 refine zF rfl ?_;simp only [pwA,seval,-iQ0];refine zFT s hs hR fun ss sb h1 k1 n1 n2 q1=>?_
 simp only [pwA,seval,-iQ0];refine zMT s F hC hp q1 hR (OkD.start O.length rfl) ⟨by simp,fun k c r hc hr=>?_⟩ (QI.start _) hLL hgL hLl fun t rb' D' hrb' hD' hQ' hN' hf hf'=>?_
 ·rw [List.getElem?_replicate]at hc hr
  split at hc
  ·rename_i h
   rw [if_pos h]at hr
   cases hc;cases hr;exact .inl ⟨rfl,rfl⟩
  ·cases hc
 have hN0:∀N,gN O P C N→(InD N D'↔∀q∈L,N q):=fun N hN=>(hN' N hN.toB).trans ⟨fun h=>h.2,fun h=>⟨InD.start _,h⟩⟩
 simp only [pwA,seval,-iQ0];refine zG (fun m us h'=>∃(g:Bool) (rb2:List PV) (D2:List (Option (List Int))),m=2*free D2+(if g=true then 1 else 0)∧us=[.ptr sp 0,.fz wb ab by_.length rb,.ptr ss 0,.bool g]∧h'=h1.set sb rb2∧All2 (DRow O.length) rb2 D2∧OkD O D2∧QI O P C D2 []∧∀N,gN O P C N→(InD N D2↔∀q∈L,N q)) (2*free D'+1) ⟨true,rb',D',by rw [if_pos rfl],rfl,rfl,hrb',hD',hQ',hN0⟩ ?_
 rintro m us h' ⟨g,rb2,D2,rfl,rfl,rfl,hrb2,hD2,hQ2,hN2⟩
 have hq2:=q1.setB rb2;cases g with
 | false=>
  simp only [pwA,seval,-iQ0];refine zCr s F hC hq2 hR hD2 hrb2 fun v u f1 cd=>?_
  have f2:Ones O u:=cd.one;have f3:=cd.len;have f4:∀N,gN O P C N→((∀x∈u,N x)↔InD N D2):=fun N hN=>cd.iff N hN.toB
  simp only [pwA,seval,-iQ0];exact Gh.fin0 (k1.set n2 _) (f1.bel _) (hk v u f1 f2 f3 fun N hN=>(f4 N hN).trans (hN2 N hN))
 | true=>
 simp only [pwA,seval,-iQ0];refine zCr s F hC hq2 hR hD2 hrb2 fun v u f1 cd=>?_
 have f2:Ones O u:=cd.one;have f3:=cd.len;have f4:∀N,gN O P C N→((∀x∈u,N x)↔InD N D2):=fun N hN=>cd.iff N hN.toB
 have f1':=f1;obtain⟨wu,au,ru,rfl,hru⟩:=f1;simp only [pwA,seval,-iQ0];refine zG (fun m us h'=>∃(i:Nat) (g:Bool) (rb3:List PV) (D3:List (Option (List Int))),i≤by_.length∧m=by_.length-i∧us=[.ptr sp 0,.fz wb ab by_.length rb,.ptr ss 0,.bool g,.fz wu au u.length ru,.fz wb ab by_.length rb,.int .i64 by_.length,.int .i64 i]∧h'=h1.set sb rb3∧All2 (DRow O.length) rb3 D3∧OkD O D3∧QI O P C D3 []∧(∀N,gN O P C N→(InD N D3↔∀q∈L,N q))∧free D3≤free D2∧(g=true→free D3<free D2)) by_.length ⟨0,false,rb2,D2,by omega,by omega,rfl,rfl,hrb2,hD2,hQ2,hN2,Nat.le_refl _,by simp⟩ ?_
 rintro m us h' ⟨i,g,rb3,D3,hi,rfl,rfl,rfl,hrb3,hD3,hQ3,hN3,hf3,hg3⟩
 have hq3:=q1.setB rb3;simp only [pwA,seval,-iQ0];refine iteI (fun hlt=>?_) fun hge=>?_
 rotate_left
 ·cases g with
  | true=>
   have:=hg3 rfl
   exact⟨2*free D3+1,by omega,true,rb3,D3,by simp,rfl,rfl,hrb3,hD3,hQ3,hN3⟩
  | false=>exact⟨2*free D3,by omega,false,rb3,D3,by simp,rfl,rfl,hrb3,hD3,hQ3,hN3⟩
 obtain⟨w4,a4,hr⟩:=hrb.rowI hlt;have hgi:=hb _ (List.getElem_mem hlt);simp only [pwA,seval,-iQ0,hlt,hr];refine zGR s F hq3.pg hR f1' (fun x hx=>(f2 x hx).1) (by omega) hgi ⟨w4,a4,rfl⟩ fun vc fc=>?_
 simp only [pwA,seval,-iQ0];refine zMT s F hC hp hq3 hR hD3 hrb3 hQ3 fc (fun x hx=>?_) (by rw [List.length_map];omega) fun t4 rb4 D4 hrb4 hD4 hQ4 hN4 hf4 hg4=>?_
 ·obtain⟨y,hy,rfl⟩:=List.mem_map.1 hx
  exact F.g.cnj_in (f2 y hy).1 hgi
 have hN5:∀N,gN O P C N→(InD N D4↔∀q∈L,N q):=fun N hN=>(hN4 N hN.toB).trans ⟨fun h=>(hN3 N hN).1 h.1,fun h=>⟨(hN3 N hN).2 h,fun q hq=>by
  obtain⟨y,hy,rfl⟩:=List.mem_map.1 hq;exact hN.nor ((f4 N hN).2 ((hN2 N hN).2 h) y hy) hgi⟩⟩
 have hss:(h1.set sb rb3).set sb rb4=h1.set sb rb4:=by
  simp only [PHeap.set,PHeap.mk.injEq,true_and]
  funext t
  split<;>rfl
 rw [hss];cases t4 with
 | true=>
  have:=hg4 rfl
  simp only [pwA,seval,-iQ0,wrapS hlt (by omega:by_.length≤4611686018427387904)]
  exact⟨_,by omega,i+1,true,rb4,D4,by omega,rfl,rfl,rfl,hrb4,hD4,hQ4,hN5,by omega,fun _=>by omega⟩
 | false=>
  simp only [pwA,seval,-iQ0,wrapS hlt (by omega:by_.length≤4611686018427387904)]
  exact⟨_,by omega,i+1,g,rb4,D4,by omega,rfl,rfl,rfl,hrb4,hD4,hQ4,hN5,by omega,fun h=>by have:=hg3 h;omega⟩
end Go.Proofs
namespace Go.Proofs
open Go.Ab Go.Lie
variable {σ:PHeap} {K:PV→PHeap→Prop} {p p':Int} {n:Nat} {W:List (List Int)} {B:List (List (List Int))} {vP vB vL vU vV:PV} {s:Nat}
def units (n:Nat):List (List Int):=(List.range n).map (unitL n)
theorem qj:(units n).length=n:=by simp [units]
theorem zKw {i:Nat} (h:i<n):(units n)[i]? = some (unitL n i):=by simp [units,h]
theorem zCM (hp:okp p):Els p n (units n):=fun v hv=>by
 obtain⟨i,hi,rfl⟩:=List.mem_map.1 hv;exact zR hp (List.mem_range.1 hi)
theorem zEL {i:Nat} (h:i<n):(units n).take (i+1)=(units n).take i++[unitL n i]:=by
 have hl:i<(units n).length:=by rw [qj];exact h
 have e:=zKw h;rw [List.getElem?_eq_getElem hl]at e
 rw [List.take_succ_eq_append_getElem hl,Option.some.inj e]
def brL (p:Int) (W:List (List Int)) (B:List (List (List Int))) (n:Nat) (u v:List (List Int)):List (List Int):=u.flatMap fun x=>v.map fun y=>br p W B n x y
theorem zAe (u v:List (List Int)):(brL p W B n u v).length=u.length*v.length:=by
 induction u with
 | nil=>simp [brL]
 | cons x u ih=>
  have:(brL p W B n (x::u) v)=v.map (fun y=>br p W B n x y)++brL p W B n u v:=rfl
  rw [this,List.length_append,List.length_map,ih,List.length_cons,Nat.add_mul,Nat.one_mul,Nat.add_comm]
theorem zHs (u v:List (List Int)) (x:List Int):brL p W B n (u++[x]) v=brL p W B n u v++v.map fun y=>br p W B n x y:=by
 simp [brL,List.flatMap_append]
theorem zDK (o:OkW p n W) (q:OkB p n B) (u v:List (List Int)):Els p n (brL p W B n u v):=fun z hz=>by
 obtain⟨x,hx,h⟩:=List.mem_flatMap.1 hz;obtain⟨y,hy,rfl⟩:=List.mem_map.1 h;exact br_el o q
theorem zDX (hs:PtrR σ s p vP vB) (hP:FII vP W) (hWn:W.length=n) (hn:n≤1048576) (hk:∀v,FII v (units n)→K v σ):zA Tryz.prog 141 [.ptr s 0] σ K:=by
 obtain⟨wp,ap,rp,rfl,hrp⟩:=hP;have hP1:σ.rd1 s 1=some (.fz wp ap W.length rp):=by rw [zI hs.obj];rfl
 refine zA.gh ?_;refine zC mix Tryz.func141 ?_
 conv=>arg 2;cbv
 refine zF rfl ?_;simp only [pwA,seval,-iQ0,hP1,hWn];refine zG (fun m vs h'=>∃(i:Nat) (v:PV) (rows:List PV),i≤n∧m=n-i∧vs=[.ptr s 0,v,.int .i64 n,.int .i64 i]∧Keep σ h'∧PAcc σ.next 1 h' v i rows∧All2 FI rows ((units n).take i)) n ?_ ?_
 ·exact⟨0,_,[],by omega,by omega,rfl,Keep.refl σ,PAcc.nil _ _ _,by rw [List.take_zero];exact All2.nil _⟩
 rintro m vs h' ⟨i,v,rows,hi,rfl,rfl,hkp,ha,hrows⟩
 simp only [pwA,seval,-iQ0];have hs':=hs.keep hkp;have hP2:h'.rd1 s 1=some (.fz wp ap W.length rp):=by rw [zI hs'.obj];rfl
 refine iteI (fun hlt=>?_) fun hge=>?_
 ·simp only [pwA,seval,-iQ0,hP2,hWn]
  refine zn hn hlt fun a1=>?_
  simp only [pwA,seval,-iQ0];refine PAcc.push (bytes:=24) hkp ha (by omega) (by omega) fun v' h2 k2 a2=>?_
  simp only [pwA,seval,-iQ0,wrapS hlt (by omega:n≤4611686018427387904)]
  refine⟨_,by omega,i+1,v',_,by omega,rfl,rfl,k2,a2.acc,?_⟩
  rw [zEL hlt];exact hrows.snoc ⟨true,a1,by rw [z8]⟩
 ·have hie:i=n:=by omega
  subst hie;rw [List.take_of_length_le (by rw [qj];exact Nat.le_refl _)]at hrows
  exact ha.fin hkp (hrows.bI 0) fun a=>hk _ ⟨true,a,rows,by rw [qj],hrows⟩
theorem zHr {u v:List (List Int)} (hs:PtrR σ s p vP vB) (hR:IsR vP vB W B) (o:OkW p n W) (q:OkB p n B) (hU:FII vU u) (hV:FII vV v) (eu:Els p n u) (ev:Els p n v) (hul:u.length≤6) (hvl:v.length≤12)
  (hk:∀z,FII z (brL p W B n u v)→K z σ):zA Tryz.prog 188 [.ptr s 0,vU,vV] σ K:=by
 obtain⟨wu,au,ru,rfl,hru⟩:=hU;obtain⟨wv,av,rv,rfl,hrv⟩:=hV;have bnd:∀(i j:Nat),i<u.length→j≤v.length→(brL p W B n (u.take i) v++(v.take j).map fun y=>br p W B n (u.getD i []) y).length≤84:=fun i j hi hj=>by
  rw [List.length_append,zAe,List.length_map,List.length_take,List.length_take]
  have:min i u.length*v.length≤6*12:=Nat.mul_le_mul (by omega) hvl
  omega
 refine zA.gh ?_;refine zC mix Tryz.func188 ?_
 conv=>arg 2;cbv
 refine zF rfl ?_;simp only [pwA,seval,-iQ0];refine zG (fun m vs h'=>∃(i:Nat) (z:PV) (rows:List PV),i≤u.length∧m=u.length-i∧vs=[.ptr s 0,.fz wv av v.length rv,z,.fz wu au u.length ru,.int .i64 u.length,.int .i64 i]∧Keep σ h'∧PAcc σ.next 1 h' z (brL p W B n (u.take i) v).length rows∧All2 FI rows (brL p W B n (u.take i) v)) u.length ?_ ?_
 ·exact⟨0,_,[],by omega,by omega,rfl,Keep.refl σ,PAcc.nil _ _ _,by rw [List.take_zero];exact All2.nil _⟩
 rintro m vs h' ⟨i,z,rows,hi,rfl,rfl,hkp,ha,hrows⟩
 simp only [pwA,seval,-iQ0];refine iteI (fun hlt=>?_) fun hge=>?_
 ·obtain⟨w4,a4,hr⟩:=hru.rowI hlt
  have hui:=eu _ (List.getElem_mem hlt);have hgd:u.getD i []=u[i]:=by simp [List.getD_eq_getElem?_getD,hlt]
  simp only [pwA,seval,-iQ0,hlt,hr];refine zG (fun m vs h'=>∃(j:Nat) (z:PV) (rows:List PV),j≤v.length∧m=v.length-j∧vs=[.ptr s 0,.fz wv av v.length rv,z,.fz w4 a4 u[i].length (pis u[i]),.fz wu au u.length ru,.int .i64 u.length,.int .i64 i,.fz wv av v.length rv,.int .i64 v.length,.int .i64 j]∧Keep σ h'∧
   PAcc σ.next 1 h' z (brL p W B n (u.take i) v++(v.take j).map fun y=>br p W B n (u.getD i []) y).length rows∧All2 FI rows (brL p W B n (u.take i) v++(v.take j).map fun y=>br p W B n (u.getD i []) y)) v.length ?_ ?_
  ·exact⟨0,z,rows,by omega,by omega,rfl,hkp,by simpa using ha,by simpa using hrows⟩
  clear hkp ha hrows z rows
  rintro m vs h' ⟨j,z,rows,hj,rfl,rfl,hkp,ha,hrows⟩
  simp only [pwA,seval,-iQ0];refine iteI (fun hlj=>?_) fun hgj=>?_
  ·obtain⟨w5,a5,hr5⟩:=hrv.rowI hlj
   have hvj:=ev _ (List.getElem_mem hlj);simp only [pwA,seval,-iQ0,hlj,hr5];refine qd (hs.keep hkp) hR o q hui hvj rfl rfl fun a6=>?_
   have hb:=bnd i j hlt hj;simp only [pwA,seval,-iQ0];refine PAcc.push (bytes:=24) hkp ha (by omega) (by omega) fun v' h2 k2 a2=>?_
   simp only [pwA,seval,-iQ0,wrapS hlj (by omega:v.length≤4611686018427387904)]
   have e:(brL p W B n (u.take i) v++(v.take (j+1)).map fun y=>br p W B n (u.getD i []) y)=(brL p W B n (u.take i) v++(v.take j).map fun y=>br p W B n (u.getD i []) y)++[br p W B n u[i] v[j]]:=by
    rw [List.take_succ_eq_append_getElem hlj,List.map_append,List.append_assoc,hgd];rfl
   refine⟨_,by omega,j+1,v',rows++[.fz true a6 n (pis (br p W B n u[i] v[j]))],by omega,rfl,rfl,k2,?_,?_⟩
   ·rw [e,List.length_append]
    exact a2.acc
   ·rw [e]
    exact hrows.snoc ⟨true,a6,by rw [(br_el o q).1]⟩
  ·have hje:j=v.length:=by omega
   subst hje;have e:(brL p W B n (u.take i) v++(v.take v.length).map fun y=>br p W B n (u.getD i []) y)=brL p W B n (u.take (i+1)) v:=by
    rw [List.take_length,List.take_succ_eq_append_getElem hlt,zHs,hgd]
   rw [e]at ha hrows
   simp only [pwA,seval,-iQ0,wrapS hlt (by omega:u.length≤4611686018427387904)]
   exact⟨_,by omega,i+1,z,rows,by omega,rfl,rfl,hkp,ha,hrows⟩
 ·have hie:i=u.length:=by omega
  subst hie;rw [List.take_length]at ha hrows
  exact ha.fin hkp (hrows.bI 0) fun a=>hk _ ⟨true,a,rows,rfl,hrows⟩
theorem zI5 {u v:List (List Int)} (hs:PtrR σ s p vP vB) (hR:IsR vP vB W B) (o:OkW p n W) (q:OkB p n B) (hU:FII vU u) (hV:FII vV v) (eu:Els p n u) (ev:Els p n v) (hul:u.length≤6) (hvl:v.length≤6)
  (hk:∀z,FII z (brL p W B n u v)→K z σ):zA Tryz.prog 188 [.ptr s 0,vU,vV] σ K:=zHr hs hR o q hU hV eu ev hul (by omega) hk
end Go.Proofs
namespace Go.Proofs
open Go.Ab Go.Lie
variable {σ:PHeap} {K:PV→PHeap→Prop} {p p':Int} {n:Nat} {W:List (List Int)} {B:List (List (List Int))} {vP vB vL vU vV:PV} {s:Nat}
theorem zDe (hR:IsR vP vB W B) (hWn:W.length=n) (hn:n≤1048576) (hk:∀v,FII v (units n)→K v σ):zA Tryz.prog 146 [.agg [.int .i64 p,vP,vB]] σ K:=by
 have h1:=hR.P.one;have h2:=hR.B.one;have hRR:=hR;obtain⟨⟨wp,ap,rp,rfl,hrp⟩,hB⟩:=hR;refine zA.gh ?_;refine zC mix Tryz.func146 ?_
 conv=>arg 2;cbv
 refine zF rfl ?_;simp only [pwA,seval,-iQ0,h1,h2];generalize hH:σ.new [.int .i64 p,.fz wp ap W.length rp,vB]=H;have hHn:H.next=σ.next+1:=by rw [←hH];simp only [pwA,seval,-iQ0]
 have hHk:Keep σ H:=by rw [←hH];exact zD σ _
 have hob:H.obj σ.next=some [.int .i64 p,.fz wp ap W.length rp,vB]:=by rw [←hH];simp only [pwA,seval,-iQ0]
 refine zG (fun m vs h'=>∃(i:Nat) (v:PV) (rows:List PV),i≤n∧m=n-i∧vs=[.ptr σ.next 0,v,.int .i64 i]∧Keep H h'∧PSl H.next 1 h' v i rows∧All2 FI rows ((units n).take i)) n ?_ ?_
 ·refine⟨0,_,[],by omega,by omega,rfl,zD H _,?_,by rw [List.take_zero];exact All2.nil _⟩
  rw [←hHn];exact PSl.new H.next 1 rfl (Nat.le_refl _)
 rintro m vs h' ⟨i,v,rows,hi,rfl,rfl,hkp,ha,hrows⟩
 have hob':h'.obj σ.next=some [.int .i64 p,.fz wp ap W.length rp,vB]:=by rw [hkp.obj _ (by omega)];exact hob
 have hr1:h'.rd1 σ.next 1=some (.fz wp ap W.length rp):=by rw [zI hob'];rfl
 have hr3:h'.rd σ.next 0 3=some [.int .i64 p,.fz wp ap W.length rp,vB]:=by rw [zh hob'];rfl
 simp only [pwA,seval,-iQ0,hr1,hWn];refine iteI (fun hlt=>?_) fun hge=>?_
 ·simp only [pwA,seval,-iQ0,hr3]
  refine ZA hRR hWn hn hlt fun a1=>?_
  simp only [pwA,seval,-iQ0];refine PSl.push (bytes:=24) hkp ha (by omega) (by omega) fun v' h2 k2 a2=>?_
  simp only [pwA,seval,-iQ0,wrapS hlt (by omega:n≤4611686018427387904)]
  refine⟨_,by omega,i+1,v',_,by omega,rfl,rfl,k2,a2,?_⟩
  rw [zEL hlt];exact hrows.snoc ⟨true,a1,by rw [z8]⟩
 ·have hie:i=n:=by omega
  subst hie;rw [List.take_of_length_le (by rw [qj];exact Nat.le_refl _)]at hrows
  obtain⟨s',cap,rfl,hc,q2,q3,q4,q5⟩:=ha;exact Gh.finF (hHk.trans hkp) q2 (by omega) (hrows.bI 0) hc.ok fun o1=>hk _ ⟨true,.sl o1 0 i cap,rows,by rw [qj],hrows⟩
theorem zOQ {b:Nat} {u:List (List Int)} (hb:σ.rd1 b 0=some (.ptr s 0)) (hs:PtrR σ s p vP vB) (hR:IsR vP vB W B) (o:OkW p n W) (q:OkB p n B) (hp:isP p) (hU:FII vU u) (eu:Els p n u) (hul:u.length≤6)
  (hk:∀v out,Canon p n W (brL p W B n u (units n)) out→FII v out→K v σ):zA Tryz.prog 254 [vU,.ptr b 0] σ K:=by
 have hn6:=o.le;have hUU:=hU;obtain⟨wu,au,ru,rfl,hru⟩:=hU;refine zC mix Tryz.func254 ?_
 conv=>arg 2;cbv
 refine zF rfl ?_;simp only [pwA,seval,-iQ0,hb];refine zDX hs hR.P o.len (by omega) fun vV hV=>?_
 have hVV:=hV;obtain⟨wv,av,rv,rfl,hrv⟩:=hV;simp only [pwA,seval,-iQ0,hb];refine zI5 hs hR o q hUU hVV eu (zCM o.pr) hul (by rw [qj];exact hn6) fun vZ hZ=>?_
 have hZZ:=hZ;obtain⟨wz,az,rz,rfl,hrz⟩:=hZ;have hzl:(brL p W B n u (units n)).length≤1048576:=by
  rw [zAe,qj]
  have:u.length*n≤6*6:=Nat.mul_le_mul hul hn6
  omega
 simp only [pwA,seval,-iQ0,hb];refine zKL hs hR.P o hp hZZ (zDK o q _ _) hzl fun v out hc hv=>?_
 simp only [pwA,seval,-iQ0];exact hk v out hc hv
end Go.Proofs
namespace Go.Proofs
open Go.Ab Go.Lie
variable {σ:PHeap} {K:PV→PHeap→Prop} {p p':Int} {n:Nat} {W:List (List Int)} {B:List (List (List Int))} {vP vB vL vU vV:PV} {s:Nat}
theorem zOm (o:OkW p n W) (q:OkB p n B) {a b:List Int} {k:Nat} (ha:∀j,j<k→at_ a j=0):∀j,j<k+1→at_ (br p W B n a b) j=0:=by
 have hs:∀t,t<k+1→at_ (bsum B a b n) t=0:=fun t ht=>by
  rw [bsum,bi_at q t (Nat.le_refl _)];refine qM _ fun i hi=>qM _ fun j hj=>?_
  rcases Nat.lt_or_ge (i+1+j) k with x|x
  ·rw [coef,ha i (by omega),ha _ x,Int.zero_mul,Int.zero_mul,Int.sub_zero,Int.zero_mul]
  ·rw [(q.get hi hj).2 t (by omega),Int.mul_zero]
 intro j hj;rcases Nat.lt_or_ge j n with x|x
 ·exact zAM o (qa q) (d:=min (k+1) n) (Nat.min_le_right _ _) (fun j hj=>hs j (by omega)) j (by omega)
 ·exact at_ge (by rw [(br_el o q).1];exact x)
theorem zBn (o:OkW p n W) (q:OkB p n B) {u out:List (List Int)} (hc:Canon p n W (brL p W B n u (units n)) out) {m:Nat} (hu:∀x∈u,m≤dep x):∀y∈out,m+1≤dep y:=fun y hy=>by
 have hl:=hc.base.led y hy;have hg:Gen p n W (brL p W B n u (units n)) (at_ y):=(hc.gen _).2 (ze hy);have hz:=zB4 o (m:=min (m+1) n) (zDK o q _ _) (Nat.min_le_right _ _) (fun v hv j hj=>by
  obtain⟨x,hx,h⟩:=List.mem_flatMap.1 hv;obtain⟨e,he,rfl⟩:=List.mem_map.1 h;exact zOm o q (k:=m) (fun j hj=>zg (by have:=hu x hx;omega)) j (by omega)) hl.1 hg
 have hd:=Qu (v:=y) (d:=min (m+1) n) (by rw [hl.1.1];exact Nat.min_le_right _ _) hz
 have:=hl.2.1
 omega
theorem zMe (o:OkW p n W) (q:OkB p n B) {u:List (List Int)} (hc:Canon p n W (brL p W B n u (units n)) u):u=[]:=by
 have h:∀m:Nat,∀x∈u,m≤dep x:=fun m=>by
  induction m with
  | zero=>exact fun x hx=>Nat.zero_le _
  | succ m ih=>exact zBn o q hc ih
 cases u with
 | nil=>rfl
 | cons x t=>
  have h1:=h n x (by simp)
  have h2:=(hc.base.led x (by simp)).2.1
  omega
theorem zOP (o:OkW p n W) (q:OkB p n B) {out:List (List Int)} (hc:Canon p n W (brL p W B n [] (units n)) out):out=[]:=by
 cases out with
 | nil=>rfl
 | cons y t=>
  have h1:=zBn o q hc (m:=n) (fun x hx=>by cases hx) y (by simp)
  have h2:=(hc.base.led y (by simp)).2.1
  omega
inductive Low (p:Int) (n:Nat) (W:List (List Int)) (B:List (List (List Int))):Nat→List (List Int)→Prop where
 | zero:Low p n W B 0 (units n)
 | succ {k:Nat} {u out:List (List Int)} (h:Low p n W B k u) (hc:Canon p n W (brL p W B n u (units n)) out):Low p n W B (k+1) out
theorem Low.unique (o:OkW p n W):∀{k:Nat} {u v:List (List Int)},Low p n W B k u→Low p n W B k v→u=v
 | _,_,_,.zero,.zero=>rfl
 | _,_,_,.succ h hc,.succ h' hc'=>by
  have:=Low.unique o h h'
  subst this;exact hc.unique o hc'
theorem Low.els (o:OkW p n W):∀{k:Nat} {u:List (List Int)},Low p n W B k u→Els p n u∧u.length≤n
 | _,_,.zero=>⟨zCM o.pr,by rw [qj];exact Nat.le_refl _⟩
 | _,_,.succ _ hc=>⟨hc.base.els,Qw (fun v hv=>(hc.base.led v hv).2.1) hc.base.asc⟩
theorem Low.dep (o:OkW p n W) (q:OkB p n B):∀{k:Nat} {u:List (List Int)},Low p n W B k u→∀x∈u,k≤Go.Lie.dep x
 | _,_,.zero=>fun x hx=>Nat.zero_le _
 | _,_,.succ h hc=>zBn o q hc (Low.dep o q h)
theorem Low.le (o:OkW p n W) (q:OkB p n B) {k:Nat} {u:List (List Int)} (h:Low p n W B k u) (hu:u≠[]):k≤n:=by
 cases u with
 | nil=>exact absurd rfl hu
 | cons x t=>
  have h1:=h.dep o q x (by simp)
  have h2:=QB x;have h3:=((h.els o).1 x (by simp)).1
  omega
def Cls (p:Int) (n:Nat) (W:List (List Int)) (B:List (List (List Int))) (c:Nat):Prop:=Low p n W B c []∧∀k u,k<c→Low p n W B k u→u≠[]
theorem Cls.unique {c d:Nat} (h:Cls p n W B c) (g:Cls p n W B d):c=d:=by
 rcases Nat.lt_trichotomy c d with x|x|x
 ·exact absurd rfl (g.2 c _ x h.1)
 ·exact x
 ·exact absurd rfl (h.2 d _ x g.1)
theorem zPD:okF Tryz.prog 277=true:=by kernel_rfl
theorem zH6 {xs ys:List (List Int)} (hU:FII vU xs) (hV:FII vV ys) (hx:xs.length≤1048576) (hxl:∀x∈xs,x.length≤1048576) (hk:∀t:Bool,(t=true↔xs=ys)→K (.bool t) σ):
  zA Tryz.prog 276 [vU,vV,.clo 277 [] []] σ K:=by
 have fl:∀{A:Prop},¬A→((false=true)↔A):=fun h=>⟨fun x=>(by cases x),fun x=>absurd x h⟩
 obtain⟨wu,au,ru,rfl,hru⟩:=hU;obtain⟨wv,av,rv,rfl,hrv⟩:=hV;refine zC mix Tryz.func276 ?_
 conv=>arg 2;cbv
 refine zF rfl ?_
 by_cases hl:xs.length=ys.length
 ·simp only [pwA,seval,-iQ0,hl]
  refine zG (fun m vs h'=>∃i:Nat,i≤ys.length∧m=ys.length-i∧vs=[.fz wv av ys.length rv,.clo 277 [] [],.fz wu au ys.length ru,.int .i64 ys.length,.int .i64 i]∧σ=h'∧xs.take i=ys.take i) ys.length ?_ ?_
  ·exact⟨0,by omega,by omega,rfl,rfl,by simp⟩
  rintro m vs h' ⟨i,hi,rfl,rfl,rfl,heq⟩
  simp only [pwA,seval,-iQ0];refine iteI (fun hlt=>?_) fun hge=>?_
  ·have hlx:i<xs.length:=by omega
   obtain⟨w4,a4,hr⟩:=hru.rowI hlx;obtain⟨w5,a5,hr5⟩:=hrv.rowI hlt;simp only [pwA,seval,-iQ0,hlt,hr,hr5];refine⟨zPD,zAC rfl rfl (by have:=hxl _ (List.getElem_mem hlx);omega) ?_⟩
   by_cases he:xs[i]=ys[i]
   ·simp only [pwA,seval,-iQ0,he,wrapS hlt (by omega:ys.length≤4611686018427387904)]
    exact⟨_,by omega,i+1,by omega,rfl,rfl,zPS hl hlx heq he⟩
   ·simp only [pwA,seval,-iQ0,he]
    refine hk _ (fl fun e=>?_)
    subst e;exact he rfl
  ·have hie:i=ys.length:=by omega
   subst hie;refine hk _ ⟨fun _=>?_,fun _=>rfl⟩
   rw [List.take_of_length_le (by omega),List.take_of_length_le (Nat.le_refl _)]at heq
   exact heq
 ·have hlI:((xs.length:Int)=(ys.length:Int))=False:=by simp;omega
  simp only [pwA,seval,-iQ0,hlI];exact hk _ (fl fun e=>hl (by rw [e]))
theorem zDa {xs ys:List (List Int)} (hU:FII vU xs) (hV:FII vV ys) (hx:xs.length≤1048576) (hxl:∀x∈xs,x.length≤1048576) (hk:∀t:Bool,(t=true↔xs=ys)→K (.bool t) σ):
  zA Tryz.prog 187 [vU,vV] σ K:=by
 refine zC mix Tryz.func187 ?_
 conv=>arg 2;cbv
 refine zF rfl ?_;simp only [pwA,seval,-iQ0];refine zH6 hU hV hx hxl fun t ht=>?_
 simp only [pwA,seval,-iQ0];exact hk t ht
end Go.Proofs
namespace Go.Grp
end Go.Grp
namespace Go.Proofs
open Go.Ab Go.Lie Go.Grp
variable {σ:PHeap} {K:PV→PHeap→Prop} {O:List Int} {P:List (List Int)} {C:List (List (List Int))} {vO vP vC vx vy vL vU vV vB vg:PV} {x y z f a b g:List Int} {L u v z':List (List Int)} {rP rC rb:List PV} {D:List (Option (List Int))} {d j sp ss sb n:Nat}
theorem isCen.cent (s:Shp O P C) (h:isCen O C):Cent O C:=fun i j hij hj=>by
 obtain⟨_,h2⟩:=h i (by omega)
 have hc:=s.cj i j hij hj;have h3:=h2 (j-i-1) (by omega)
 unfold cenE at h3
 rw [show i+(1+(j-i-1))=j by omega]at h3
 refine⟨⟨hc.len,hc.bd,fun t ht=>?_⟩,h3.1⟩
 have hl:t<(cvec C i j).length:=by rw [hc.len];omega
 rw [at_eq hl];exact h3.2 _ (by rw [List.mem_take_iff_getElem];exact⟨t,by omega,rfl⟩)
theorem zH9 (i:Nat):((List.range (i+1)).map (Grp.unit O))=((List.range i).map (Grp.unit O))++[Grp.unit O i]:=by
 rw [List.range_succ,List.map_append];rfl
theorem zGO (s:Shp O P C) (hs:PtrG σ sp vO vP vC) (hR:IsPr vO vP vC O P C) (hk:∀v,FII v (ZQ O)→K v σ):zA Tryz.prog 227 [.ptr sp 0] σ K:=by
 have hn6:=s.le;obtain⟨⟨w0,a0,rfl⟩,_,_⟩:=hR;have e0:∀{h:PHeap},Keep σ h→h.rd1 sp 0=some (.fz w0 a0 O.length (pis O)):=fun k=>by rw [zI (hs.keep k).obj];rfl
 refine zA.gh ?_;refine zC mix Tryz.func227 ?_
 conv=>arg 2;cbv
 refine zF rfl ?_;simp only [pwA,seval,-iQ0,e0 (Keep.refl σ)];refine zG (fun m vs h'=>∃(i:Nat) (v:PV) (rows:List PV),i≤O.length∧m=O.length-i∧vs=[.ptr sp 0,v,.int .i64 O.length,.int .i64 i]∧Keep σ h'∧PAcc σ.next 1 h' v i rows∧All2 FI rows ((List.range i).map (Grp.unit O))) O.length ?_ ?_
 ·exact⟨0,_,[],by omega,by omega,rfl,Keep.refl σ,PAcc.nil _ _ _,All2.nil _⟩
 rintro m vs h' ⟨i,v,rows,hi,rfl,rfl,hkp,ha,hall⟩
 simp only [pwA,seval,-iQ0];refine iteI (fun hlt=>?_) fun hge=>?_
 rotate_left
 ·have hie:i=O.length:=by omega
  subst hie;exact ha.fin hkp (hall.bI 0) fun a=>hk _ ⟨true,a,rows,by unfold ZQ;rw [List.length_map,List.length_range],hall⟩
 have hlt':i<O.length:=by omega
 simp only [pwA,seval,-iQ0,e0 hkp];refine zn (by omega) hlt' fun a1=>?_
 simp only [pwA,seval,-iQ0];refine PAcc.push (bytes:=24) hkp ha (by omega) (by omega) fun v' h2 k2 a2=>?_
 simp only [pwA,seval,-iQ0,wrapS hlt' (by omega:O.length≤4611686018427387904)]
 refine⟨_,by omega,i+1,v',_,by omega,rfl,rfl,k2,a2.acc,?_⟩
 rw [zH9];exact hall.snoc ⟨true,a1,by simp;rfl⟩
theorem zGX (s:Shp O P C) (hs:PtrG σ sp vO vP vC) (hR:IsPr vO vP vC O P C) (hk:∀v,FII v (ZQ O)→K v σ):zA Tryz.prog 255 [.ptr sp 0] σ K:=by
 refine zC mix Tryz.func255 ?_
 conv=>arg 2;cbv
 refine zF rfl ?_;simp only [pwA,seval,-iQ0];refine zGO s hs hR fun v hv=>?_
 simp only [pwA,seval,-iQ0];exact hk v hv
theorem zBj (s:Shp O P C) (F:Full O P C O.length) (hC:Cent O C) (hp:∀o∈O,isP o) (hs:PtrG σ sp vO vP vC) (hR:IsPr vO vP vC O P C) (hU:FII vU u) (hu:∀x∈u,gS O x) (hul:u.length≤100) (hV:FII vV v) (hv:∀x∈v,gS O x) (hvl:v.length≤100)
  (hk:∀w z,FII w z→Ones O z→z.length≤O.length→(∀N,gN O P C N→((∀x∈z,N x)↔∀x∈u,∀y∈v,N (gcom O P C x y)))→K w σ):zA Tryz.prog 257 [.ptr sp 0,vU,vV] σ K:=by
 have hn6:=s.le;have G:=F.g;have hUU:=hU;have hVV:=hV;obtain⟨wu,au,ru,rfl,hru⟩:=hU;obtain⟨wv,av,rv,rfl,hrv⟩:=hV;refine zA.gh ?_;refine zC mix Tryz.func257 ?_
 conv=>arg 2;cbv
 refine zF rfl ?_;simp only [pwA,seval,-iQ0];refine zG (fun m vs h'=>∃(i:Nat) (vA:PV) (rows:List PV) (E:List (List Int)),i≤u.length∧m=u.length-i∧vs=[.ptr sp 0,.fz wu au u.length ru,.fz wv av v.length rv,vA,.fz wu au u.length ru,.int .i64 u.length,.int .i64 i]∧Keep σ h'∧PAcc σ.next 1 h' vA E.length rows∧All2 FI rows E∧(∀x∈E,gS O x)∧E.length≤i*v.length∧∀N,gN O P C N→((∀e∈E,N e)↔∀x∈u.take i,∀y∈v,N (gcom O P C x y))) u.length ?_ ?_
 ·exact⟨0,_,[],[],by omega,by omega,rfl,Keep.refl σ,PAcc.nil _ _ _,All2.nil _,by simp,by simp,fun N hN=>by simp⟩
 rintro m vs h' ⟨i,vA,rows,E,hi,rfl,rfl,hkp,ha,hall,hE,hEl,hEN⟩
 have hil:i*v.length≤100*100:=Nat.mul_le_mul (by omega) hvl
 simp only [pwA,seval,-iQ0];refine iteI (fun hlt=>?_) fun hge=>?_
 rotate_left
 ·have hie:i=u.length:=by omega
  subst hie;rw [List.take_length]at hEN
  have hkn:=hkp.next;simp only [pwA,seval,-iQ0];refine zA.frz (s:=h'.next) (cs:=[.fz wu au u.length ru,.fz wv av v.length rv]) (by simp only [pwA,seval,-iQ0]) ⟨trivial,trivial,trivial⟩ fun o1=>?_
  simp only [pwA,seval,-iQ0];simp only [sbs,Go.Ab.sb,capOK,decide_true,Nat.le_refl,and_self,if_true];refine zKs (M:=[ru,rv]) ⟨rfl,fun k c r hc hr=>?_⟩ ?_ (by simp) (by simp [hru.1,hrv.1];omega) fun ac=>?_
  ·match k with
   | 0=>cases hc;cases hr;exact⟨wu,au,by rw [hru.1]⟩
   | 1=>cases hc;cases hr;exact⟨wv,av,by rw [hrv.1]⟩
   | k+2=>simp at hc
  ·intro c hc
   simp only [List.mem_cons,List.not_mem_nil,or_false]at hc
   rcases hc with rfl|rfl
   ·exact hru.bI 0
   ·exact hrv.bI 0
  have hfl:[ru,rv].flatten=ru++rv:=by simp
  have hrr:All2 FI (ru++rv) (u++v):=hru.append hrv;have hkk:Keep σ ((h'.new [.fz wu au u.length ru,.fz wv av v.length rv]).kill h'.next):=(hkp.new _).kill hkn;have hB:FII (.fz true ac (ru++rv).length (ru++rv)) (u++v):=⟨true,ac,_,by rw [hrr.1],hrr⟩
  have hbb:∀x∈u++v,gS O x:=fun x hx=>(List.mem_append.1 hx).elim (hu x) (hv x)
  rw [hfl];simp only [pwA,seval,-iQ0];rcases ha with ⟨rfl,h0,rfl⟩|⟨t,cap,rfl,hc1,q2,q3,q4,q5⟩
  ·obtain rfl:E=[]:=List.eq_nil_of_length_eq_zero h0
   refine zE2 s F hC hp (hs.keep hkk) hR ⟨true,.nils,[],rfl,hall⟩ hE (by simp) hB hbb (by rw [List.length_append];omega) fun w z f1 f2 f3 f4=>?_
   simp only [pwA,seval,-iQ0];exact Gh.fin0 hkk (f1.bel _) (hk w z f1 f2 f3 fun N hN=>(f4 N hN).trans (hEN N hN))
  ·have hne:¬t=h'.next:=by omega
   refine zA.frz (s:=t) (cs:=rows) (by simp only [pwA,seval,-iQ0,hne];exact q2) (hall.bI 0) fun o2=>?_
   simp only [sbs,Go.Ab.sb,hc1.ok,and_self,if_true];refine zE2 s F hC hp (hs.keep (hkk.kill q4)) hR (L:=E) ⟨true,_,rows,rfl,hall⟩ hE (by omega) hB hbb (by rw [List.length_append];omega) fun w z f1 f2 f3 f4=>?_
   simp only [pwA,seval,-iQ0];exact Gh.fin0 (hkk.kill q4) (f1.bel _) (hk w z f1 f2 f3 fun N hN=>(f4 N hN).trans (hEN N hN))
 obtain⟨w4,a4,hr⟩:=hru.rowI hlt;have hui:=hu _ (List.getElem_mem hlt);simp only [pwA,seval,-iQ0,hlt,hr];refine zG (fun m vs h2=>∃(q:Nat) (vA:PV) (rows:List PV) (E:List (List Int)),q≤v.length∧m=v.length-q∧vs=[.ptr sp 0,.fz wu au u.length ru,.fz wv av v.length rv,vA,.fz w4 a4 u[i].length (pis u[i]),.fz wu au u.length ru,.int .i64 u.length,.int .i64 i,.fz wv av v.length rv,.int .i64 v.length,.int .i64 q]∧Keep σ h2∧PAcc σ.next 1 h2 vA E.length rows∧All2 FI rows E∧(∀x∈E,gS O x)∧E.length≤i*v.length+q∧∀N,gN O P C N→((∀e∈E,N e)↔((∀x∈u.take i,∀y∈v,N (gcom O P C x y))∧∀y∈v.take q,N (gcom O P C u[i] y)))) v.length ?_ ?_
 ·exact⟨0,vA,rows,E,by omega,by omega,rfl,hkp,ha,hall,hE,hEl,fun N hN=>(hEN N hN).trans (by simp)⟩
 clear hkp ha hall hE hEl hEN rows E vA
 rintro m vs h2 ⟨q,vA,rows,E,hq,rfl,rfl,hkp,ha,hall,hE,hEl,hEN⟩
 simp only [pwA,seval,-iQ0];refine iteI (fun hltq=>?_) fun hgeq=>?_
 rotate_left
 ·have hqe:q=v.length:=by omega
  subst hqe;rw [List.take_length]at hEN
  simp only [pwA,seval,-iQ0,wrapS hlt (by omega:u.length≤4611686018427387904)]
  refine⟨_,by omega,i+1,vA,rows,E,by omega,rfl,rfl,hkp,ha,hall,hE,by rw [Nat.succ_mul];exact hEl,fun N hN=>(hEN N hN).trans ?_⟩
  rw [List.take_succ_eq_append_getElem hlt];simp only [List.mem_append,List.mem_singleton];exact⟨fun⟨h1,h2⟩ x hx y hy=>hx.elim (fun h=>h1 x h y hy) (fun h=>by rw [h];exact h2 y hy),fun h=>⟨fun x hx y hy=>h x (.inl hx) y hy,fun y hy=>h _ (.inr rfl) y hy⟩⟩
 obtain⟨w5,a5,hr5⟩:=hrv.rowI hltq;have hvq:=hv _ (List.getElem_mem hltq);simp only [pwA,seval,-iQ0,hltq,hr5];refine zCI s F (hs.keep hkp) hR hui hvq ⟨w4,a4,rfl⟩ ⟨w5,a5,rfl⟩ fun vc fc=>?_
 have fc':=fc;obtain⟨wc,ac,rfl⟩:=fc;simp only [pwA,seval,-iQ0];refine PAcc.push (bytes:=24) hkp ha (by omega) (by omega) fun v' h3 k3 a3=>?_
 simp only [pwA,seval,-iQ0,wrapS hltq (by omega:v.length≤4611686018427387904)]
 refine⟨_,by omega,q+1,v',rows++[.fz wc ac (gcom O P C u[i] v[q]).length (pis (gcom O P C u[i] v[q]))],E++[gcom O P C u[i] v[q]],by omega,rfl,rfl,k3,by rw [List.length_append];exact a3.acc,hall.snoc fc',fun x hx=>?_,by rw [List.length_append,List.length_singleton];omega,fun N hN=>?_⟩
 ·rcases List.mem_append.1 hx with hx | hx
  ·exact hE x hx
  ·rw [List.mem_singleton.1 hx];exact G.com_in hui hvq
 ·rw [List.take_succ_eq_append_getElem hltq]
  simp only [List.mem_append,List.mem_singleton]
  have:=hEN N hN
  constructor
  ·intro h
   obtain⟨h1,h2⟩:=this.1 fun e he=>h e (.inl he)
   exact⟨h1,fun y hy=>hy.elim (h2 y) (fun e=>by rw [e];exact h _ (.inr rfl))⟩
  ·rintro ⟨h1,h2⟩ e he
   rcases he with he|he
   ·exact this.2 ⟨h1,fun y hy=>h2 y (.inl hy)⟩ e he
   ·rw [he];exact h2 _ (.inr rfl)
theorem zLm (hz:Ones O z') (s:Shp O P C) (hN:∀N,gN O P C N→((∀x∈z',N x)↔∀x∈u,∀y∈ZQ O,N (gcom O P C x y))):SStep O P C u z':=by
 refine⟨fun x hx=>⟨(hz x hx).1,zMM s (hz x hx).2.1⟩,fun x=>?_⟩
 have e:∀N,gN O P C N→((∀l,memL z' l→N l)↔∀l,cs O P C (memL u) l→N l):=fun N h=>(hN N h).trans ⟨fun h1 l hl=>by
  obtain⟨x,i,hx,hi,rfl⟩:=hl;exact h1 x hx _ (List.mem_map.2 ⟨i,List.mem_range.2 hi,rfl⟩),fun h1 x hx y hy=>by
  obtain⟨i,hi,rfl⟩:=List.mem_map.1 hy;exact h1 _ ⟨x,i,hx,List.mem_range.1 hi,rfl⟩⟩
 exact⟨fun h N h1 h2=>h N h1 ((e N h1).2 h2),fun h N h1 h2=>h N h1 ((e N h1).1 h2)⟩
end Go.Proofs
namespace Go.Grp
end Go.Grp
namespace Go.Proofs
open Go.Ab Go.Lie Go.Grp
variable {σ:PHeap} {K:PV→PHeap→Prop} {O:List Int} {P:List (List Int)} {C:List (List (List Int))} {vO vP vC vx vy vL vU vV vB vg:PV} {x y z f a b g:List Int} {L u v z':List (List Int)} {rP rC rb:List PV} {d j sp ss sb n:Nat}
theorem okFlc:okF Tryz.prog 256=true:=by kernel_rfl
theorem zNJ {b:Nat} (s:Shp O P C) (F:Full O P C O.length) (hC:Cent O C) (hp:∀o∈O,isP o) (hb:σ.rd1 b 0=some (.ptr sp 0)) (hs:PtrG σ sp vO vP vC) (hR:IsPr vO vP vC O P C) (hU:FII vU u) (hu:∀x∈u,gS O x) (hul:u.length≤100)
  (hk:∀w z,FII w z→z.length≤O.length→SStep O P C u z→K w σ):zA Tryz.prog 256 [vU,.ptr b 0] σ K:=by
 have hn6:=s.le;have hUU:=hU;obtain⟨wu,au,ru,rfl,hru⟩:=hU;refine zC mix Tryz.func256 ?_
 conv=>arg 2;cbv
 refine zF rfl ?_;simp only [pwA,seval,-iQ0,hb];refine zGX s hs hR fun vW hW=>?_
 have hWW:=hW;obtain⟨ww,aw,rw_,rfl,hrw⟩:=hW;simp only [pwA,seval,-iQ0,hb];refine zBj s F hC hp hs hR hUU hu hul hWW (fun x hx=>(zA6 s F x hx).1) (by unfold ZQ;simp;omega) fun w z f1 f2 f3 f4=>?_
 simp only [pwA,seval,-iQ0];exact hk w z f1 f3 (zLm f2 s f4)
theorem zMd {b:Nat} (s:Shp O P C) (F:Full O P C O.length) (hC:Cent O C) (hp:∀o∈O,isP o) (hb:σ.obj b=some [.ptr sp 0]) (hbl:b<σ.next) (hs:PtrG σ sp vO vP vC) (hR:IsPr vO vP vC O P C) (hU:FII vU (ZQ O))
  (hk:∀c a rows,(Lc O P C c=[]∧c≤O.length∧∀j,j<c→Lc O P C j≠[])→K (.fz true a (c+1) rows) σ):zA Tryz.prog 253 [vU,.clo 256 [] [.ptr b 0]] σ K:=by
 have hn6:=s.le;have h1:=hU.one;have h1c:=hU.cells;refine zA.gh ?_;refine zC mix Tryz.func253 ?_
 conv=>arg 2;cbv
 refine zF rfl ?_;simp only [pwA,seval,-iQ0,h1,h1c];refine zG (fun m vs h'=>∃k u us rows v,m=O.length+1-k∧k≤O.length∧vs=[.clo 256 [] [.ptr b 0],v]∧Keep σ h'∧PSl σ.next 1 h' v (k+1) rows∧All2 FII rows us∧us.length=k+1∧us[k]? = some u∧SRel O P C u (Lc O P C k)∧u.length≤6∧∀j,j<k→Lc O P C j≠[]) (O.length+1) ?_ ?_
 ·exact⟨0,ZQ O,[ZQ O],[vU],_,by omega,by omega,rfl,zD σ _,PSl.new _ 1 rfl (Nat.le_refl _),All2.nil _ |>.snoc hU,rfl,rfl,SRel.start s F,by unfold ZQ;simp;omega,fun j hj=>by omega⟩
 rintro m vs h' ⟨k,u,us,rows,v,rfl,hkn,rfl,hkp,ha,hall,hul,huk,hrel,hu6,hbef⟩
 obtain⟨s',cap,rfl,hc,q2,q3,q4,q5⟩:=ha;have hku:k<us.length:=by omega
 obtain⟨vk,hvk,hFk⟩:=hall.get hku;have huk':us[k]=u:=by rw [List.getElem?_eq_getElem hku]at huk;exact Option.some.inj huk
 rw [huk']at hFk
 have hrd:h'.rd1 s' k=some vk:=by rw [zI q2];exact hvk
 have hw:IntKind.i64.wrap (((k+1:Nat):Int)-1)=(k:Int):=by rw [wrap64 (by omega) (by omega)];omega
 have hkk:k<k+1:=Nat.lt_succ_self k;have hb':h'.rd1 b 0=some (.ptr sp 0):=by rw [zI (by rw [hkp.obj b hbl];exact hb)];rfl
 have hFF:=hFk;obtain⟨wk,ak,rk,rfl,hrk⟩:=hFk;simp only [pwA,seval,-iQ0,hw,hkk,hrd];refine⟨okFlc,zNJ s F hC hp hb' (hs.keep hkp) hR hFF (fun x hx=>(hrel.ou x hx).1) (by omega) fun vo out hFo hol hst=>?_⟩
 have hFFo:=hFo;obtain⟨wo,ao,ro,rfl,hro⟩:=hFo;have hnx:=SRel.step s F hrel hst;simp only [pwA,seval,-iQ0,hw,hkk,hrd];refine zDa hFFo hFF (by omega) (fun x hx=>by rw [(hst.ok x hx).1.len];omega) fun t ht=>?_
 cases t
 ·have hne:out≠u:=fun e=>by have:=ht.2 e;cases this
  have hLk:Lc O P C k≠[]:=fun e=>by
   have hu0:=(SRel.nil s F hrel).2 e
   have:out=[]:=(SRel.nil s F hnx).2 (by rw [e];rfl)
   exact hne (by rw [this,hu0])
  have hkn':=Lc_lt s F hC hLk hkn;simp only [pwA,seval,-iQ0];refine PSl.push (bytes:=24) (σb:=σ) hkp ⟨s',cap,rfl,hc,q2,q3,q4,q5⟩ (by omega) (by omega) fun v2 h2 k2 a2=>?_
  simp only [pwA,seval,-iQ0];refine⟨_,?_,k+1,out,us++[out],_,v2,rfl,by omega,rfl,k2,a2,hall.snoc hFFo,by rw [List.length_append,hul];rfl,?_,hnx,by omega,fun j hj=>?_⟩
  ·omega
  ·rw [List.getElem?_append_right (by omega),hul,Nat.sub_self];rfl
  ·by_cases x:j=k
   ·subst x;exact hLk
   ·exact hbef j (by omega)
 ·obtain rfl:out=u:=ht.1 rfl
  have hu0:=SRel.stop s F hC hrel hst;simp only [pwA,seval,-iQ0];exact Gh.finF hkp q2 q4 (hall.bL 0) hc.ok fun o1=>hk k _ _ ⟨(SRel.nil s F hrel).1 hu0,hkn,hbef⟩
theorem zEg (s:Shp O P C) (F:Full O P C O.length) (hC:Cent O C) (hp:∀o∈O,isP o) (hs:PtrG σ sp vO vP vC) (hR:IsPr vO vP vC O P C) (hk:∀c a rows,(Lc O P C c=[]∧c≤O.length∧∀j,j<c→Lc O P C j≠[])→K (.fz true a (c+1) rows) σ):zA Tryz.prog 165 [.ptr sp 0] σ K:=by
 refine zA.gh ?_;refine zC mix Tryz.func165 ?_
 conv=>arg 2;cbv
 refine zF rfl ?_;simp only [pwA,seval,-iQ0];have hs1:=hs.new [.ptr sp 0];refine zGX s hs1 hR fun vV hV=>?_
 have hVV:=hV;obtain⟨wv,av,rv,rfl,hrv⟩:=hV;simp only [pwA,seval,-iQ0];refine zMd (b:=σ.next) s F hC hp (by simp only [pwA,seval,-iQ0]) (by simp only [pwA,seval,-iQ0]) hs1 hR hVV fun c a rows hc=>?_
 simp only [pwA,seval,-iQ0];exact Gh.fin0 (zD σ _) trivial (hk c a rows hc)
def clsOk (O:List Int) (P:List (List Int)) (C:List (List (List Int))):Prop:=O=[]∨∃k:Nat,(k:Int)<at_ O 0∧Lc O P C k=[]
def isLG (O:List Int) (P:List (List Int)) (C:List (List (List Int))):Prop:=((qf O P C∧Cons O P C)∧isCen O C)∧clsOk O P C
theorem Cons.full (s:Shp O P C) (hc:Cons O P C):Full O P C O.length:=full_of s (Nat.le_refl _) fun j _ h=>hc j h
theorem qf.isp (h:qf O P C):∀o∈O,isP o:=h.2.2.2.1
theorem zD2 (h:qf O P C) (hc:Cons O P C) (hs:PtrG σ sp vO vP vC) (hR:IsPr vO vP vC O P C) (hk:∀t:Bool,(t=true↔isCen O C∧clsOk O P C)→K (.bool t) σ):zA Tryz.prog 125 [.ptr sp 0] σ K:=by
 have fl:∀{A:Prop},¬A→((false=true)↔A):=fun h=>⟨fun x=>(by cases x),fun x=>absurd x h⟩
 have s:=h.shp;have hn6:=s.le;have F:=Cons.full s hc;have hR0:=hR;obtain⟨⟨w0,a0,rfl⟩,_,_⟩:=hR;have e0:σ.rd1 sp 0=some (.fz w0 a0 O.length (pis O)):=by rw [zI hs.obj];rfl
 refine zC mix Tryz.func125 ?_
 conv=>arg 2;cbv
 refine zF rfl ?_;simp only [pwA,seval,-iQ0];refine zHP s hs hR0 fun t ht=>?_
 cases t with
 | false=>
  simp only [pwA,seval,-iQ0];exact hk _ (fl fun h=>by cases ht.2 h.1)
 | true=>
 have hcen:=ht.1 rfl;simp only [pwA,seval,-iQ0];refine zEg s F (hcen.cent s) h.isp hs hR0 fun c a rows ⟨h1,h2,h3⟩=>?_
 by_cases hO:O.length=0
 ·have hOn:O=[]:=List.eq_nil_of_length_eq_zero hO
  have hOI:((O.length:Int)=0)=True:=eq_true (by omega)
  simp only [pwA,seval,-iQ0,e0,hOI];exact hk _ ⟨fun _=>⟨hcen,.inl hOn⟩,fun _=>rfl⟩
 ·have hw:IntKind.i64.wrap (((c+1:Nat):Int)-1)=(c:Int):=by rw [wrap64 (by omega) (by omega)];omega
  have h0:0<O.length:=by omega
  have h0I:(0:Int)<(O.length:Int):=by omega
  have hO':¬(O.length:Int)=0:=by omega
  simp only [pwA,seval,-iQ0,e0,hO,hO',hw,h0,h0I,pisAt h0];refine hk _ ?_;rw [decide_eq_true_iff];constructor
  ·intro h;exact⟨hcen,.inr ⟨c,h,h1⟩⟩
  ·rintro ⟨_,h | ⟨k,hk1,hk2⟩⟩
   ·rw [h]at h0;simp at h0
   ·rcases Nat.lt_or_ge k c with x | x
    ·exact absurd hk2 (h3 k x)
    ·omega
theorem zEI (hR:IsPr vO vP vC O P C) (sz:SzP O P C) (hk:∀t:Bool,(t=true↔isLG O P C)→K (.bool t) σ):zA Tryz.prog 41 [.agg [vO,vP,vC]] σ K:=by
 have h0:=hR.O.one;have h1:=hR.P.one;have h2:=hR.C.one;have fl:∀{A:Prop},¬A→((false=true)↔A):=fun h=>⟨fun x=>(by cases x),fun x=>absurd x h⟩
 refine zA.gh ?_;have hpt:PtrG (σ.new [vO,vP,vC]) σ.next vO vP vC:=⟨by simp only [pwA,seval,-iQ0],by simp only [pwA,seval,-iQ0]⟩
 refine zC mix Tryz.func41 ?_
 conv=>arg 2;cbv
 refine zF rfl ?_;simp only [pwA,seval,-iQ0,h0,h1,h2];refine Qy hR sz fun t ht=>?_
 cases t with
 | false=>
  simp only [pwA,seval,-iQ0];exact Gh.fin0 (zD σ _) trivial (hk _ (fl fun h=>by cases ht.2 h.1.1))
 | true=>
 have hp:=ht.1 rfl;simp only [pwA,seval,-iQ0];refine zD2 hp.1 hp.2 hpt hR fun r hr=>?_
 simp only [pwA,seval,-iQ0];exact Gh.fin0 (zD σ _) trivial (hk _ ⟨fun h=>⟨⟨hp,(hr.1 h).1⟩,(hr.1 h).2⟩,fun h=>hr.2 ⟨h.1.2,h.2⟩⟩)
end Go.Proofs
namespace Go.Proofs
open Go.Ab Go.Lie
variable {σ:PHeap} {K:PV→PHeap→Prop} {p p':Int} {n:Nat} {W:List (List Int)} {B:List (List (List Int))} {vP vB vL vU vV:PV} {s:Nat}
theorem zPC:okF Tryz.prog 254=true:=by kernel_rfl
theorem zK0 {b:Nat} (hb:σ.obj b=some [.ptr s 0]) (hbl:b<σ.next) (hs:PtrR σ s p vP vB) (hR:IsR vP vB W B) (o:OkW p n W) (q:OkB p n B) (hp:isP p) (hU:FII vU (units n))
  (hk:∀c a rows,Cls p n W B c→K (.fz true a (c+1) rows) σ):zA Tryz.prog 253 [vU,.clo 254 [] [.ptr b 0]] σ K:=by
 have hn6:=o.le;have h1:=hU.one;have h1c:=hU.cells;refine zA.gh ?_;refine zC mix Tryz.func253 ?_
 conv=>arg 2;cbv
 refine zF rfl ?_;simp only [pwA,seval,-iQ0,h1,h1c];refine zG (fun m vs h'=>∃k u us rows v,m=n+1-k∧k≤n+1∧vs=[.clo 254 [] [.ptr b 0],v]∧Keep σ h'∧PSl σ.next 1 h' v (k+1) rows∧All2 FII rows us∧us.length=k+1∧us[k]? = some u∧Low p n W B k u∧∀j u',j<k→Low p n W B j u'→u'≠[]) (n+1) ?_ ?_
 ·exact⟨0,units n,[units n],[vU],_,by omega,by omega,rfl,zD σ _,PSl.new _ 1 rfl (Nat.le_refl _),All2.nil _ |>.snoc hU,rfl,rfl,.zero,fun j u' hj=>by omega⟩
 rintro m vs h' ⟨k,u,us,rows,v,rfl,hkn,rfl,hkp,ha,hall,hul,huk,hlow,hbef⟩
 obtain⟨s',cap,rfl,hc,q2,q3,q4,q5⟩:=ha;have hku:k<us.length:=by omega
 obtain⟨vk,hvk,hFk⟩:=hall.get hku;have huk':us[k]=u:=by rw [List.getElem?_eq_getElem hku]at huk;exact Option.some.inj huk
 rw [huk']at hFk
 have hrd:h'.rd1 s' k=some vk:=by rw [zI q2];exact hvk
 have hw:IntKind.i64.wrap (((k+1:Nat):Int)-1)=(k:Int):=by rw [wrap64 (by omega) (by omega)];omega
 have hkk:k<k+1:=Nat.lt_succ_self k;obtain⟨e1,e2⟩:=hlow.els o;have hb':h'.rd1 b 0=some (.ptr s 0):=by rw [zI (by rw [hkp.obj b hbl];exact hb)];rfl
 have hFF:=hFk;obtain⟨wk,ak,rk,rfl,hrk⟩:=hFk;simp only [pwA,seval,-iQ0,hw,hkk,hrd];refine⟨zPC,zOQ hb' (hs.keep hkp) hR o q hp hFF e1 (by omega) fun vo out hcan hFo=>?_⟩
 have hFFo:=hFo;obtain⟨wo,ao,ro,rfl,hro⟩:=hFo;have hol:out.length≤n:=Qw (fun v hv=>(hcan.base.led v hv).2.1) hcan.base.asc
 simp only [pwA,seval,-iQ0,hw,hkk,hrd];refine zDa hFFo hFF (by omega) (fun x hx=>by rw [(hcan.base.els x hx).1];omega) fun t ht=>?_
 cases t
 ·have hne:out≠u:=fun e=>by have:=ht.2 e;cases this
  have hune:u≠[]:=fun e=>by
   subst e;exact hne (zOP o q hcan)
  have hkn':=hlow.le o q hune;simp only [pwA,seval,-iQ0];refine PSl.push (bytes:=24) (σb:=σ) hkp ⟨s',cap,rfl,hc,q2,q3,q4,q5⟩ (by omega) (by omega) fun v2 h2 k2 a2=>?_
  simp only [pwA,seval,-iQ0];refine⟨_,?_,k+1,out,us++[out],_,v2,rfl,by omega,rfl,k2,a2,hall.snoc hFFo,by rw [List.length_append,hul];rfl,?_,.succ hlow hcan,fun j u' hj hl=>?_⟩
  ·omega
  ·rw [List.getElem?_append_right (by omega),hul,Nat.sub_self];rfl
  ·by_cases x:j=k
   ·subst x
    rw [hl.unique o hlow];exact hune
   ·exact hbef j u' (by omega) hl
 ·obtain rfl:out=u:=ht.1 rfl
  obtain rfl:out=[]:=zMe o q hcan;simp only [pwA,seval,-iQ0];exact Gh.finF hkp q2 q4 (hall.bL 0) hc.ok fun o1=>hk k _ _ ⟨hlow,hbef⟩
theorem zIi (hs:PtrR σ s p vP vB) (hR:IsR vP vB W B) (o:OkW p n W) (q:OkB p n B) (hp:isP p) (hk:∀c a rows,Cls p n W B c→K (.fz true a (c+1) rows) σ):zA Tryz.prog 164 [.ptr s 0] σ K:=by
 have hn6:=o.le;refine zA.gh ?_;refine zC mix Tryz.func164 ?_
 conv=>arg 2;cbv
 refine zF rfl ?_;simp only [pwA,seval,-iQ0];have hs1:=hs.new [.ptr s 0];refine zDX hs1 hR.P o.len (by omega) fun vV hV=>?_
 have hVV:=hV;obtain⟨wv,av,rv,rfl,hrv⟩:=hV;simp only [pwA,seval,-iQ0];refine zK0 (b:=σ.next) (by simp only [pwA,seval,-iQ0]) (by simp only [pwA,seval,-iQ0]) hs1 hR o q hp hVV fun c a rows hc=>?_
 simp only [pwA,seval,-iQ0];exact Gh.fin0 (zD σ _) trivial (hk c a rows hc)
def isLz (p:Int) (n:Nat) (W:List (List Int)) (B:List (List (List Int))):Prop:=∃c,Cls p n W B c∧(c:Int)<p
theorem zLo {c:Nat} (h:Cls p n W B c):isLz p n W B↔(c:Int)<p:=⟨fun⟨d,h1,h2⟩=>by rw [h.unique h1];exact h2,fun e=>⟨c,h,e⟩⟩
theorem zIy (hs:PtrR σ s p vP vB) (hR:IsR vP vB W B) (o:OkW p n W) (q:OkB p n B) (hp:isP p) (hk:∀t:Bool,(t=true↔isLz p n W B)→K (.bool t) σ):zA Tryz.prog 92 [.ptr s 0] σ K:=by
 have hn6:=o.le;have hp0:σ.rd1 s 0=some (.int .i64 p):=by rw [zI hs.obj];rfl
 refine zC mix Tryz.func92 ?_
 conv=>arg 2;cbv
 refine zF rfl ?_;simp only [pwA,seval,-iQ0,hp0];refine zIi hs hR o q hp fun c a rows hc=>?_
 have hcn:c≤n+1:=by
  rcases Nat.lt_or_ge n c with x|x
  ·obtain⟨c',rfl⟩:∃c',c=c'+1:=⟨c-1,by omega⟩
   obtain⟨h1,h2⟩:=hc;cases h1 with
   | succ h hcan=>exact Nat.succ_le_succ (h.le o q (h2 _ _ (Nat.lt_succ_self _) h))
  ·omega
 have hw:IntKind.i64.wrap (((c+1:Nat):Int)-1)=(c:Int):=by rw [wrap64 (by omega) (by omega)];omega
 simp only [pwA,seval,-iQ0,hw];refine⟨hp0,hk _ ?_⟩;rw [zLo hc,decide_eq_true_eq]
end Go.Proofs
namespace Go.Proofs
open Go.Ab Go.Lie
variable {σ:PHeap} {K:PV→PHeap→Prop} {p p':Int} {n:Nat} {W:List (List Int)} {B:List (List (List Int))} {vP vB vL vU vV:PV} {s:Nat}
theorem zFa {u v:List (List Int)} (hR:IsR vP vB W B) (o:OkW p n W) (q:OkB p n B) (hp:isP p) (hU:FII vU u) (hV:FII vV v) (eu:Els p n u) (ev:Els p n v) (hul:u.length≤6) (hvl:v.length≤6)
  (hk:∀z out,Canon p n W (brL p W B n u v) out→FII z out→K z σ):zA Tryz.prog 85 [.agg [.int .i64 p,vP,vB],vU,vV] σ K:=by
 have h1:=hR.P.one;have h2:=hR.B.one;obtain⟨wu,au,ru,rfl,hru⟩:=hU;obtain⟨wv,av,rv,rfl,hrv⟩:=hV;have bnd:∀(i j:Nat),i<u.length→j≤v.length→(brL p W B n (u.take i) v++(v.take j).map fun y=>br p W B n (u.getD i []) y).length≤42:=fun i j hi hj=>by
  rw [List.length_append,zAe,List.length_map,List.length_take,List.length_take]
  have:min i u.length*v.length≤6*6:=Nat.mul_le_mul (by omega) hvl
  omega
 refine zA.gh ?_;refine zC mix Tryz.func85 ?_
 conv=>arg 2;cbv
 refine zF rfl ?_;simp only [pwA,seval,-iQ0,h1,h2];generalize hH:σ.new [.int .i64 p,vP,vB]=H;have hHn:H.next=σ.next+1:=by rw [←hH];simp only [pwA,seval,-iQ0]
 have hHk:Keep σ H:=by rw [←hH];exact zD σ _
 have hob:H.obj σ.next=some [.int .i64 p,vP,vB]:=by rw [←hH];simp only [pwA,seval,-iQ0]
 refine zG (fun m vs h'=>∃(i:Nat) (z:PV) (rows:List PV),i≤u.length∧m=u.length-i∧vs=[.fz wu au u.length ru,.fz wv av v.length rv,.ptr σ.next 0,z,.int .i64 i]∧Keep H h'∧PSl H.next 1 h' z (brL p W B n (u.take i) v).length rows∧All2 FI rows (brL p W B n (u.take i) v)) u.length ?_ ?_
 ·refine⟨0,_,[],by omega,by omega,rfl,zD H _,?_,by rw [List.take_zero];exact All2.nil _⟩
  rw [←hHn];exact PSl.new H.next 1 rfl (Nat.le_refl _)
 rintro m vs h' ⟨i,z,rows,hi,rfl,rfl,hkp,ha,hrows⟩
 simp only [pwA,seval,-iQ0];refine iteI (fun hlt=>?_) fun hge=>?_
 ·obtain⟨w4,a4,hr⟩:=hru.rowI hlt
  have hui:=eu _ (List.getElem_mem hlt);have hgd:u.getD i []=u[i]:=by simp [List.getD_eq_getElem?_getD,hlt]
  refine zG (fun m vs h'=>∃(j:Nat) (z:PV) (rows:List PV),j≤v.length∧m=v.length-j∧vs=[.fz wu au u.length ru,.fz wv av v.length rv,.ptr σ.next 0,z,.int .i64 i,.int .i64 j]∧Keep H h'∧
   PSl H.next 1 h' z (brL p W B n (u.take i) v++(v.take j).map fun y=>br p W B n (u.getD i []) y).length rows∧All2 FI rows (brL p W B n (u.take i) v++(v.take j).map fun y=>br p W B n (u.getD i []) y)) v.length ?_ ?_
  ·exact⟨0,z,rows,by omega,by omega,rfl,hkp,by simpa using ha,by simpa using hrows⟩
  clear hkp ha hrows z rows
  rintro m vs h' ⟨j,z,rows,hj,rfl,rfl,hkp,ha,hrows⟩
  have hob':h'.obj σ.next=some [.int .i64 p,vP,vB]:=by rw [hkp.obj _ (by omega)];exact hob
  have hr3:h'.rd σ.next 0 3=some [.int .i64 p,vP,vB]:=by rw [zh hob'];rfl
  simp only [pwA,seval,-iQ0];refine iteI (fun hlj=>?_) fun hgj=>?_
  ·obtain⟨w5,a5,hr5⟩:=hrv.rowI hlj
   have hvj:=ev _ (List.getElem_mem hlj);simp only [pwA,seval,-iQ0,hlj,hr5,hlt,hr,hr3];refine qF hR o q hui hvj rfl rfl fun a6=>?_
   have hb:=bnd i j hlt hj;simp only [pwA,seval,-iQ0];refine PSl.push (bytes:=24) hkp ha (by omega) (by omega) fun v' h2 k2 a2=>?_
   simp only [pwA,seval,-iQ0,wrapS hlj (by omega:v.length≤4611686018427387904)]
   have e:(brL p W B n (u.take i) v++(v.take (j+1)).map fun y=>br p W B n (u.getD i []) y)=(brL p W B n (u.take i) v++(v.take j).map fun y=>br p W B n (u.getD i []) y)++[br p W B n u[i] v[j]]:=by
    rw [List.take_succ_eq_append_getElem hlj,List.map_append,List.append_assoc,hgd];rfl
   refine⟨_,by omega,j+1,v',rows++[.fz true a6 n (pis (br p W B n u[i] v[j]))],by omega,rfl,rfl,k2,?_,?_⟩
   ·rw [e,List.length_append]
    exact a2
   ·rw [e]
    exact hrows.snoc ⟨true,a6,by rw [(br_el o q).1]⟩
  ·have hje:j=v.length:=by omega
   subst hje;have e:(brL p W B n (u.take i) v++(v.take v.length).map fun y=>br p W B n (u.getD i []) y)=brL p W B n (u.take (i+1)) v:=by
    rw [List.take_length,List.take_succ_eq_append_getElem hlt,zHs,hgd]
   rw [e]at ha hrows
   simp only [pwA,seval,-iQ0,wrapS hlt (by omega:u.length≤4611686018427387904)]
   exact⟨_,by omega,i+1,z,rows,by omega,rfl,rfl,hkp,ha,hrows⟩
 ·have hie:i=u.length:=by omega
  subst hie;rw [List.take_length]at ha hrows
  obtain⟨s',cap,rfl,hc,q2,q3,q4,q5⟩:=ha;have hob':h'.obj σ.next=some [.int .i64 p,vP,vB]:=by rw [hkp.obj _ (by omega)];exact hob
  have hr3:h'.rd σ.next 0 3=some [.int .i64 p,vP,vB]:=by rw [zh hob'];rfl
  simp only [pwA,seval,-iQ0,hr3];refine zA.frz q2 (hrows.bI 0) fun o1=>?_
  have hl:(brL p W B n u v).length≤1048576:=by
   rw [zAe]
   have:u.length*v.length≤6*6:=Nat.mul_le_mul hul hvl
   omega
  obtain⟨⟨wp,ap,rp,rfl,hrp⟩,wb,ab,rb,rfl,hrb⟩:=hR;simp only [sbs,sb,hc.ok,and_self,if_true];refine zKQ ⟨⟨wp,ap,rp,rfl,hrp⟩,wb,ab,rb,rfl,hrb⟩ o hp ⟨true,_,rows,rfl,hrows⟩ (zDK o q _ _) hl fun z out hcan hz=>?_
  obtain⟨wz,az,rz,rfl,hrz⟩:=hz;simp only [pwA,seval,-iQ0];exact Gh.fin0 ((hHk.trans hkp).kill (by omega)) trivial (hk _ out hcan ⟨wz,az,rz,rfl,hrz⟩)
theorem zIm (hR:IsR vP vB W B) (o:OkW p n W) (q:OkB p n B) (hp:isP p) (hk:∀c a rows,Cls p n W B c→K (.fz true a (c+1) rows) σ):zA Tryz.prog 269 [.agg [.int .i64 p,vP,vB]] σ K:=by
 have hn6:=o.le;have h1:=hR.P.one;have h2:=hR.B.one;refine zA.gh ?_;refine zC mix Tryz.func269 ?_
 conv=>arg 2;cbv
 refine zF rfl ?_;simp only [pwA,seval,-iQ0,h1,h2];generalize hH:σ.new [.int .i64 p,vP,vB]=H;have hHn:H.next=σ.next+1:=by rw [←hH];simp only [pwA,seval,-iQ0]
 have hHk:Keep σ H:=by rw [←hH];exact zD σ _
 have hob:H.obj σ.next=some [.int .i64 p,vP,vB]:=by rw [←hH];simp only [pwA,seval,-iQ0]
 refine zDe hR o.len (by omega) fun vV hV=>?_
 have hVV:=hV;obtain⟨wv,av,rv,rfl,hrv⟩:=hV;simp only [pwA,seval,-iQ0];refine zG (fun m vs h'=>∃k u us rows v vU,m=n+1-k∧k≤n+1∧vs=[.ptr σ.next 0,vU,v]∧Keep H h'∧PSl H.next 1 h' v (k+1) rows∧All2 FII rows us∧us.length=k+1∧FII vU u∧Low p n W B k u∧∀j u',j<k→Low p n W B j u'→u'≠[]) (n+1) ?_ ?_
 ·refine⟨0,units n,[units n],[_],_,_,by omega,by omega,rfl,zD H _,PSl.new _ 1 rfl (Nat.le_refl _),All2.nil _ |>.snoc hVV,rfl,hVV,.zero,fun j u' hj=>by omega⟩
 rintro m vs h' ⟨k,u,us,rows,v,vU,rfl,hkn,rfl,hkp,ha,hall,hul,hFU,hlow,hbef⟩
 have hob':h'.obj σ.next=some [.int .i64 p,vP,vB]:=by rw [hkp.obj _ (by omega)];exact hob
 have hr3:h'.rd σ.next 0 3=some [.int .i64 p,vP,vB]:=by rw [zh hob'];rfl
 obtain⟨e1,e2⟩:=hlow.els o;have hFF:=hFU;obtain⟨wk,ak,rk,rfl,hrk⟩:=hFU
 by_cases hu:u=[]
 ·subst hu
  obtain⟨s',cap,rfl,hc,q2,q3,q4,q5⟩:=ha;simp only [pwA,seval,-iQ0,List.length_nil];exact Gh.finF (hHk.trans hkp) q2 (by omega) (hall.bL 0) hc.ok fun o1=>hk k _ _ ⟨hlow,hbef⟩
 ·have hkn':=hlow.le o q hu
  have hpos:(0:Int)<(u.length:Int):=by
   have:0<u.length:=List.length_pos_iff.2 hu
   omega
  simp only [pwA,seval,-iQ0,hpos,hr3];refine zDe hR o.len (by omega) fun vW hW=>?_
  have hWW:=hW;obtain⟨ww,aw,rw',rfl,hrw⟩:=hW;simp only [pwA,seval,-iQ0,hr3];refine zFa hR o q hp hFF hWW e1 (zCM o.pr) (by omega) (by rw [qj];omega) fun z out hcan hz=>?_
  have hzz:=hz;obtain⟨wz,az,rz,rfl,hrz⟩:=hz;simp only [pwA,seval,-iQ0,hr3];refine PSl.push (bytes:=24) hkp ha (by omega) (by omega) fun v2 h2 k2 a2=>?_
  simp only [pwA,seval,-iQ0];refine⟨_,?_,k+1,out,us++[out],_,v2,_,rfl,by omega,rfl,k2,a2,hall.snoc hzz,by rw [List.length_append,hul];rfl,hzz,.succ hlow hcan,fun j u' hj hl=>?_⟩
  ·omega
  ·by_cases x:j=k
   ·subst x
    rw [hl.unique o hlow];exact hu
   ·exact hbef j u' (by omega) hl
end Go.Proofs
namespace Go.Proofs
open Go.Ab Go.Lie
variable {σ:PHeap} {K:PV→PHeap→Prop} {p p':Int} {n:Nat} {W:List (List Int)} {B:List (List (List Int))} {vP vB vL vU vV:PV} {s:Nat}
theorem Cls.le (o:OkW p n W) (q:OkB p n B) {c:Nat} (hc:Cls p n W B c):c≤n+1:=by
 rcases Nat.lt_or_ge n c with x|x
 ·obtain⟨c',rfl⟩:∃c',c=c'+1:=⟨c-1,by omega⟩
  obtain⟨h1,h2⟩:=hc;cases h1 with
  | succ h hcan=>exact Nat.succ_le_succ (h.le o q (h2 _ _ (Nat.lt_succ_self _) h))
 ·omega
theorem zIn (hR:IsR vP vB W B) (o:OkW p n W) (q:OkB p n B) (hp:isP p) (hk:∀c:Nat,Cls p n W B c→K (.int .i64 c) σ):zA Tryz.prog 174 [.agg [.int .i64 p,vP,vB]] σ K:=by
 have hn6:=o.le;have h1:=hR.P.one;have h2:=hR.B.one;refine zA.gh ?_;refine zC mix Tryz.func174 ?_
 conv=>arg 2;cbv
 refine zF rfl ?_;simp only [pwA,seval,-iQ0,h1,h2];refine zIm hR o q hp fun c a rows hc=>?_
 have hcn:=hc.le o q;have hw:IntKind.i64.wrap (((c+1:Nat):Int)-1)=(c:Int):=by rw [wrap64 (by omega) (by omega)];omega
 simp only [pwA,seval,-iQ0,hw];exact Gh.fin0 (zD σ _) trivial (hk c hc)
theorem zHF (hR:IsR vP vB W B) (o:OkW p n W) (q:OkB p n B) (hp:isP p) (hk:∀t:Bool,(t=true↔isLz p n W B)→K (.bool t) σ):zA Tryz.prog 83 [.agg [.int .i64 p,vP,vB]] σ K:=by
 have h1:=hR.P.one;have h2:=hR.B.one;refine zA.gh ?_;refine zC mix Tryz.func83 ?_
 conv=>arg 2;cbv
 refine zF rfl ?_;simp only [pwA,seval,-iQ0,h1,h2];refine zIn hR o q hp fun c hc=>?_
 simp only [pwA,seval,-iQ0,h1,h2];refine Gh.fin0 (zD σ _) trivial (hk _ ?_);rw [zLo hc,decide_eq_true_eq]
end Go.Proofs
namespace Go.Proofs
open Go.Ab Go.Lie
variable {σ:PHeap} {K:PV→PHeap→Prop}
structure EucI (m a r nx x y:Int):Prop where
 cof:∃s u v:Int,(s=1∨s=-1)∧0≤u∧u≤m∧0≤v∧x=s*u∧y=-s*v∧r*v+nx*u=m
 pos:0<r∧r≤m∧0≤nx∧nx<r
 xa:∃t,x*a=r+t*m
 ya:∃t,y*a=nx+t*m
 dm:∃c d,m=c*r+d*nx
 da:∃c d,a=c*r+d*nx
theorem zCe {a b m:Int} (ha:1≤a) (hb:0≤b) (h:a*b≤m):b≤m:=by
 have:=Int.mul_le_mul_of_nonneg_right ha hb
 omega
theorem EucI.start {m a:Int} (h1:0≤a) (h2:a<m):EucI m a m a 0 1 where
 cof:=⟨-1,0,1,.inr rfl,by omega,by omega,by omega,by omega,by omega,by omega⟩
 pos:=by omega
 xa:=⟨-1,by omega⟩
 ya:=⟨0,by omega⟩
 dm:=⟨1,0,by omega⟩
 da:=⟨0,1,by omega⟩
theorem EucI.step {m a r nx x y:Int} (h:EucI m a r nx x y) (hn:nx≠0):EucI m a nx (r-r / nx*nx) y (x-r / nx*y)∧
  (-m≤x∧x≤m∧-m≤y∧y≤m∧-m≤r / nx*y∧r / nx*y≤m∧0≤r / nx∧r / nx≤m∧0≤r / nx*nx∧r / nx*nx≤m∧-m≤x-r / nx*y∧x-r / nx*y≤m):=by
 obtain⟨s,u,v,hs,hu,hum,hv,hx,hy,he⟩:=h.cof;obtain⟨p1,p2,p3,p5⟩:=h.pos;obtain⟨tx,hxa⟩:=h.xa;obtain⟨ty,hya⟩:=h.ya;obtain⟨cm,dm,hdm⟩:=h.dm;obtain⟨ca,da,hda⟩:=h.da;have hq0:0≤r / nx:=Int.ediv_nonneg (by omega) p3
 have e1:=Int.emod_nonneg r hn;have e2:=Int.emod_lt_of_pos r (show 0<nx by omega)
 have e3:r % nx=r-r / nx*nx:=by have:=Int.mul_ediv_add_emod r nx;rw [Int.mul_comm];omega
 generalize r / nx=q at *
 rw [e3]at e1 e2
 have hqv:0≤q*v:=Int.mul_nonneg hq0 hv;have hqn:0≤q*nx:=Int.mul_nonneg hq0 p3;have k1:nx*(u+q*v)+(r-q*nx)*v=m:=by grind
 have k2:0≤(r-q*nx)*v:=Int.mul_nonneg e1 hv;have k3:u+q*v≤m:=zCe (a:=nx) (by omega) (by omega) (by omega)
 have k4:0≤nx*u:=Int.mul_nonneg p3 hu;have k5:v≤m:=zCe (a:=r) (by omega) hv (by omega)
 have k6:q≤m:=zCe (a:=nx) (by omega) hq0 (by rw [Int.mul_comm];omega)
 refine⟨⟨⟨-s,v,u+q*v,by omega,hv,k5,by omega,by grind,by grind,by omega⟩,by omega,⟨ty,hya⟩,⟨tx-q*ty,by grind⟩,⟨dm+cm*q,cm,by grind⟩,⟨da+ca*q,ca,by grind⟩⟩,?_⟩
 have k7:q*y=-s*(q*v):=by grind
 have k8:x-q*y=s*(u+q*v):=by grind
 rcases hs with rfl|rfl<;>omega
theorem zIz {a m:Int} (ha:0≤a) (ham:a<m) (hm:m≤1000000) (hk:∀(x:Int) (b:Bool),0≤x→x<m→((∃z w:Int,a*z=1+w*m)→∃t,a*x=1+t*m)→K (.tup [.int .i64 x,.bool b]) σ):zA Tryz.prog 203 [.int .i64 a,.int .i64 m] σ K:=by
 refine zC mix Tryz.func203 ?_
 conv=>arg 2;cbv
 refine zF rfl ?_;simp only [pwA,seval,-iQ0];refine zG (fun k vs h'=>∃r nx x y:Int,k=nx.toNat∧vs=[.int .i64 m,.int .i64 r,.int .i64 nx,.int .i64 x,.int .i64 y]∧σ=h'∧EucI m a r nx x y) a.toNat ?_ ?_
 ·exact⟨m,a,0,1,rfl,rfl,rfl,EucI.start ha ham⟩
 rintro k vs h' ⟨r,nx,x,y,rfl,rfl,rfl,hI⟩
 obtain⟨p1,p2,p3,p5⟩:=hI.pos
 by_cases h0:nx=0
 ·subst h0
  simp only [pwA,seval,-iQ0];refine zBp (by omega) (by omega) ?_
  simp only [pwA,seval,-iQ0];refine hk _ _ (Int.emod_nonneg _ (by omega)) (Int.emod_lt_of_pos _ (by omega)) fun⟨z,w,hz⟩=>?_
  obtain⟨tx,hxa⟩:=hI.xa;obtain⟨cm,dm,hdm⟩:=hI.dm;obtain⟨ca,da,hda⟩:=hI.da;have e:r*(ca*z-w*cm)=1:=by grind
  have hr1:r=1:=by
   have hd:r∣1:=⟨_,e.symm⟩
   have:=Int.le_of_dvd (by omega) hd
   omega
  have em:=Int.mul_ediv_add_emod x m;exact⟨tx-a*(x / m),by grind⟩
 ·obtain⟨hI',b⟩:=hI.step h0
  have ht:r.tdiv nx=r / nx:=Int.tdiv_eq_ediv_of_nonneg (by omega)
  obtain⟨p1',p2',p3',p5'⟩:=hI'.pos;simp only [pwA,seval,-iQ0,h0,ht,wrap64 (n:=r / nx) (by omega) (by omega),wrap64 (n:=r / nx*nx) (by omega) (by omega),wrap64 (n:=r / nx*y) (by omega) (by omega),wrap64 (n:=r-r / nx*nx) (by omega) (by omega),wrap64 (n:=x-r / nx*y) (by omega) (by omega)]
  exact⟨_,by omega,_,_,_,_,rfl,rfl,hI'⟩
end Go.Proofs
namespace Go.Grp
end Go.Grp
namespace Go.Proofs
open Go.Ab Go.Lie Go.Grp
variable {σ:PHeap} {K:PV→PHeap→Prop} {O:List Int} {P:List (List Int)} {C:List (List (List Int))} {vO vP vC vx vy vz:PV} {x y z:List Int} {d j sp n:Nat}
structure LG (O:List Int) (P:List (List Int)) (C:List (List (List Int))):Prop where
 pr:qf O P C
 co:Cons O P C
 ce:isCen O C
theorem LG.s (g:LG O P C):Shp O P C:=g.pr.shp
theorem LG.F (g:LG O P C):Full O P C O.length:=Cons.full g.s g.co
theorem LG.cent (g:LG O P C):Cent O C:=g.ce.cent g.s
theorem LG.eq (g:LG O P C) {i:Nat} (hi:i<O.length):at_ O i=at_ O 0:=(g.ce i hi).1
theorem LG.isp (g:LG O P C) (h:0<O.length):isP (at_ O 0):=by rw [at_eq h];exact g.pr.isp _ (List.getElem_mem h)
theorem zCT {p:Int}:∀{O:List Int},(∀o∈O,o=p)→prodL O=p ^ O.length
 | [],_=>by simp [prodL]
 | o::O,h=>by
  rw [prodL,zCT fun o ho=>h o (List.mem_cons_of_mem _ ho),h o (by simp),List.length_cons,Int.pow_succ,Int.mul_comm]
theorem LG.bound (g:LG O P C) {i:Nat} (h0:0<O.length) (hi:i≤O.length):1≤at_ O 0 ^ i∧at_ O 0 ^ i≤729:=by
 have hp:=(g.isp h0).bd;have h1:prodL O=at_ O 0 ^ O.length:=zCT fun o ho=>by
  obtain⟨k,hk,rfl⟩:=List.mem_iff_getElem.1 ho
  have:=g.eq hk
  rwa [at_eq hk]at this
 have h2:=g.pr.2.2.2.2.1;rw [h1]at h2
 have h3:(1:Int)≤at_ O 0 ^ i:=Int.pow_pos (by omega)
 have h4:(1:Int)≤at_ O 0 ^ (O.length-i):=Int.pow_pos (by omega)
 have h5:at_ O 0 ^ O.length=at_ O 0 ^ i*at_ O 0 ^ (O.length-i):=by rw [←Int.pow_add];congr 1;omega
 have h6:at_ O 0 ^ i*1≤at_ O 0 ^ i*at_ O 0 ^ (O.length-i):=Int.mul_le_mul_of_nonneg_left h4 (by omega)
 exact⟨h3,by omega⟩
end Go.Proofs
namespace Go.Grp
end Go.Grp
namespace Go.Proofs
open Go.Ab Go.Lie Go.Grp
variable {σ:PHeap} {K:PV→PHeap→Prop} {O:List Int} {P:List (List Int)} {C:List (List (List Int))} {vO vP vC vx vy vz vL:PV} {x y z:List Int} {xs:List (List Int)} {d j sp n:Nat}
theorem zAB (hs:PtrG σ sp vO vP vC) (hR:IsPr vO vP vC O P C) (sz:SzP O P C) (hL:FII vL xs) (szL:SzL xs) (hk:∀t:Bool,(t=true↔(qf O P C∧Cons O P C)∧∀x∈xs,isExp O x)→K (.bool t) σ):zA Tryz.prog 126 [.ptr sp 0,vL] σ K:=by
 have fl:∀{A:Prop},¬A→((false=true)↔A):=fun h=>⟨fun x=>(by cases x),fun x=>absurd x h⟩
 have r3:σ.rd sp 0 3=some [vO,vP,vC]:=by rw [zh hs.obj];rfl
 have hxl:=szL.l;obtain⟨wl,al,rl,rfl,hrl⟩:=hL;refine zC mix Tryz.func126 ?_
 conv=>arg 2;cbv
 refine zF rfl ?_;simp only [pwA,seval,-iQ0,r3];refine Qy hR sz fun t ht=>?_
 cases t with
 | false=>
  simp only [pwA,seval,-iQ0];exact hk _ (fl fun h=>by cases ht.2 h.1)
 | true=>
 have hp:=ht.1 rfl;simp only [pwA,seval,-iQ0];refine zG (fun m us h'=>∃i:Nat,i≤xs.length∧m=xs.length-i∧us=[.ptr sp 0,.fz wl al xs.length rl,.int .i64 xs.length,.int .i64 i]∧σ=h'∧∀x∈xs.take i,isExp O x) xs.length ⟨0,by omega,by omega,rfl,rfl,by simp⟩ ?_
 rintro m us h' ⟨i,hi,rfl,rfl,rfl,hall⟩
 simp only [pwA,seval,-iQ0];refine iteI (fun hlt=>?_) fun hge=>?_
 rotate_left
 ·have hie:i=xs.length:=by omega
  subst hie;rw [List.take_length]at hall
  exact hk _ ⟨fun _=>⟨hp,hall⟩,fun _=>rfl⟩
 obtain⟨w4,a4,hr⟩:=hrl.rowI hlt;have hxi:=szL.r _ (List.getElem_mem hlt);simp only [pwA,seval,-iQ0,hlt,hr];refine zBd hs hR.O (by have:=hp.1.1;omega) hp.1.isp ⟨w4,a4,rfl⟩ hxi fun t ht=>?_
 cases t with
 | false=>
  simp only [pwA,seval,-iQ0];exact hk _ (fl fun h=>by cases ht.2 (h.2 _ (List.getElem_mem hlt)))
 | true=>
 have h1:=ht.1 rfl;simp only [pwA,seval,-iQ0,wrapS hlt (by omega:xs.length≤4611686018427387904)]
 refine⟨_,by omega,i+1,by omega,rfl,rfl,fun x hx=>?_⟩
 rw [List.take_succ_eq_append_getElem hlt,List.mem_append,List.mem_singleton]at hx
 rcases hx with hx|hx
 ·exact hall x hx
 ·rw [hx];exact h1
end Go.Proofs
