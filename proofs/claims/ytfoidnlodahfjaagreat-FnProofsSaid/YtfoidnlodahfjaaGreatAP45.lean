/- A list of bytes that a law is handed, laid as a frozen value. -/
import Derived.Test.YtfoidnlodahfjaaGreatAP44
import Derived.Test.YtfoidnlodahfjaaGreatAP29
import Derived.Test.YtfoidnlodahfjaaGreatAP28
import Derived.Test.YtfoidnlodahfjaaGreatAAbPn
import Derived.Test.YtfoidnlodahfjaaGreatAP31
import Derived.Test.YtfoidnlodahfjaaGreatAP36
import Derived.Test.YtfoidnlodahfjaaGreatAP33
import Derived.Test.YtfoidnlodahfjaaGreatAP42
open Int renaming reduceNatCast'→iQ0
set_option maxRecDepth 100000
namespace Go.Grp
end Go.Grp
set_option linter.unusedSimpArgs false
set_option linter.unusedVariables false
namespace Go.Proofs
open Go.Ab Go.Lie Go.Grp
variable {σ h hE:PHeap} {K:PV→PHeap→Prop} {O x:List Int} {P:List (List Int)} {C:List (List (List Int))} {vO vP vC vx vL vU:PV} {L u:List (List Int)} {sp:Nat}
def MRes (O:List Int) (P:List (List Int)) (C:List (List (List Int))) (L:List (List Int)) (x:List Int) (k:Int) (G:List Pre) (Z:List (List Int)) (c:Int):Prop:=
 (¬OutG O P C L x∧(k=0∧G=[]∧Z=[])∧c=1)∨(OutG O P C L x∧¬GC O P C L x∧(k=0∧G=[]∧Z=[])∧c=4)∨
 (OutG O P C L x∧∃m w,Fnd O P C L x m∧(stt O P C L m).2[m]? = some w∧((64<w.length∧(k=0∧G=[]∧Z=[])∧c=3)∨(w.length≤64∧(k=2∧G=[(O,P,C)]∧Z=[x,w]++L)∧c=0)))
theorem MRes.unique {k k' c c':Int} {G G':List Pre} {Z Z':List (List Int)} (h:MRes O P C L x k G Z c) (g:MRes O P C L x k' G' Z' c'):(k=k'∧G=G'∧Z=Z')∧c=c':=by
 have mem:∀{m:Nat},OutG O P C L x→Fnd O P C L x m→GC O P C L x:=fun o f=>f.mem o.lg.s o.lg.F o.gs
 rcases h with ⟨a1,⟨rfl,rfl,rfl⟩,rfl⟩|⟨a1,a2,⟨rfl,rfl,rfl⟩,rfl⟩|⟨a1,m,w,f,hw,hh⟩<;>
 rcases g with ⟨b1,⟨rfl,rfl,rfl⟩,rfl⟩|⟨b1,b2,⟨rfl,rfl,rfl⟩,rfl⟩|⟨b1,m',w',f',hw',gg⟩
 ·exact⟨⟨rfl,rfl,rfl⟩,rfl⟩
 ·exact absurd b1 a1
 ·exact absurd b1 a1
 ·exact absurd a1 b1
 ·exact⟨⟨rfl,rfl,rfl⟩,rfl⟩
 ·exact absurd (mem b1 f') a2
 ·exact absurd a1 b1
 ·exact absurd (mem a1 f) b2
 ·obtain rfl:=f.unique f'
  rw [hw]at hw'
  cases hw';rcases hh with ⟨l1,⟨rfl,rfl,rfl⟩,rfl⟩|⟨l1,⟨rfl,rfl,rfl⟩,rfl⟩<;>rcases gg with ⟨l2,⟨rfl,rfl,rfl⟩,rfl⟩|⟨l2,⟨rfl,rfl,rfl⟩,rfl⟩
  ·exact⟨⟨rfl,rfl,rfl⟩,rfl⟩
  ·omega
  ·omega
  ·exact⟨⟨rfl,rfl,rfl⟩,rfl⟩
theorem zJK {hE:PHeap} {g:Nat} {wO wP wC vL:PV} {L:List (List Int)} (kk:Keep σ hE) (hg:hE.obj g=some [wO,wP,wC]) (h0:σ.next≤g) (hq:IsPr wO wP wC O P C) (fL:FII vL L)
  (k:∀o,σ.top≤o→o∉qK [wO,wP,wC]→o∉addrs vL→σ.top≤max hE.top (o+1)→K (.tup [.agg [.int .i64 2,.fz true (.sl o 0 1 (.known 1)) 1 [wO,wP,wC],vL],.int .i64 0]) (σ.up (max hE.top (o+1)))):Gh σ K (.tup [.agg [.int .i64 2,.sl g 0 1 (.known 1),vL],.int .i64 0]) hE:=by
 refine Gh.freeze (s:=g) (cs:=[wO,wP,wC]) hg h0 ⟨hq.O.bel 0,hq.P.bel 0,hq.C.bel 0,trivial⟩ fun o ho hc hv=>?_
 have sL:sb g o [wO,wP,wC] vL=vL:=fL.sb _ _ _;simp only [sb,sbs,sL,capOK,and_self,if_true,decide_true,Nat.le_refl];have hv':o∉addrs vL:=by
  simp only [addrs,qK,List.nil_append,List.append_nil]at hv
  exact hv
 exact Gh.fin0T (t:=max hE.top (o+1)) ((kk.kill h0).up (by simp only [PHeap.kill];omega)) (Nat.le_refl _) ⟨⟨trivial,trivial,fL.bel _,trivial⟩,trivial,trivial⟩ fun _=>k o ho hc hv' (by have:=kk.top;omega)
theorem zLH {vl wO wP wC:PV} {rows:List PV} {M:List (List Int)} {g m:Nat} (kk:Keep σ hE) (a:PSl σ.next 1 hE vl m rows) (hg:hE.obj g=some [wO,wP,wC]) (hg0:σ.next≤g) (n2:∀off l c,vl≠.sl g off l c) (hq:IsPr wO wP wC O P C) (hr:All2 FI rows M) (hm:m=M.length)
  (k:∀vG vL t,FG vG [(O,P,C)]→FII vL M→σ.top≤t→(Owns σ.top hE.top ([wO,wP,wC]++rows)→Owns σ.top t [vG,vL])→K (.tup [.agg [.int .i64 2,vG,vL],.int .i64 0]) (σ.up t)):
  Gh σ K (.tup [.agg [.int .i64 2,.sl g 0 1 (.known 1),vl],.int .i64 0]) hE:=by
 refine Gh.pwf fun w=>?_
 obtain⟨t,c,rfl,q1,q2,q3,q4,q5⟩:=a;have gt:¬g=t:=fun e=>n2 0 m c (by rw [e])
 have bq:Bels 0 [wO,wP,wC]:=⟨hq.O.bel 0,hq.P.bel 0,hq.C.bel 0,trivial⟩;have br:=hr.bI 0;refine Gh.freezeH q2 q4 br fun o2 i2 f2 _=>?_
 have hcap:capOK c m=true:=q1.ok;simp only [sb,sbs,gt,false_and,if_false,and_self,true_and,hcap,if_true];have kk2:=(Keep.sub (s:=t) (o:=o2) (cs:=rows) w (kk.kill q4) q4).up (t:=max hE.top (o2+1)) (by simp only [PHeap.sub,PHeap.kill];omega)
 have hg2:(((hE.kill t).sub t o2 rows).up (max hE.top (o2+1))).obj g=some [wO,wP,wC]:=by
  simp only [PHeap.up,PHeap.sub,PHeap.kill,if_neg gt,hg,Option.map_some];rw [qi (Nat.zero_le _) bq]
 have tp2:(((hE.kill t).sub t o2 rows).up (max hE.top (o2+1))).top=max hE.top (o2+1):=rfl;generalize ((hE.kill t).sub t o2 rows).up (max hE.top (o2+1))=H2 at *
 have fL:FII (.fz true (.sl o2 0 m c) m rows) M:=⟨true,.sl o2 0 m c,rows,by rw [hm],hr⟩
 refine zJK kk2 hg2 hg0 hq fL fun o3 i3 f3 f4 ht3=>k _ _ _ (zLu hq) fL ht3 fun ow=>?_
 have a2:o2∉eads ([wO,wP,wC]++rows):=by
  rw [zg,List.mem_append]
  rintro (hm | hm)
  ·exact f2 g _ hg (qH hm)
  ·exact f2 t _ q2 (qH hm)
 have o2w:=Owns.last (l:=m) (cap:=c) ow i2 (hi':=max hE.top (o2+1)) (by omega) (by omega) a2
 have o2c:=Owns.comm o2w;have a3:o3∉eads ([.fz true (.sl o2 0 m c) m rows]++[wO,wP,wC]):=by
  rw [zg,List.mem_append]
  rintro (hm | hm)
  ·refine f4 (zAT ?_)
   simpa only [eads,List.append_nil]using hm
  ·exact f3 (qH hm)
 have o3w:=Owns.last (l:=1) (cap:=.known 1) o2c i3 (hi':=max H2.top (o3+1)) (by omega) (by omega) a3
 exact Owns.comm (a:=[_]) (b:=[_]) o3w
theorem zDy (sz:SzP O P C) (hR:IsPr vO vP vC O P C) (hL:FII vL L) (szL:SzL L) (hx:FI vx x) (szx:x.length≤1048576)
  (hk:∀k G Z vG vZ c t,MRes O P C L x k G Z c→FG vG G→FII vZ Z→σ.top≤t→K (.tup [.agg [.int .i64 k,vG,vZ],.int .i64 c]) (σ.up t)):zA Tryz.prog 23 [.agg [vO,vP,vC],vL,vx] σ K:=by
 have g0:=hR.O.one;have g1:=hR.P.one;have g2:=hR.C.one;have hkp:Keep σ ((σ.new [vO,vP,vC]).new [.int .i64 0,.fz true .nils 0 [],.fz true .nils 0 []]):=(zB _ _).new _;have nilE:∀{c:Int} {g:PHeap},Keep σ g→MRes O P C L x 0 [] [] c→Gh σ K (.tup [.agg [.int .i64 0,.fz true .nils 0 [],.fz true .nils 0 []],.int .i64 c]) g:=fun {c g} kk h=>
  Gh.fin0T kk kk.top ⟨⟨trivial,trivial,trivial,trivial⟩,trivial,trivial⟩ fun _=>hk 0 [] [] _ _ c σ.top h zLv ⟨true,.nils,[],rfl,All2.nil _⟩ (Nat.le_refl _)
 have hL0:=hL;obtain⟨wl,al,rl,rfl,hrl⟩:=hL;have hx0:=hx;obtain⟨wx,ax,rfl⟩:=hx;refine zA.gh ?_;refine zC mix Tryz.func23 ?_
 conv=>arg 2;cbv
 refine zD rfl ?_;simp only [pwA,seval,-iQ0,g0,g1,g2];refine Q7 hR sz hL0 szL hx0 szx fun t ht=>?_
 cases t with
 | false=>
  simp only [pwA,seval,-iQ0,g0,g1,g2];exact nilE hkp (.inl ⟨fun h=>(by cases ht.2 h),⟨rfl,rfl,rfl⟩,rfl⟩)
 | true=>
 have hO:=ht.1 rfl;have lg:=hO.lg;have hn6:=lg.s.le;simp only [pwA,seval,-iQ0,g0,g1,g2];refine zGM lg hR hL0 szL hO.gs fun vU u fU hu=>?_
 simp only [pwA,seval,-iQ0,g0,g1,g2,fU.one];refine zI5 lg hR hO.sub fU hu hO.2.2.gS hx0 fun t ht=>?_
 cases t with
 | false=>
  simp only [pwA,seval,-iQ0,g0,g1,g2];exact nilE hkp (.inr (.inl ⟨hO,fun h=>(by cases ht.2 h),⟨rfl,rfl,rfl⟩,rfl⟩))
 | true=>
 have hg:=ht.1 rfl;simp only [pwA,seval,-iQ0,g0,g1,g2];refine zHW lg hR hL0 hO.2.1 hO.gs hO.2.2.gS hx0 hg fun vw mm w hf hw fw hwl=>?_
 obtain⟨ww,aw,rfl⟩:=fw
 by_cases h64:64<w.length
 ·have h64':(64:Int)<(w.length:Int):=by omega
  simp only [pwA,seval,-iQ0,h64',g0,g1,g2];exact nilE hkp (.inr (.inr ⟨hO,mm,w,hf,hw,.inl ⟨h64,⟨rfl,rfl,rfl⟩,rfl⟩⟩))
 have h64':¬(64:Int)<(w.length:Int):=by omega
 simp only [pwA,seval,-iQ0,h64'];refine zAP rfl (by omega) fun a1=>?_
 have h6:=hO.2.1;simp only [pwA,seval,-iQ0];refine zBC hL0 szL fun vg fg=>?_
 obtain⟨wg,ag,rg,rfl,hrg⟩:=fg;generalize hH:((σ.new [vO,vP,vC]).new [PV.int IntKind.i64 0,PV.fz true AV.nils 0 [],PV.fz true AV.nils 0 []]).new [PV.fz true a1 x.length (pis x),PV.fz ww aw w.length (pis w)]=H at *
 have kH:Keep σ H:=by rw [←hH];exact hkp.new _
 have nH:H.next=σ.next+3:=by rw [←hH];rfl
 have e0:H.obj σ.next=some [vO,vP,vC]:=by rw [←hH];simp only [pwA,seval,-iQ0]
 have e1:H.obj (σ.next+1)=some [.int .i64 0,.fz true .nils 0 [],.fz true .nils 0 []]:=by rw [←hH];simp only [pwA,seval,-iQ0]
 have e3:H.obj (σ.next+2)=some [.fz true a1 x.length (pis x),.fz ww aw w.length (pis w)]:=by rw [←hH];simp only [pwA,seval,-iQ0]
 simp only [pwA,seval,-iQ0];refine PSl.catK (bytes:=24) (σb:=σ) (n:=2) kH ⟨_,_,rfl,.inr rfl,e3,rfl,by omega,by omega⟩ (by rw [hrg.1]) (by omega) (by omega) fun v3 h3 k3 a3 s3 n3 t3=>?_
 have nn:∀{t:Nat},t<2→∀off l c,PV.sl (σ.next+2) 0 2 (Cap.known 2)≠.sl (σ.next+t) off l c:=fun ht off l c e=>by
  simp only [PV.sl.injEq]at e
  omega
 obtain⟨q0,p0⟩:=s3 σ.next (by omega) (nn (t:=0) (by omega))
 obtain⟨q1,p1⟩:=s3 (σ.next+1) (by omega) (nn (t:=1) (by omega))
 have r0:h3.rd σ.next 0 3=some [vO,vP,vC]:=by rw [zT (q0.trans e0)];rfl
 have z3:ofAVs (zeros [.nils,.nils,.nils] 1)=[.fz true .nils 0 [],.fz true .nils 0 [],.fz true .nils 0 []]:=rfl;simp only [pwA,seval,-iQ0,a3.one,r0,g0,g1,g2];refine zKN hR sz fun wO wP wC hq=>?_
 have c3:v3.cells=[v3]:=by obtain⟨s,cap,rfl,_⟩:=a3;rfl
 have he1:h3.obj (σ.next+1)=some [.int .i64 0,.fz true .nils 0 [],.fz true .nils 0 []]:=q1.trans e1;have kk3:=k3.next;have nk1:¬σ.next+1=h3.next:=by omega
 have ewr:h3.wr (σ.next+1) 0 [.int .i64 2,.sl h3.next 0 1 (.known 1),v3]=some (h3.set (σ.next+1) [.int .i64 2,.sl h3.next 0 1 (.known 1),v3]):=zCd he1 rfl (by obtain⟨s,cap,rfl,_⟩:=a3;rfl)
 simp only [pwA,seval,-iQ0,a3.one,c3,nk1,ewr,z3,hq.O.one,hq.P.one,hq.C.one];obtain⟨s4,cap4,rfl,c4,o4,l4,b4,b5⟩:=a3;have ns1:¬s4=σ.next+1:=fun e=>p1 0 _ _ (by rw [e])
 refine zLH (M:=[x,w]++L) ((k3.set (Nat.le_succ _) _).new _) ⟨s4,cap4,rfl,c4,?_,l4,b4,Nat.lt_succ_of_lt b5⟩ ?_ (by omega) (fun off l c e=>?_) hq (All2.append (((All2.nil FI).snoc ⟨true,a1,rfl⟩).snoc ⟨ww,aw,rfl⟩) hrg) (by simp;omega) fun vG vL t fG fL ht _=>hk 2 _ _ vG vL 0 t (.inr (.inr ⟨hO,mm,w,hf,hw,.inr ⟨by omega,⟨rfl,rfl,rfl⟩,rfl⟩⟩)) fG fL ht
 ·rw [zG,if_neg (show ¬s4=(h3.set _ _).next from Nat.ne_of_lt b5),zI,if_neg ns1,o4]
 ·rw [zG];exact if_pos rfl
 ·simp only [PV.sl.injEq]at e
  omega
theorem zEb (sz:SzP O P C) (hR:IsPr vO vP vC O P C) (hL:FII vL L) (szL:SzL L) (hx:FI vx x) (szx:x.length≤1048576)
  (hk:∀k G Z vG vZ c,MRes O P C L x k G Z c→FG vG G→FII vZ Z→K (.tup [.agg [.int .i64 k,vG,vZ],.int .i64 c]) σ):zA Tryz.prog 23 [.agg [vO,vP,vC],vL,vx] σ K:=
 zA.notop (p:=fun v _=>∃k G Z vG vZ c,v=.tup [.agg [.int .i64 k,vG,vZ],.int .i64 c]∧MRes O P C L x k G Z c∧FG vG G∧FII vZ Z)
  (fun K' k'=>zDy sz hR hL szL hx szx fun k G Z vG vZ c t h1 h2 h3 ht=>k' _ t ⟨⟨trivial,h2.bel _,h3.bel _,trivial⟩,trivial,trivial⟩ ⟨k,G,Z,vG,vZ,c,rfl,h1,h2,h3⟩ ht)
  fun v t ⟨k,G,Z,vG,vZ,c,e,h1,h2,h3⟩=>by rw [e];exact hk k G Z vG vZ c h1 h2 h3
end Go.Proofs
namespace Go.Grp
end Go.Grp
namespace Go.Proofs
open Go.Ab Go.Lie Go.Grp
variable {σ:PHeap} {K:PV→PHeap→Prop} {O:List Int} {P:List (List Int)} {C:List (List (List Int))} {vO vP vC vx vy vL vU:PV} {x y z f a b:List Int} {L u:List (List Int)} {rP rC rb:List PV} {D:List (Option (List Int))} {d j sp ss sb n:Nat}
theorem Qy (s:Shp O P C) (F:Full O P C O.length) (hC:Go.Grp.Cent O C) (hn:0<O.length) (hs:PtrG σ sp vO vP vC) (hR:IsPr vO vP vC O P C) (hU:FII vU u) (hu:Ones O u) (hasc:u.Pairwise fun a b=>dep a<dep b) (hul:u.length≤1000) (hx:gS O x) (hvx:FI vx x)
  (hk:∀a z t,gS O z→(∀t,(∀v∈u,t<dep v)→∀j,j≤t→at_ z j=at_ x j)→(∀v∈u,at_ z (dep v)=0)→(∀N,gB O P C N→(∀v∈u,N v)→(N x↔N z))→Own σ.top t (.fz true a O.length (pis z))→σ.top≤t→K (.fz true a O.length (pis z)) (σ.up t)):
  zA Tryz.prog 128 [.ptr sp 0,vU,vx] σ K:=by
 have hn6:=s.le;have hxl:=hx.len;have hsl:=hs.lt;obtain⟨wx,ax,rfl⟩:=hvx;have hUU:=hU;obtain⟨wl,al,rl,rfl,hrl⟩:=hU;refine zA.gh ?_;refine zC mix Tryz.func128 ?_
 conv=>arg 2;cbv
 refine zD rfl ?_;simp only [pwA,seval,-iQ0];refine ZP rfl (by omega) ⟨fun h0=>absurd hxl (by rw [h0];simp;omega),fun cap hc=>?_⟩
 rw [hxl]at hc ⊢
 simp only [pwA,seval,-iQ0];refine zAJ hUU (fun v hv=>⟨by rw [(hu v hv).1.len];exact(hu v hv).2.1,by rw [(hu v hv).1.len];omega⟩) (by omega) fun vp=>?_
 simp only [pwA,seval,-iQ0];refine zF (fun m vs h'=>∃(i:Nat) (z:List Int),i≤u.length∧m=u.length-i∧vs=[.ptr sp 0,.fz wl al u.length rl,.sl σ.next 0 O.length cap,.fz true vp u.length (pis (deps u)),.int .i64 u.length,.int .i64 i]∧h'=σ.new (pis z)∧gS O z∧(∀t,(∀v∈u,t<dep v)→∀j,j≤t→at_ z j=at_ x j)∧(∀k (hk:k<u.length),k<i→at_ z (dep u[k])=0)∧(∀N,gB O P C N→(∀v∈u,N v)→(N x↔N z))) u.length ⟨0,x,by omega,by omega,rfl,rfl,hx,fun _ _ _ _=>rfl,fun k _ h=>by omega,fun _ _ _=>Iff.rfl⟩ ?_
 rintro m vs h' ⟨i,z,hi,rfl,rfl,rfl,hz,hj,h0,hN⟩
 simp only [pwA,seval,-iQ0];refine iteI (fun hlt=>?_) fun hge=>?_
 rotate_left
 ·exact Gh.own (zB σ _) (by simp only [pwA,seval,-iQ0]) (Nat.le_refl _) (zM _ _) hc.ok (Owns.pis _ _ _) fun o t ho ht=>hk _ z t hz hj (fun v hv=>by
   obtain⟨k,hkl,rfl⟩:=List.mem_iff_getElem.1 hv;exact h0 k hkl (by omega)) hN ho ht
 obtain⟨w4,a4,hr⟩:=hrl.rowI hlt;obtain⟨u1,u2,u3⟩:=hu _ (List.getElem_mem hlt);have hmem:u[i]∈u:=List.getElem_mem hlt;have hpd:(deps u)[i]? = some (dep u[i]:Int):=by simp [deps,hlt]
 simp only [pwA,seval,-iQ0,hlt,zL,hpd];refine zF (fun m vs h'=>∃(z:List Int),m=((at_ O (dep u[i])-at_ z (dep u[i])) % at_ O (dep u[i])).toNat∧vs=[.ptr sp 0,.fz wl al u.length rl,.sl σ.next 0 O.length cap,.int .i64 i,.int .i64 (dep u[i]),.fz true vp u.length (pis (deps u)),.int .i64 u.length,.int .i64 i]∧h'=σ.new (pis z)∧gS O z∧(∀t,(∀v∈u,t<dep v)→∀j,j≤t→at_ z j=at_ x j)∧(∀k (hk:k<u.length),k<i→at_ z (dep u[k])=0)∧(∀N,gB O P C N→(∀v∈u,N v)→(N x↔N z))) _ ⟨z,rfl,rfl,rfl,hz,hj,h0,hN⟩ ?_
 clear hz hj hN h0 z
 rintro m vs h' ⟨z,rfl,rfl,rfl,hz,hj,h0,hN⟩
 have hzl:=hz.len;have hdz:dep u[i] < z.length:=by omega
 have bz:=hz.bd _ u2;have bO:=s.pr _ u2;simp only [pwA,seval,-iQ0,u2,pisAt hdz];refine iteI (fun heq=>?_) fun hneq=>?_
 ·simp only [pwA,seval,-iQ0,wrapS hlt (by omega:u.length≤4611686018427387904)]
  refine⟨_,by omega,i+1,z,by omega,rfl,rfl,rfl,hz,hj,fun k hkl hk=>?_,hN⟩
  rcases Nat.lt_or_ge k i with h|h
  ·exact h0 k hkl h
  ·have e:k=i:=by omega
   subst e;exact heq
 ·obtain⟨g1,g2,g3⟩:=zEj s F hC u2 hz (Zn u1) u3
  simp only [pwA,seval,-iQ0,hlt,hr];refine qh s F (hs.new _) hR (x:=z) (by simp only [pwA,seval,-iQ0]) (by simp only [pwA,seval,-iQ0]) (by omega) hc (by rw [Nat.sub_self];exact hz) (by rw [Nat.sub_self];exact u1) ⟨w4,a4,rfl⟩ ?_
  simp only [pwA,seval,-iQ0];refine⟨_,?_,_,rfl,rfl,g1,fun t ht j hjt=>?_,fun k hkl hk=>?_,fun N h1 h2=>(hN N h1 h2).trans ⟨fun h=>h1.cl h (h2 _ hmem),fun h=>h1.quotR F.g (h2 _ hmem) hz h⟩⟩
  ·show((at_ O (dep u[i])-at_ (gm O P C z u[i]) (dep u[i])) % at_ O (dep u[i])).toNat<_
   rw [g3];exact zE8 bO.1 bz hneq
  ·show at_ (gm O P C z u[i]) j=_
   rw [g2 j (by have:=ht _ hmem;omega)]
   exact hj t ht j hjt
  ·show at_ (gm O P C z u[i]) (dep u[k])=0
   rw [g2 _ (List.pairwise_iff_getElem.1 hasc k i hkl hlt hk)];exact h0 k hkl hk
theorem zCf {m b:Nat} {rows:List PV} (s:Shp O P C) (F:Full O P C O.length) (hC:Go.Grp.Cent O C) (hn:0<O.length) (hs:PtrG σ sp vO vP vC) (hR:IsPr vO vP vC O P C) (ha:PAcc b 1 σ vU m rows) (hsb:sp<b) (hr:All2 FI rows u) (hm:m=u.length) (hu:Ones O u) (hasc:u.Pairwise fun a b=>dep a<dep b) (hul:u.length≤1000) (hx:gS O x) (hvx:FI vx x)
  (hk:∀a z t,gS O z→(∀t,(∀v∈u,t<dep v)→∀j,j≤t→at_ z j=at_ x j)→(∀v∈u,at_ z (dep v)=0)→(∀N,gB O P C N→(∀v∈u,N v)→(N x↔N z))→Own σ.top t (.fz true a O.length (pis z))→σ.top≤t→K (.fz true a O.length (pis z)) (σ.up t)):
  zA Tryz.prog 128 [.ptr sp 0,vU,vx] σ K:=by
 subst hm;rcases ha with ⟨rfl,h1,h2⟩|⟨t0,cap,rfl,hcp,q2,q3,q4,q5⟩
 ·obtain rfl:u=[]:=List.eq_nil_of_length_eq_zero h1
  exact Qy s F hC hn hs hR ⟨true,.nils,[],rfl,All2.nil _⟩ hu hasc hul hx hvx hk
 ·refine zA.lendT q2 (hr.bI 0) fun o1 t1 ht1=>?_
  have hne:sp≠t0:=by omega
  have hs2:PtrG ((σ.kill t0).up t1) sp vO vP vC:=⟨by show(if sp=t0 then none else σ.obj sp)=_;rw [if_neg hne];exact hs.obj,hs.lt⟩
  obtain⟨wx,ax,rfl⟩:=hvx;simp only [sbs,sb,hcp.ok,and_self,if_true];refine Qy s F hC hn hs2 hR ⟨true,_,rows,rfl,hr⟩ hu hasc hul hx ⟨wx,ax,rfl⟩ fun a z t zS z1 z0 z2 ho ht=>?_
  have hzl:=zS.len;exact⟨t,true,a,_,z,rfl,ht,rfl,fun e=>by rw [e]at hzl;simp at hzl;omega,ho.ge,hk a z t zS z1 z0 z2 (ho.mono ht1 (Nat.le_refl _)) (Nat.le_trans ht1 ht)⟩
theorem zGa (s:Shp O P C) (F:Full O P C O.length) (hC:Go.Grp.Cent O C) (hq:SeqG σ ss sb sp O.length rb vO vP vC) (hR:IsPr vO vP vC O P C) (hD:OkD O D) (hrb:All2 (DRow O.length) rb D)
  (hk:∀v u t,FII v u→CanD O P C D u→Own σ.top t v→σ.top≤t→K v (σ.up t)):zA Tryz.prog 126 [.ptr ss 0] σ K:=by
 have hn6:=s.le;have hpb:sp<σ.next:=hq.pg.lt;have r0:σ.rd1 ss 0=some (.ptr sp 0):=by rw [zH hq.obj];rfl
 have r1:σ.rd1 ss 1=some (.sl sb 0 O.length (.known O.length)):=by rw [zH hq.obj];rfl
 have hw:IntKind.i64.wrap ((O.length:Int)-1)=(O.length:Int)-1:=wrap64 (by omega) (by omega)
 refine zA.gh ?_;refine zC mix Tryz.func126 ?_
 conv=>arg 2;cbv
 refine zD rfl ?_;simp only [pwA,seval,-iQ0,r1,hw];refine zF (fun m vs h2=>∃(k:Nat) (vO:PV) (u:List (List Int)) (rows:List PV),k≤O.length∧m=k∧vs=[.ptr ss 0,vO,.int .i64 ((k:Int)-1)]∧Keep σ h2∧PAcc σ.next 1 h2 vO u.length rows∧All2 FI rows u∧Owns σ.top h2.top rows∧Ones O u∧u.length+k≤O.length∧(∀v∈u,k≤dep v)∧(u.Pairwise fun a b=>dep a<dep b)∧(∀v∈u,∀w∈u,dep v≠dep w→at_ v (dep w)=0)∧(∀(d:Nat) (y:List Int),k≤d→D[d]? = some (some y)→∃v∈u,dep v=d)∧(∀N,gB O P C N→((∀x∈u,N x)↔∀d y,k≤d→D[d]? = some (some y)→N y))) O.length ⟨O.length,_,[],[],Nat.le_refl _,rfl,rfl,Keep.refl σ,PAcc.nil _ _ _,All2.nil _,Owns.nil _ _,fun v hv=>(by cases hv),by simp,fun v hv=>(by cases hv),List.Pairwise.nil,fun v hv=>(by cases hv),fun d y h1 h2=>?_,fun N hN=>⟨fun _ d y h1 h2=>?_,fun _ x hx=>(by cases hx)⟩⟩ ?_
 ·rw [List.getElem?_eq_none (by rw [hD.len];exact h1)]at h2;cases h2
 ·rw [List.getElem?_eq_none (by rw [hD.len];exact h1)]at h2;cases h2
 rintro m vs h2 ⟨k,vU,u,rows,hkn,rfl,rfl,hk2,ha,hrows,how,hu,hul,hud,hasc,hred,hall0,hN⟩
 rcases Nat.eq_zero_or_pos m with rfl|hmp
 ·have ha1:=ha.one
  simp only [pwA,seval,-iQ0,show ¬((0:Int)≤((0:Nat):Int)-1) by omega,ha1]
  exact ha.own hk2 (hrows.bI 0) how fun a t ho ht=>hk _ u t ⟨true,a,rows,rfl,hrows⟩ ⟨hu,hasc,hred,fun d y hy=>hall0 d y (Nat.zero_le _) hy,by omega,fun N h1=>(hN N h1).trans ⟨fun h d y hy=>h d y (Nat.zero_le _) hy,fun h d y _ hy=>h d y hy⟩⟩ ho ht
 obtain⟨k,rfl⟩:∃k,m=k+1:=⟨m-1,by omega⟩
 have e:((k+1:Nat):Int)-1=(k:Int):=by omega
 have hkn':k<O.length:=hkn;have hrd:=zH (hq.keep hk2).bobj k;have r0':h2.rd1 ss 0=some (.ptr sp 0):=by rw [zH (hq.keep hk2).obj];rfl
 have r1':h2.rd1 ss 1=some (.sl sb 0 O.length (.known O.length)):=by rw [zH (hq.keep hk2).obj];rfl
 rw [e];have hw2:IntKind.i64.wrap ((k:Int)-1)=(k:Int)-1:=wrap64 (by omega) (by omega)
 rcases DRow.get hrb (d:=k) (by rw [hD.len];exact hkn')with ⟨e1,e2⟩|⟨oo,cap,y,e1,e2⟩
 ·rw [e1]at hrd
  simp only [pwA,seval,-iQ0,hkn',r1',hrd,hw2];refine⟨_,Nat.lt_succ_self k,k,vU,u,rows,by omega,rfl,rfl,hk2,ha,hrows,how,hu,by omega,fun v hv=>by have:=hud v hv;omega,hasc,hred,fun d y hd hy=>?_,fun N h1=>(hN N h1).trans ⟨fun h d y hd hy=>?_,fun h d y hd hy=>h d y (by omega) hy⟩⟩
  ·rcases Nat.lt_or_ge k d with x | x
   ·exact hall0 d y x hy
   ·rw [show d=k by omega,e2]at hy;cases hy
  rcases Nat.lt_or_ge k d with x|x
  ·exact h d y x hy
  ·rw [show d=k by omega,e2]at hy;cases hy
 ·rw [e1]at hrd
  obtain⟨y1,y2⟩:=hD.row _ _ e2;have yS:gS O y:=y1.mono (Nat.zero_le _);have ha1:=ha.one;have ha2:=ha.cells;simp only [pwA,seval,-iQ0,hkn',r0',r1',hrd,hw2,ha1,ha2];refine zCf s F hC (by omega) (hq.keep hk2).pg hR ha hpb hrows rfl hu hasc (by omega) yS ⟨true,_,by rw [y1.len]⟩ fun az z t1 zS z1 z0 z2 ow ht1=>?_
  have za:∀j,j≤k→at_ z j=at_ y j:=z1 k fun v hv=>hud v hv
  have zt:TT O k z:=⟨zS.len,zS.bd,fun j hj=>by rw [za j (by omega)];exact y1.zero j hj⟩
  have zk:at_ z k=1:=by rw [za k (Nat.le_refl _)];exact y2
  have hzl:=zS.len;have zd:dep z=k:=by
   have h1:=dep_ge zt (by omega)
   rcases Nat.lt_or_ge k (dep z)with h|h
   ·rw [qU h]at zk;omega
   ·omega
  have hku:=Keep.up (Keep.refl h2) ht1;have hau:=ha.keep hku;simp only [pwA,seval,-iQ0];refine PSl.app (bytes:=24) (b:=σ.next) (σb:=h2.up t1) (n:=1) (m:=u.length) (cs:=[.fz true az O.length (pis z)]) (news:=rows) (zB _ _) hk2.next (PSl.new _ 1 rfl (Nat.le_refl _)) ha.len (fun h0=>(hau.keep (zB _ _)).first h0) ha.lenc (by omega) (by omega) fun v3 h3 k3 a3=>?_
  have hall:All2 FI ([.fz true az O.length (pis z)]++rows) (z::u):=(All2.nil FI |>.snoc (⟨true,_,by rw [hzl]⟩:FI (.fz true az O.length (pis z)) z)).append hrows
  have hkn2:=hk2.next;simp only [pwA,seval,-iQ0,hw2];refine⟨k,Nat.lt_succ_self k,k,v3,z::u,[.fz true az O.length (pis z)]++rows,by omega,rfl,rfl,hk2.trans (hku.trans k3),?_,hall,(how.cons ow hk2.top ht1).mono (Nat.le_refl _) k3.top,?_,by simp;omega,?_,?_,?_,?_,fun N h1=>?_⟩
  ·rw [List.length_cons,Nat.add_comm u.length 1]
   obtain⟨s3,cap3,rfl,hc3,ho3,hl3,hge3,hlt3⟩:=a3;exact .inr ⟨s3,cap3,rfl,hc3,ho3,hl3,by simp only [PHeap.up]at hge3;omega,hlt3⟩
  ·intro v hv
   rcases List.mem_cons.1 hv with rfl|hv
   ·exact⟨zS,by omega,by rw [zd];exact zk⟩
   ·exact hu v hv
  ·intro v hv
   rcases List.mem_cons.1 hv with rfl|hv
   ·omega
   ·have:=hud v hv;omega
  ·rw [List.pairwise_cons]
   exact⟨fun v hv=>by have:=hud v hv;omega,hasc⟩
  ·intro v hv w hw hne
   rcases List.mem_cons.1 hv with ev|hv2
   ·rcases List.mem_cons.1 hw with ew | hw2
    ·rw [ev,ew]at hne;exact absurd rfl hne
    ·rw [ev];exact z0 w hw2
   ·rcases List.mem_cons.1 hw with ew | hw2
    ·rw [ew];exact qU (by have:=hud v hv2;omega)
    ·exact hred v hv2 w hw2 hne
  ·intro d y' hd hy
   rcases Nat.lt_or_ge k d with x|x
   ·obtain⟨v,hv,e⟩:=hall0 d y' x hy
    exact⟨v,List.mem_cons_of_mem _ hv,e⟩
   ·exact⟨z,by simp,by omega⟩
  ·have hsplit:(∀d y,k≤d→D[d]? = some (some y)→N y)↔(N y∧∀d y,k+1≤d→D[d]? = some (some y)→N y):=by
    refine⟨fun h=>⟨h k y (Nat.le_refl _) e2,fun d y hd hy=>h d y (by omega) hy⟩,fun⟨h3,h4⟩ d y' hd hy=>?_⟩
    rcases Nat.lt_or_ge k d with x|x
    ·exact h4 d y' x hy
    ·rw [show d=k by omega,e2]at hy;cases hy;exact h3
   rw [hsplit,←hN N h1,List.forall_mem_cons];refine⟨fun⟨h3,h4⟩=>⟨(z2 N h1 h4).2 h3,h4⟩,fun⟨h3,h4⟩=>⟨(z2 N h1 h4).1 h3,h4⟩⟩
theorem zGW (g:LG O P C) (hs:PtrG σ sp vO vP vC) (hR:IsPr vO vP vC O P C) (hL:FII vL L) (hg:∀x∈L,gS O x) (hLl:L.length≤1000000)
  (hk:∀v u t,FII v u→CanG O (GC O P C L) u→Own σ.top t v→σ.top≤t→K v (σ.up t)):zA Tryz.prog 66 [.ptr sp 0,vL] σ K:=by
 have s:=g.s;have F:=g.F;have hC:=g.cent;have hp:=zW.isp g.pr;have hL0:=hL;obtain⟨wl,al,rl,rfl,hrl⟩:=hL;refine zA.gh ?_;refine zC mix Tryz.func66 ?_
 conv=>arg 2;cbv
 refine zD rfl ?_;simp only [pwA,seval,-iQ0];refine zAm s hs hR fun ss sb h1 k1 n1 n2 q1=>?_
 simp only [pwA,seval,-iQ0];refine zJX s F hC hp q1 hR (OkD.start O.length rfl) ⟨by simp,fun k c r hc hr=>?_⟩ (QI.start _) hL0 hg hLl fun t rb' D' hrb' hD' hQ' hN' hf hf'=>?_
 ·rw [List.getElem?_replicate]at hc hr
  split at hc
  ·rename_i h
   rw [if_pos h]at hr
   cases hc;cases hr;exact .inl ⟨rfl,rfl⟩
  ·cases hc
 simp only [pwA,seval,-iQ0];refine zGa s F hC (q1.setB rb') hR hD' hrb' fun v u t f1 cd ho ht=>?_
 have g1:=f1.one;simp only [pwA,seval,-iQ0,g1];have kk:=k1.set n2 rb';exact Gh.fin0T (Keep.up kk ht) (Nat.le_refl _) (f1.bel _) fun _=>(hk v u t f1 (cd.can s F hC hD' hQ' fun N hN=>(hN' N hN).trans ⟨fun h=>h.2,fun h=>⟨InD.start _,h⟩⟩) (ho.mono kk.top (Nat.le_refl _)) (Nat.le_trans kk.top ht))
end Go.Proofs
namespace Go.Grp
end Go.Grp
namespace Go.Proofs
open Go.Ab Go.Lie Go.Grp
variable {σ h hE:PHeap} {K:PV→PHeap→Prop} {O x:List Int} {P:List (List Int)} {C:List (List (List Int))} {vO vP vC vx vL vU:PV} {L u:List (List Int)} {sp:Nat}
theorem Own.rows {lo hi l:Nat} {w:Bool} {a:AV} {cs:List PV} (h:Own lo hi (.fz w a l cs)):Owns lo hi cs:=by
 cases cs with
 | nil=>exact Owns.nil _ _
 | cons c cs=>
  have hw:=h.wh;rcases hw with hw|hw
  ·cases hw
  ·obtain⟨_,h2,h3⟩:=hw
   cases a<;>try cases h2
   refine⟨h3,?_,fun o ho=>h.lt o ?_⟩
   ·have:=h.nd
    rw [zBv (by simp)]at this
    exact(List.nodup_cons.1 this).2
   ·rw [zBv (by simp)]
    exact List.mem_cons_of_mem _ ho
def SWC (P':Program) (f:FuncId):Prop:=∀{O x:List Int} {P:List (List Int)} {C:List (List (List Int))} {vO vP vC vx vL:PV} {L:List (List Int)} {sp:Nat} {σ:PHeap} {K:PV→PHeap→Prop},LG O P C→PtrG σ sp vO vP vC→IsPr vO vP vC O P C→FII vL L→L.length≤6→(∀l∈L,gS O l)→gS O x→FI vx x→
 (∀v k w t,Fnd O P C L x k→(stt O P C L k).2[k]? = some w→FI v w→w.length≤117649→Own σ.top t v→σ.top≤t→K (.tup [v,.bool true]) (σ.up t))→(∀v,¬GC O P C L x→FI v []→K (.tup [v,.bool false]) σ)→zA P' f [.ptr sp 0,vL,vx] σ K
end Go.Proofs
namespace Go.Grp
end Go.Grp
set_option linter.unusedSectionVars false
namespace Go.Proofs
open Go.Ab Go.Lie Go.Grp
variable {σ h hE:PHeap} {K:PV→PHeap→Prop} {O x:List Int} {P:List (List Int)} {C:List (List (List Int))} {vO vP vC vx vL vU:PV} {L u:List (List Int)} {sp:Nat}
def GSt (h:PHeap) (b:Nat) (vG:PV) (G:List Pre):Prop:=(G=[]∧vG=.fz true .nils 0 [])∨∃t cap wO wP wC O P C,G=[(O,P,C)]∧vG=.sl t 0 1 cap∧h.obj t=some [wO,wP,wC]∧b≤t∧t<h.next∧IsPr wO wP wC O P C
theorem zKU {vl wO wP wC:PV} {rows:List PV} {M:List (List Int)} {g m:Nat} (kk:Keep σ hE) (a:PSl σ.next 1 hE vl m rows) (hg:hE.obj g=some [wO,wP,wC]) (hg0:σ.next≤g) (n2:∀off l c,vl≠.sl g off l c) (hq:IsPr wO wP wC O P C) (hr:All2 FI rows M) (hm:m=M.length)
  (hgl:g<hE.next) (k:∀vL H2,FII vL M→Keep σ H2→H2.obj g=some [wO,wP,wC]→g<H2.next→K (.tup [.agg [.int .i64 2,.sl g 0 1 (.known 1),vL],.int .i64 0]) H2):
  Gh σ K (.tup [.agg [.int .i64 2,.sl g 0 1 (.known 1),vl],.int .i64 0]) hE:=by
 refine Gh.pwf fun w=>?_
 obtain⟨t,c,rfl,q1,q2,q3,q4,q5⟩:=a;have gt:¬g=t:=fun e=>n2 0 m c (by rw [e])
 have bq:Bels 0 [wO,wP,wC]:=⟨hq.O.bel 0,hq.P.bel 0,hq.C.bel 0,trivial⟩;have br:=hr.bI 0;refine Gh.freezeH q2 q4 br fun o2 i2 f2 _=>?_
 have hcap:capOK c m=true:=q1.ok;simp only [sb,sbs,gt,false_and,if_false,and_self,true_and,hcap,if_true];have kk2:=(Keep.sub (s:=t) (o:=o2) (cs:=rows) w (kk.kill q4) q4).up (t:=max hE.top (o2+1)) (by simp only [PHeap.sub,PHeap.kill];omega)
 have hg2:(((hE.kill t).sub t o2 rows).up (max hE.top (o2+1))).obj g=some [wO,wP,wC]:=by
  simp only [PHeap.up,PHeap.sub,PHeap.kill,if_neg gt,hg,Option.map_some];rw [qi (Nat.zero_le _) bq]
 have nx2:(((hE.kill t).sub t o2 rows).up (max hE.top (o2+1))).next=hE.next:=rfl;have tp2:(((hE.kill t).sub t o2 rows).up (max hE.top (o2+1))).top=max hE.top (o2+1):=rfl;generalize ((hE.kill t).sub t o2 rows).up (max hE.top (o2+1))=H2 at *
 have fL:FII (.fz true (.sl o2 0 m c) m rows) M:=⟨true,.sl o2 0 m c,rows,by rw [hm],hr⟩
 exact Gh.ret (k _ _ fL kk2 hg2 (by rw [nx2];exact hgl))
theorem zKT {vl wO wP wC fx:PV} {rows:List PV} {M:List (List Int)} {s1 g m:Nat} {z:Int} (kk:Keep σ hE) (a:PSl σ.next 1 hE vl m ([fx,.sl s1 0 1 (.known 1)]++rows)) (h1:hE.obj s1=some [.int .i64 z]) (h10:σ.next≤s1) (hg:hE.obj g=some [wO,wP,wC]) (hg0:σ.next≤g) (hsg:g≠s1)
  (n1:∀off l c,vl≠.sl s1 off l c) (n2:∀off l c,vl≠.sl g off l c) (hq:IsPr wO wP wC O P C) (hx:FI fx x) (hr:All2 FI rows M) (hm:m=M.length+2)
  (hgl:g<hE.next) (k:∀vL H2,FII vL ([x,[z]]++M)→Keep σ H2→H2.obj g=some [wO,wP,wC]→g<H2.next→K (.tup [.agg [.int .i64 3,.sl g 0 1 (.known 1),vL],.int .i64 0]) H2):
  Gh σ K (.tup [.agg [.int .i64 3,.sl g 0 1 (.known 1),vl],.int .i64 0]) hE:=by
 refine Gh.pwf fun w=>?_
 obtain⟨t,c,rfl,q1,q2,q3,q4,q5⟩:=a;have ts:¬t=s1:=fun e=>n1 0 m c (by rw [e])
 have tg:¬t=g:=fun e=>n2 0 m c (by rw [e])
 have gt:¬g=t:=fun e=>tg e.symm
 have gs:¬g=s1:=hsg;have bq:Bels 0 [wO,wP,wC]:=⟨hq.O.bel 0,hq.P.bel 0,hq.C.bel 0,trivial⟩;have br:=hr.bI 0;refine Gh.freezeH h1 h10 ⟨trivial,trivial⟩ fun o1 i1 f1 _=>?_
 simp only [sb,sbs,gs,ts,false_and,if_false];have kk1:Keep σ (((hE.kill s1).sub s1 o1 [.int .i64 z]).up (max hE.top (o1+1))):=(Keep.sub w (kk.kill h10) h10).up (by simp only [PHeap.sub,PHeap.kill];omega)
 have hg1:(((hE.kill s1).sub s1 o1 [.int .i64 z]).up (max hE.top (o1+1))).obj g=some [wO,wP,wC]:=by
  simp only [PHeap.up,PHeap.sub,PHeap.kill,if_neg gs,hg,Option.map_some];rw [qi (Nat.zero_le _) bq]
 have ht1:(((hE.kill s1).sub s1 o1 [.int .i64 z]).up (max hE.top (o1+1))).obj t=some ([fx,.fz true (.sl o1 0 1 (.known 1)) 1 [.int .i64 z]]++rows):=by
  simp only [PHeap.up,PHeap.sub,PHeap.kill,if_neg ts,q2,Option.map_some];rw [zAz,qi (Nat.zero_le _) br];simp only [sbs,hx.sb];rw [sb,if_pos (by simp [capOK])]
 have bc:Bels 0 ([fx,.fz true (.sl o1 0 1 (.known 1)) 1 [.int .i64 z]]++rows):=⟨hx.bel 0,trivial,br⟩;have nx1:(((hE.kill s1).sub s1 o1 [.int .i64 z]).up (max hE.top (o1+1))).next=hE.next:=rfl;have tp1:(((hE.kill s1).sub s1 o1 [.int .i64 z]).up (max hE.top (o1+1))).top=max hE.top (o1+1):=rfl;generalize ((hE.kill s1).sub s1 o1 [.int .i64 z]).up (max hE.top (o1+1))=H1 at *
 refine Gh.freezeH ht1 q4 bc fun o2 i2 f2 _=>?_
 have hcap:capOK c m=true:=q1.ok;simp only [sb,sbs,gt,false_and,if_false,and_self,true_and,hcap,if_true];have kk2:=(Keep.sub (s:=t) (o:=o2) (cs:=[fx,.fz true (.sl o1 0 1 (.known 1)) 1 [.int .i64 z]]++rows) w (kk1.kill q4) q4).up (t:=max H1.top (o2+1)) (by simp only [PHeap.sub,PHeap.kill];omega)
 have hg2:(((H1.kill t).sub t o2 ([fx,.fz true (.sl o1 0 1 (.known 1)) 1 [.int .i64 z]]++rows)).up (max H1.top (o2+1))).obj g=some [wO,wP,wC]:=by
  simp only [PHeap.up,PHeap.sub,PHeap.kill,if_neg gt,hg1,Option.map_some];rw [qi (Nat.zero_le _) bq]
 have nx2:(((H1.kill t).sub t o2 ([fx,.fz true (.sl o1 0 1 (.known 1)) 1 [.int .i64 z]]++rows)).up (max H1.top (o2+1))).next=hE.next:=nx1;have tp2:(((H1.kill t).sub t o2 ([fx,.fz true (.sl o1 0 1 (.known 1)) 1 [.int .i64 z]]++rows)).up (max H1.top (o2+1))).top=max H1.top (o2+1):=rfl;generalize ((H1.kill t).sub t o2 ([fx,.fz true (.sl o1 0 1 (.known 1)) 1 [.int .i64 z]]++rows)).up (max H1.top (o2+1))=H2 at *
 have fL:FII (.fz true (.sl o2 0 m c) m ([fx,.fz true (.sl o1 0 1 (.known 1)) 1 [.int .i64 z]]++rows)) ([x,[z]]++M):=by
  refine⟨true,.sl o2 0 m c,[fx,.fz true (.sl o1 0 1 (.known 1)) 1 [.int .i64 z]]++rows,by rw [hm];simp,?_⟩
  exact All2.append (((All2.nil FI).snoc hx).snoc ⟨true,_,rfl⟩) hr
 exact Gh.ret (k _ _ fL kk2 hg2 (by rw [nx2];exact hgl))
theorem zEc (sw:SWC Tryz.prog 56) (sz:SzP O P C) (hR:IsPr vO vP vC O P C) (hL:FII vL L) (szL:SzL L) (hx:FI vx x) (szx:x.length≤1048576)
  (hk:∀k G Z vG vZ c h,MRes O P C L x k G Z c→GSt h σ.next vG G→FII vZ Z→Keep σ h→K (.tup [.agg [.int .i64 k,vG,vZ],.int .i64 c]) h):zA Tryz.prog 22 [.agg [vO,vP,vC],vL,vx] σ K:=by
 have g0:=hR.O.one;have g1:=hR.P.one;have g2:=hR.C.one;have hkp:Keep σ ((σ.new [vO,vP,vC]).new [.int .i64 0,.fz true .nils 0 [],.fz true .nils 0 []]):=(zB _ _).new _;have hs:PtrG ((σ.new [vO,vP,vC]).new [.int .i64 0,.fz true .nils 0 [],.fz true .nils 0 []]) σ.next vO vP vC:=⟨by simp only [pwA,seval,-iQ0],by show σ.next<σ.next+1+1;omega⟩
 have nilE:∀{c:Int} {g:PHeap},Keep σ g→MRes O P C L x 0 [] [] c→Gh σ K (.tup [.agg [.int .i64 0,.fz true .nils 0 [],.fz true .nils 0 []],.int .i64 c]) g:=fun {c g} kk h=>
  Gh.ret (hk 0 [] [] _ _ c g h (.inl ⟨rfl,rfl⟩) ⟨true,.nils,[],rfl,All2.nil _⟩ kk)
 have hL0:=hL;obtain⟨wl,al,rl,rfl,hrl⟩:=hL;have hx0:=hx;obtain⟨wx,ax,rfl⟩:=hx;refine zA.gh ?_;refine zC mix Tryz.func22 ?_
 conv=>arg 2;cbv
 refine zD rfl ?_;simp only [pwA,seval,-iQ0,g0,g1,g2];refine zAu hs hR sz hL0 szL fun t ht=>?_
 cases t with
 | false=>
  simp only [pwA,seval,-iQ0,g0,g1,g2];exact nilE hkp (.inl ⟨fun h=>(by cases ht.2 h.1),⟨rfl,rfl,rfl⟩,rfl⟩)
 | true=>
 by_cases h6:L.length≤6
 rotate_left
 ·have n6:(6:Int)<(L.length:Int):=by omega
  simp only [pwA,seval,-iQ0,n6];exact nilE hkp (.inl ⟨fun h=>h6 h.2.1,⟨rfl,rfl,rfl⟩,rfl⟩)
 have n6:¬(6:Int)<(L.length:Int):=by omega
 have hp:=(ht.1 rfl).1.1;simp only [pwA,seval,-iQ0,n6];refine qj hs hR.O sz.O hp.isp hx0 szx fun t2 ht2=>?_
 cases t2 with
 | false=>
  simp only [pwA,seval,-iQ0,g0,g1,g2];exact nilE hkp (.inl ⟨fun h=>(by cases ht2.2 h.2.2),⟨rfl,rfl,rfl⟩,rfl⟩)
 | true=>
 have hO:OutG O P C L x:=⟨ht.1 rfl,h6,ht2.1 rfl⟩;have lg:=hO.lg;simp only [pwA,seval,-iQ0];have hn6:=lg.s.le;refine sw lg hs hR hL0 hO.2.1 hO.gs hO.2.2.gS hx0 (fun vw mm w t1 hf hw fw hwl oW ht1=>?_) (fun vw hng fw=>?_)
 rotate_left
 ·simp only [pwA,seval,-iQ0,g0,g1,g2,fw.one,fw.cells]
  exact nilE hkp (.inr (.inl ⟨hO,hng,⟨rfl,rfl,rfl⟩,rfl⟩))
 obtain⟨ww,aw,rfl⟩:=fw;simp only [pwA,seval,-iQ0,g0,g1,g2]
 by_cases h64:64<w.length
 ·have h64':(64:Int)<(w.length:Int):=by omega
  simp only [pwA,seval,-iQ0,h64',g0,g1,g2];exact nilE (hkp.up ht1) (.inr (.inr ⟨hO,mm,w,hf,hw,.inl ⟨h64,⟨rfl,rfl,rfl⟩,rfl⟩⟩))
 have h64':¬(64:Int)<(w.length:Int):=by omega
 simp only [pwA,seval,-iQ0,h64'];refine zA.fzIT (fun K' k'=>ZP rfl (by omega) k') fun v5 t5 hv5 ho5 ht5=>?_
 simp only [pwA,seval,-iQ0,hv5.one,hv5.cells];refine Qp szL.r (by omega) hL0 fun vg t6 fg og ht6=>?_
 obtain⟨wg,ag,rg,rfl,hrg⟩:=fg;have ht1':σ.top≤t1:=ht1;have ht5':t1≤t5:=ht5;have ht6':t5≤t6:=ht6;have oW':Own σ.top t1 (.fz ww aw w.length (pis w)):=oW;have o5':Own t1 t5 v5:=ho5;have og':Owns t5 t6 rg:=Own.rows og;generalize hH:((((((σ.new [vO,vP,vC]).new [PV.int IntKind.i64 0,PV.fz true AV.nils 0 [],PV.fz true AV.nils 0 []]).new [v5,PV.fz ww aw w.length (pis w)]).up t1).up t5).up t6)=H at *
 have kH:Keep σ H:=by rw [←hH];exact(((hkp.new _).up ht1).up ht5).up ht6
 have nH:H.next=σ.next+3:=by rw [←hH];rfl
 have tH:H.top=t6:=by rw [←hH];rfl
 have e0:H.obj σ.next=some [vO,vP,vC]:=by rw [←hH];simp only [pwA,seval,-iQ0]
 have e1:H.obj (σ.next+1)=some [.int .i64 0,.fz true .nils 0 [],.fz true .nils 0 []]:=by rw [←hH];simp only [pwA,seval,-iQ0]
 have e3:H.obj (σ.next+2)=some [v5,.fz ww aw w.length (pis w)]:=by rw [←hH];simp only [pwA,seval,-iQ0]
 simp only [pwA,seval,-iQ0];refine PSl.catK (bytes:=24) (σb:=σ) (n:=2) kH ⟨_,_,rfl,.inr rfl,e3,rfl,by omega,by omega⟩ (by rw [hrg.1]) (by omega) (by omega) fun v3 h3 k3 a3 s3 n3 t3=>?_
 have nn:∀{t:Nat},t<2→∀off l c,PV.sl (σ.next+2) 0 2 (Cap.known 2)≠.sl (σ.next+t) off l c:=fun ht off l c e=>by
  simp only [PV.sl.injEq]at e
  omega
 obtain⟨q0,p0⟩:=s3 σ.next (by omega) (nn (t:=0) (by omega))
 obtain⟨q1,p1⟩:=s3 (σ.next+1) (by omega) (nn (t:=1) (by omega))
 have hs3:PtrG h3 σ.next vO vP vC:=⟨q0.trans e0,by omega⟩
 simp only [pwA,seval,-iQ0,a3.one];refine Qb lg.s hs3 hR fun wO wP wC t7 hq oq ht7=>?_
 have oq':Owns t6 t7 [wO,wP,wC]:=by rw [t3,tH]at oq;exact oq
 have ht7':t6≤t7:=by rw [t3,tH]at ht7;exact ht7
 have z3:ofAVs (zeros [.nils,.nils,.nils] 1)=[.fz true .nils 0 [],.fz true .nils 0 [],.fz true .nils 0 []]:=rfl;have c3:v3.cells=[v3]:=by obtain⟨s,cap,rfl,_⟩:=a3;rfl
 have he1:h3.obj (σ.next+1)=some [.int .i64 0,.fz true .nils 0 [],.fz true .nils 0 []]:=q1.trans e1;have kk3:=k3.next;have nk1:¬σ.next+1=h3.next:=by omega
 have ewr:h3.wr (σ.next+1) 0 [.int .i64 2,.sl h3.next 0 1 (.known 1),v3]=some (h3.set (σ.next+1) [.int .i64 2,.sl h3.next 0 1 (.known 1),v3]):=zCd he1 rfl (by obtain⟨s,cap,rfl,_⟩:=a3;rfl)
 simp only [pwA,seval,-iQ0,a3.one,c3,nk1,ewr,z3,hq.O.one,hq.P.one,hq.C.one];obtain⟨s4,cap4,rfl,c4,o4,l4,b4,b5⟩:=a3;have ns1:¬s4=σ.next+1:=fun e=>p1 0 _ _ (by rw [e])
 refine zKU (M:=[x,w]++L) (((k3.set (Nat.le_succ _) _).new _).up ht7) ⟨s4,cap4,rfl,c4,?_,l4,b4,Nat.lt_succ_of_lt b5⟩ ?_ (by omega) (fun off l c e=>?_) hq (All2.append (((All2.nil FI).snoc hv5).snoc ⟨ww,aw,rfl⟩) hrg) (by simp;omega) (Nat.lt_succ_self _) fun vL H2 fL k2 hg2 gl=>hk 2 _ _ _ vL 0 H2 (.inr (.inr ⟨hO,mm,w,hf,hw,.inr ⟨by omega,⟨rfl,rfl,rfl⟩,rfl⟩⟩)) (.inr ⟨_,_,wO,wP,wC,O,P,C,rfl,rfl,hg2,by omega,gl,hq⟩) fL k2
 ·show((h3.set _ _).new _).obj s4=_
  rw [zG,if_neg (show ¬s4=(h3.set _ _).next from Nat.ne_of_lt b5),zI,if_neg ns1,o4]
 ·show((h3.set _ _).new _).obj h3.next=_
  rw [zG];exact if_pos rfl
 ·simp only [PV.sl.injEq]at e
  omega
theorem zDx (sz:SzP O P C) (hR:IsPr vO vP vC O P C) (hL:FII vL L) (szL:SzL L) (hx:FI vx x) (szx:x.length≤1048576)
  (hk:∀k G Z vG vZ c h,ORes O P C L x k G Z c→GSt h σ.next vG G→FII vZ Z→Keep σ h→K (.tup [.agg [.int .i64 k,vG,vZ],.int .i64 c]) h):zA Tryz.prog 25 [.agg [vO,vP,vC],vL,vx] σ K:=by
 have g0:=hR.O.one;have g1:=hR.P.one;have g2:=hR.C.one;have hkp:Keep σ ((σ.new [vO,vP,vC]).new [.int .i64 0,.fz true .nils 0 [],.fz true .nils 0 []]):=(zB _ _).new _;have hs:PtrG ((σ.new [vO,vP,vC]).new [.int .i64 0,.fz true .nils 0 [],.fz true .nils 0 []]) σ.next vO vP vC:=⟨by simp only [pwA,seval,-iQ0],by show σ.next<σ.next+1+1;omega⟩
 have nilE:∀{c:Int} {g:PHeap},Keep σ g→ORes O P C L x 0 [] [] c→Gh σ K (.tup [.agg [.int .i64 0,.fz true .nils 0 [],.fz true .nils 0 []],.int .i64 c]) g:=fun {c g} kk h=>
  Gh.ret (hk 0 [] [] _ _ c g h (.inl ⟨rfl,rfl⟩) ⟨true,.nils,[],rfl,All2.nil _⟩ kk)
 have hL0:=hL;obtain⟨wl,al,rl,rfl,hrl⟩:=hL;have hx0:=hx;obtain⟨wx,ax,rfl⟩:=hx;refine zA.gh ?_;refine zC mix Tryz.func25 ?_
 conv=>arg 2;cbv
 refine zD rfl ?_;simp only [pwA,seval,-iQ0,g0,g1,g2];refine zAu hs hR sz hL0 szL fun t ht=>?_
 cases t with
 | false=>
  simp only [pwA,seval,-iQ0,g0,g1,g2];exact nilE hkp (.inl ⟨fun h=>(by cases ht.2 h.1),⟨rfl,rfl,rfl⟩,rfl⟩)
 | true=>
 by_cases h6:L.length≤6
 rotate_left
 ·have n6:(6:Int)<(L.length:Int):=by omega
  simp only [pwA,seval,-iQ0,n6];exact nilE hkp (.inl ⟨fun h=>h6 h.2.1,⟨rfl,rfl,rfl⟩,rfl⟩)
 have n6:¬(6:Int)<(L.length:Int):=by omega
 have hp:=(ht.1 rfl).1.1;simp only [pwA,seval,-iQ0,n6];refine qj hs hR.O sz.O hp.isp hx0 szx fun t2 ht2=>?_
 cases t2 with
 | false=>
  simp only [pwA,seval,-iQ0,g0,g1,g2];exact nilE hkp (.inl ⟨fun h=>(by cases ht2.2 h.2.2),⟨rfl,rfl,rfl⟩,rfl⟩)
 | true=>
 have hO:OutG O P C L x:=⟨ht.1 rfl,h6,ht2.1 rfl⟩;have lg:=hO.lg;simp only [pwA,seval,-iQ0];refine zGW lg hs hR hL0 hO.gs (by omega) fun vU u t1 fU hu oU ht1=>?_
 have hul:=hu.len;have hn6:=lg.s.le;simp only [pwA,seval,-iQ0,fU.one];refine zAa lg (hs.keep ((Keep.refl _).up ht1)) hR fU (zJR lg hO.sub hu) hO.2.2.gS hx0 fun t ht3=>?_
 have hm:=canGC lg hO.sub hu x;cases t with
 | true=>
  simp only [pwA,seval,-iQ0,g0,g1,g2];exact nilE (hkp.up ht1) (.inr (.inl ⟨hO,hm.1 (ht3.1 rfl),⟨rfl,rfl,rfl⟩,rfl⟩))
 | false=>
 have hng:¬GC O P C L x:=fun h=>by cases ht3.2 (hm.2 h)
 simp only [pwA,seval,-iQ0];refine zA.fzIT (fun K' k'=>ZP rfl (by omega) k') fun v5 t5 hv5 ho5 ht5=>?_
 simp only [pwA,seval,-iQ0,hv5.one,hv5.cells];refine Qp szL.r (by omega) hL0 fun vg t6 fg og ht6=>?_
 obtain⟨wg,ag,rg,rfl,hrg⟩:=fg;obtain⟨wu,au,ru,rfl,hru⟩:=fU;have ht1':σ.top≤t1:=ht1;have ht5':t1≤t5:=ht5;have ht6':t5≤t6:=ht6;have oU':Owns σ.top t1 ru:=Own.rows oU;have o5':Own t1 t5 v5:=ho5;have og':Owns t5 t6 rg:=Own.rows og;generalize hH:(((((((σ.new [vO,vP,vC]).new [PV.int IntKind.i64 0,PV.fz true AV.nils 0 [],PV.fz true AV.nils 0 []]).new [PV.int IntKind.i64 ↑L.length]).new [v5,PV.sl (σ.next+2) 0 1 (Cap.known 1)]).up t1).up t5).up t6)=H at *
 have kH:Keep σ H:=by rw [←hH];exact((((hkp.new _).new _).up ht1).up ht5).up ht6
 have nH:H.next=σ.next+4:=by rw [←hH];rfl
 have tH:H.top=t6:=by rw [←hH];rfl
 have e0:H.obj σ.next=some [vO,vP,vC]:=by rw [←hH];simp only [pwA,seval,-iQ0]
 have e1:H.obj (σ.next+1)=some [.int .i64 0,.fz true .nils 0 [],.fz true .nils 0 []]:=by rw [←hH];simp only [pwA,seval,-iQ0]
 have e2:H.obj (σ.next+2)=some [.int .i64 L.length]:=by rw [←hH];simp only [pwA,seval,-iQ0]
 have e3:H.obj (σ.next+3)=some [v5,.sl (σ.next+2) 0 1 (.known 1)]:=by rw [←hH];simp only [pwA,seval,-iQ0]
 simp only [pwA,seval,-iQ0];refine PSl.catK (bytes:=24) (σb:=σ) (n:=2) kH ⟨_,_,rfl,.inr rfl,e3,rfl,by omega,by omega⟩ (by rw [hrg.1]) (by omega) (by omega) fun v2 h2 k2 a2 s2 n2 t2=>?_
 have nn:∀{t:Nat},t<3→∀off l c,PV.sl (σ.next+3) 0 2 (Cap.known 2)≠.sl (σ.next+t) off l c:=fun ht off l c e=>by
  simp only [PV.sl.injEq]at e
  omega
 obtain⟨f0,m0⟩:=s2 σ.next (by omega) (nn (t:=0) (by omega))
 obtain⟨f1,m1⟩:=s2 (σ.next+1) (by omega) (nn (t:=1) (by omega))
 obtain⟨f2,m2⟩:=s2 (σ.next+2) (by omega) (nn (t:=2) (by omega))
 have hs2:PtrG h2 σ.next vO vP vC:=⟨f0.trans e0,by omega⟩
 simp only [pwA,seval,-iQ0,a2.one];refine Qb lg.s hs2 hR fun wO wP wC t7 hq oq ht7=>?_
 have oq':Owns t6 t7 [wO,wP,wC]:=by rw [t2,tH]at oq;exact oq
 have ht7':t6≤t7:=by rw [t2,tH]at ht7;exact ht7
 have z3:ofAVs (zeros [.nils,.nils,.nils] 1)=[.fz true .nils 0 [],.fz true .nils 0 [],.fz true .nils 0 []]:=rfl;simp only [pwA,seval,-iQ0,a2.one,z3,hq.O.one,hq.P.one,hq.C.one];refine PSl.catK (bytes:=24) (σb:=σ) (h:=(h2.new [wO,wP,wC]).up t7) ((k2.new _).up ht7) (a2.keep ((zB _ _).up ht7)) (by rw [hru.1]) (by omega) (by omega) fun v3 h3 k3 a3 s3 n3 t3=>?_
 have lt2:∀{t:Nat},t<h2.next+1→t<((h2.new [wO,wP,wC]).up t7).next:=fun h=>h
 have eg:∀t,t<h2.next→((h2.new [wO,wP,wC]).up t7).obj t=h2.obj t:=fun t h=>by
  show(h2.new [wO,wP,wC]).obj t=_
  rw [zG,if_neg (Nat.ne_of_lt h)]
 have eg2:((h2.new [wO,wP,wC]).up t7).obj h2.next=some [wO,wP,wC]:=by
  show(h2.new [wO,wP,wC]).obj h2.next=_
  rw [zG,if_pos rfl]
 obtain⟨q1,p1⟩:=s3 (σ.next+1) (lt2 (by omega)) m1
 obtain⟨q2,p2⟩:=s3 (σ.next+2) (lt2 (by omega)) m2
 obtain⟨q3,p3⟩:=s3 h2.next (lt2 (by omega)) (a2.acc.ne (Nat.le_refl _))
 have c3:v3.cells=[v3]:=by obtain⟨s,cap,rfl,_⟩:=a3;rfl
 have he1:h3.obj (σ.next+1)=some [.int .i64 0,.fz true .nils 0 [],.fz true .nils 0 []]:=q1.trans ((eg _ (by omega)).trans (f1.trans e1))
 have ewr:h3.wr (σ.next+1) 0 [.int .i64 3,.sl h2.next 0 1 (.known 1),v3]=some (h3.set (σ.next+1) [.int .i64 3,.sl h2.next 0 1 (.known 1),v3]):=zCd he1 rfl (by obtain⟨s,cap,rfl,_⟩:=a3;rfl)
 have n31:h2.next+1≤h3.next:=n3;simp only [pwA,seval,-iQ0,a3.one,c3,ewr];obtain⟨s4,cap4,rfl,c4,o4,l4,b4,b5⟩:=a3;have ns1:¬s4=σ.next+1:=fun e=>p1 0 _ _ (by rw [e])
 have top3:h3.top=t7:=t3;refine zKT (x:=x) (fx:=v5) (rows:=rg++ru) (M:=L++u) (s1:=σ.next+2) (z:=L.length) (k3.set (Nat.le_succ _) _) ⟨s4,cap4,rfl,c4,?_,?_,b4,b5⟩ ?_ (by omega) ?_ (by omega) (by omega) p2 p3 hq hv5 (All2.append hrg hru) (by rw [List.length_append];omega) (by show h2.next<h3.next;omega) fun vL H2 fL k2' hg2 gl=>hk 3 _ _ _ vL 0 H2 (.inr (.inr ⟨hO,hng,⟨rfl,rfl,u,hu,rfl⟩,rfl⟩)) (.inr ⟨_,_,wO,wP,wC,O,P,C,rfl,rfl,hg2,by omega,gl,hq⟩) fL k2'
 ·rw [zI,if_neg ns1,o4,List.append_assoc]
 ·rw [←List.append_assoc];exact l4
 ·rw [zI,if_neg (by omega)];exact q2.trans ((eg _ (by omega)).trans (f2.trans e2))
 ·rw [zI,if_neg (by omega)];exact q3.trans eg2
end Go.Proofs
namespace Go.Grp
end Go.Grp
namespace Go.Proofs
open Go.Ab Go.Lie Go.Grp
variable {σ h hE:PHeap} {K:PV→PHeap→Prop} {O x y:List Int} {P:List (List Int)} {C:List (List (List Int))} {vO vP vC vx vL vU:PV} {L u:List (List Int)} {sp:Nat}
def evW (O:List Int) (P:List (List Int)) (C:List (List (List Int))) (L:List (List Int)) (w:List Int):List Int:=w.foldl (fun a k=>gm O P C a (L.getD (k-1).toNat [])) (zv O)
theorem zFM {w:List Int} {k:Int}:evW O P C L (w++[k])=gm O P C (evW O P C L w) (L.getD (k-1).toNat []):=by unfold evW;rw [List.foldl_append];rfl
def WfS (O:List Int) (P:List (List Int)) (C:List (List (List Int))) (L:List (List Int)) (s:BS):Prop:=s.2.length=s.1.length∧∀(i:Nat) (a w:List Int),s.1[i]? = some a→s.2[i]? = some w→evW O P C L w=a∧∀k∈w,1≤k∧k≤(L.length:Int)
theorem WfS.vst {s:BS} (o:WfS O P C L s) {y w:List Int} (hy:evW O P C L w=y) (hw:∀k∈w,1≤k∧k≤(L.length:Int)):WfS O P C L (vst s y w):=by
 unfold Go.Proofs.vst
 by_cases hm:y∈s.1
 ·rw [if_pos hm];exact o
 rw [if_neg hm];refine⟨by simp [o.1],fun i a v ha hv=>?_⟩
 have hl:=o.1;rcases Nat.lt_trichotomy i s.1.length with h|h|h
 ·rw [List.getElem?_append_left h]at ha
  rw [List.getElem?_append_left (by omega)]at hv
  exact o.2 i a v ha hv
 ·subst h
  rw [List.getElem?_append_right (Nat.le_refl _),Nat.sub_self]at ha
  rw [List.getElem?_append_right (by omega),hl,Nat.sub_self]at hv
  simp only [List.getElem?_cons_zero,Option.some.injEq]at ha hv
  subst ha;subst hv;exact⟨hy,hw⟩
 ·rw [List.getElem?_eq_none (by simp;omega)]at ha
  cases ha
theorem WfS.nxt {s:BS} {a w:List Int} (ha:evW O P C L w=a) (hw:∀k∈w,1≤k∧k≤(L.length:Int)) (o:WfS O P C L s):∀{j},j≤L.length→WfS O P C L (nxt O P C L a w j s)
 | 0,_=>o
 | j+1,hj=>by
  unfold Go.Proofs.nxt;refine(WfS.nxt ha hw o (j:=j) (by omega)).vst ?_ fun k hk=>?_
  ·rw [zFM,ha]
   have e:((j:Int)+1-1).toNat=j:=by omega
   rw [e]
  ·rcases List.mem_append.1 hk with hk | hk
   ·exact hw k hk
   ·rw [List.mem_singleton.1 hk];omega
theorem WfS.stt:∀{k:Nat},(∀i,i<k→i<(stt O P C L i).1.length)→WfS O P C L (stt O P C L k)
 | 0,_=>by
  refine⟨rfl,fun i a w ha hw=>?_⟩
  cases i with
  | zero=>
   simp only [Go.Proofs.stt,List.getElem?_cons_zero,Option.some.injEq]at ha hw
   subst ha;subst hw;exact⟨rfl,fun k hk=>by cases hk⟩
  | succ i=>simp [Go.Proofs.stt]at ha
 | k+1,hk=>by
  have ih:=WfS.stt (k:=k) fun i hi=>hk i (by omega)
  have hlt:=hk k (Nat.lt_succ_self _);have hl:=ih.1;unfold Go.Proofs.stt;have e1:(Go.Proofs.stt O P C L k).1[k]? = some ((Go.Proofs.stt O P C L k).1.getD k []):=by rw [List.getD_eq_getElem?_getD,List.getElem?_eq_getElem hlt];rfl
  have e2:(Go.Proofs.stt O P C L k).2[k]? = some ((Go.Proofs.stt O P C L k).2.getD k []):=by rw [List.getD_eq_getElem?_getD,List.getElem?_eq_getElem (by omega)];rfl
  obtain⟨q1,q2⟩:=ih.2 k _ _ e1 e2;exact WfS.nxt q1 q2 ih (Nat.le_refl _)
theorem Fnd.word {w x:List Int} {m:Nat} (a:Fnd O P C L x m) (hw:(stt O P C L m).2[m]? = some w):evW O P C L w=x∧∀k∈w,1≤k∧k≤(L.length:Int):=(WfS.stt a.lt).2 m x w a.hit hw
theorem zL5 {n:Int} (hn:0≤n∧n≤1000000) (hk:K (.int .i64 n) σ):zA Tryz.prog 209 [.int .i64 n] σ K:=by
 have w:IntKind.i64.wrap (0-n)=-n:=by rw [wrap64 (by omega) (by omega)];omega
 have e:max n (-n)=n:=by omega
 refine zC mix Tryz.func209 ?_
 conv=>arg 2;cbv
 refine zD rfl ?_;simp only [pwA,seval,-iQ0,w,e];exact hk
theorem zFj {n:Nat} {w:List Int} {vw:PV} (hw:FI vw w) (hl:∀k∈w,1≤k∧k≤(n:Int)) (hwl:w.length≤64) (hn:n≤1000) (hk:K (.bool true) σ):zA Tryz.prog 168 [.int .i64 n,vw] σ K:=by
 obtain⟨ww,aw,rfl⟩:=hw;refine zC mix Tryz.func168 ?_
 conv=>arg 2;cbv
 refine zD rfl ?_;simp only [pwA,seval,-iQ0];refine zF (fun m vs h=>∃(i:Nat),i≤w.length∧m=w.length-i∧vs=[.int .i64 n,.fz ww aw w.length (pis w),.fz ww aw w.length (pis w),.int .i64 w.length,.int .i64 i]∧h=σ) w.length ?_ ?_
 ·exact⟨0,Nat.zero_le _,rfl,rfl,rfl⟩
 rintro m vs h ⟨i,hi,rfl,rfl,rfl⟩
 simp only [pwA,seval,-iQ0];refine iteI (fun hlt=>?_) fun hge=>?_
 rotate_left
 ·have h64:(w.length:Int)≤64:=by omega
  simp only [pwA,seval,-iQ0,h64];exact hk
 have hlt':(i:Int)<(w.length:Int):=by omega
 have gx:(pis w)[i]? = some (.int .i64 w[i]):=by rw [zL,gi hlt];rfl
 have lw:=hl _ (List.getElem_mem hlt);have d0:¬w[i]=0:=by omega
 have wn:IntKind.i64.wrap (0-(n:Int))=-(n:Int):=by rw [wrap64 (by omega) (by omega)];omega
 simp only [pwA,seval,-iQ0,hlt,hlt',gx,d0,wn];refine QZ ?_;have hin:-(n:Int)≤w[i]∧w[i]≤(n:Int):=⟨by omega,lw.2⟩
 simp only [pwA,seval,-iQ0,hin,wrapS hlt (by omega:w.length≤4611686018427387904)]
 exact⟨_,by omega,i+1,by omega,rfl,rfl⟩
theorem zLw (s:Shp O P C) (F:Full O P C O.length) (hL:∀l∈L,gS O l):∀{w:List Int},(∀k∈w,1≤k∧k≤(L.length:Int))→gS O (evW O P C L w):=by
 intro w;have key:∀(w:List Int) (a:List Int),gS O a→(∀k∈w,1≤k∧k≤(L.length:Int))→gS O (w.foldl (fun a k=>gm O P C a (L.getD (k-1).toNat [])) a):=by
  intro w
  induction w with
  | nil=>exact fun a ha _=>ha
  | cons k w ih=>
   intro a ha hw;have hk:=hw k (List.mem_cons_self ..);refine ih _ (F.g.cl ha ?_) fun k' hk'=>hw k' (List.mem_cons_of_mem _ hk')
   have hj:(k-1).toNat<L.length:=by omega
   rw [List.getD_eq_getElem?_getD,List.getElem?_eq_getElem hj];exact hL _ (List.getElem_mem hj)
 exact key w _ (s.zv _)
theorem zGY {w:List Int} {vw:PV} {wD:Bool} {aD:AV} {rD:List PV} (g:LG O P C) (hs:PtrG σ sp vO vP vC) (hR:IsPr vO vP vC O P C) (hw:FI vw w) (hl:∀k∈w,1≤k∧k≤(L.length:Int)) (hwl:w.length≤64) (hD:All2 FI rD L) (hDl:L.length≤100) (hg:∀y∈L,gS O y)
  (hk:∀cap,full 1 cap O.length→K (.sl σ.next 0 O.length cap) (σ.new (pis (evW O P C L w)))):zA Tryz.prog 169 [.ptr sp 0,vw,.fz wD aD L.length rD] σ K:=by
 have s:=g.s;have F:=g.F;have hl6:=s.le;have hspl:=hs.lt;have hR0:=hR;obtain⟨⟨wO,aO,rfl⟩,_,_⟩:=hR;have r0:σ.rd1 sp 0=some (.fz wO aO O.length (pis O)):=by rw [zH hs.obj];rfl
 obtain⟨ww,aw,rfl⟩:=hw;refine zC mix Tryz.func169 ?_
 conv=>arg 2;cbv
 refine zD rfl ?_;simp only [pwA,seval,-iQ0,r0,zf,mk8 (n:=O.length) (by omega),Go.Ab.mkL (n:=O.length) (by omega)]
 refine zF (fun m vs h=>∃(i:Nat),i≤w.length∧m=w.length-i∧vs=[.ptr sp 0,.fz wD aD L.length rD,.sl σ.next 0 O.length (.known O.length),.fz ww aw w.length (pis w),.int .i64 w.length,.int .i64 i]∧h=σ.new (pis (evW O P C L (w.take i)))) w.length ?_ ?_
 ·exact⟨0,Nat.zero_le _,rfl,rfl,rfl⟩
 rintro m vs h ⟨i,hi,rfl,rfl,rfl⟩
 simp only [pwA,seval,-iQ0];refine iteI (fun hlt=>?_) fun hge=>?_
 rotate_left
 ·have e:w.take i=w:=List.take_of_length_le (by omega)
  rw [e];exact hk _ (.inr rfl)
 have hlt':(i:Int)<(w.length:Int):=by omega
 have gx:(pis w)[i]? = some (.int .i64 w[i]):=by rw [zL,gi hlt];rfl
 have lw:=hl _ (List.getElem_mem hlt);obtain⟨j,hj⟩:∃j:Nat,w[i]=(j:Int)+1:=⟨(w[i] - 1).toNat,by omega⟩
 have hjD:j<L.length:=by omega
 have hjD':(j:Int)<(L.length:Int):=by omega
 obtain⟨w5,a5,hr5⟩:=hD.rowI hjD;have wj:IntKind.i64.wrap ((j:Int)+1-1)=(j:Int):=by rw [wrap64 (by omega) (by omega)];omega
 have dn:¬(j:Int)+1<0:=by omega
 rw [hj]at gx
 simp only [pwA,seval,-iQ0,hlt,hlt',gx,hj];refine zL5 (by omega) ?_
 simp only [pwA,seval,-iQ0,wj,hjD,hjD',hr5,dn];have hy:gS O (evW O P C L (w.take i)):=zLw s F hg fun k hk'=>hl k (List.mem_of_mem_take hk')
 have hgj:=hg _ (List.getElem_mem hjD);refine qh (x:=evW O P C L (w.take i)) (f:=L[j]) s F (hs.new _) hR0 (by rw [zG,if_pos rfl]) (Nat.lt_succ_self _) (by omega) (.inr rfl) (by rw [Nat.sub_self];exact hy) (by rw [Nat.sub_self];exact hgj) ⟨w5,a5,rfl⟩ ?_
 have e2:(σ.new (pis (evW O P C L (w.take i)))).set σ.next (pis (mu O P C O.length (evW O P C L (w.take i)) L[j]))=σ.new (pis (evW O P C L (w.take (i+1)))):=by
  have e3:evW O P C L (w.take (i+1))=mu O P C O.length (evW O P C L (w.take i)) L[j]:=by
   rw [List.take_succ_eq_append_getElem hlt,zFM,hj];have e:((j:Int)+1-1).toNat=j:=by omega
   rw [e,List.getD_eq_getElem?_getD,List.getElem?_eq_getElem hjD]
   rfl
  rw [e3];unfold PHeap.set PHeap.new
  congr 1
  funext q
  by_cases e:q=σ.next<;>simp [e]
 rw [e2];generalize hG:σ.new (pis (evW O P C L (w.take (i+1))))=G at *
 simp only [pwA,seval,-iQ0,wrapS hlt (by omega:w.length≤4611686018427387904)]
 exact⟨_,by omega,i+1,by omega,rfl,rfl,hG.symm⟩
end Go.Proofs
namespace Go.Grp
end Go.Grp
namespace Go.Proofs
open Go.Ab Go.Lie Go.Grp
variable {σ h hE:PHeap} {K:PV→PHeap→Prop} {O x y w:List Int} {P:List (List Int)} {C:List (List (List Int))} {vO vP vC vx vL vU vZ:PV} {L u:List (List Int)} {sp:Nat}
theorem gS.isExp (h:gS O x):isExp O x:=⟨h.len,fun j hj=>by have:=h.bd j (by have:=h.len;omega);omega⟩
theorem zCr (g:LG O P C) (hs:PtrG σ sp vO vP vC) (hR:IsPr vO vP vC O P C) (sz:SzP O P C) (hZ:FII vZ ([x,w]++L)) (hL6:L.length≤6) (hx:gS O x) (hg:∀y∈L,gS O y) (hl:∀k∈w,1≤k∧k≤(L.length:Int)) (hwl:w.length≤64) (hev:evW O P C L w=x)
  (hk:K (.bool true) σ):zA Tryz.prog 100 [.ptr sp 0,vZ] σ K:=by
 have s:=g.s;have hl6:=s.le;obtain⟨wZ,aZ,rZ,rfl,hrZ⟩:=hZ;have hZl:([x,w]++L).length=L.length+2:=by simp only [List.length_append,List.length_cons,List.length_nil];omega
 obtain⟨r0,r1,rL,rfl⟩:∃r0 r1 rL,rZ=r0::r1::rL:=by
  have:=hrZ.1
  match rZ,this with
  | [],h=>simp at h
  | [_],h=>simp at h
  | r0::r1::rL,_=>exact⟨r0,r1,rL,rfl⟩
 obtain⟨h0,hrest⟩:=All2.tl hrZ;obtain⟨h1,hL'⟩:=All2.tl hrest;have hL:All2 FI rL L:=hL';have one0:=h0.one;have one1:=h1.one;have c0:r0.cells=[r0]:=by obtain⟨w5,a5,rfl⟩:=h0;rfl
 have hLb:Bels 0 rL:=hL.bI 0;have hrl:rL.length=L.length:=hL.1;refine zA.gh ?_;refine zC mix Tryz.func100 ?_
 conv=>arg 2;cbv
 refine zD rfl ?_;have d2:¬(((L.length+2:Nat):Int)<2):=by omega
 have d8:¬(8<((L.length+2:Nat):Int)):=by omega
 have z0:(0:Int)<((L.length+2:Nat):Int):=by omega
 have z1:(1:Int)<((L.length+2:Nat):Int):=by omega
 rw [hZl];have z2:(2:Int)≤((L.length+2:Nat):Int):=by omega
 have z2':2≤L.length+2:=by omega
 have e2:L.length+2-2=L.length:=by omega
 have e3:List.take L.length rL=rL:=List.take_of_length_le (by omega)
 simp only [pwA,seval,-iQ0,d2,d8,z0,z1,z2,z2',e2,e3,one0,one1,List.drop_succ_cons,List.drop_zero];refine zC2 hrl hLb (by omega) fun v1 h1' k1 q1=>?_
 simp only [pwA,seval,-iQ0,one0,c0];refine PQ.push (bytes:=24) (σb:=σ) k1 q1 (by omega) (by omega) fun v2 h2 k2 q2=>?_
 obtain⟨qa,qb,qc⟩|⟨s2,off,cap,row,rfl,f2,ob2,tk2,le2,b2,l2⟩:=q2
 ·omega
 have hs2:PtrG h2 sp vO vP vC:=hs.keep k2;simp only [pwA,seval,-iQ0];have hLx:All2 FI (rL++[r0]) (L++[x]):=hL.snoc h0;have hlx:(L++[x]).length=L.length+1:=by simp
 have hex:∀y∈L++[x],isExp O y:=fun y hy=>by
  rcases List.mem_append.1 hy with hy|hy
  ·exact gS.isExp (hg y hy)
  ·rw [List.mem_singleton.1 hy];exact gS.isExp hx
 have hszx:SzL (L++[x]):=⟨by rw [hlx];omega,fun y hy=>by have:=(hex y hy).1;omega⟩
 have ae:∀{K':PV→PHeap→Prop},K' (.bool true) h2→zA Tryz.prog 54 [.ptr sp 0,.sl s2 off (L.length+1) cap] h2 K':=fun {K'} hk'=>by
  have:=zBQ (σ:=h2) (K:=K') (xs:=L++[x]) (cap:=cap) ob2 (by rw [hlx];exact tk2) hLx hs2 hR sz hszx fun t ht=>by
   have e:t=true:=ht.2 ⟨⟨g.pr,g.co⟩,hex⟩;rw [e];exact hk'
  rw [hlx]at this;exact this
 refine ae ?_;simp only [pwA,seval,-iQ0];refine zFj h1 hl hwl (by omega) ?_
 simp only [pwA,seval,-iQ0,one1];refine zA.fz (l:=O.length) (e:=1) (cs:=pis x) (fun K' k'=>zGY g hs2 hR h1 hl hwl hL (by omega) hg fun cap2 hc2=>by rw [hev];exact k' cap2 hc2) (zM _ _) fun o cap2=>?_
 obtain⟨w0,a0,rfl⟩:=h0;simp only [pwA,seval,-iQ0];refine Zw hx.len.symm rfl (by have:=hx.len;omega) ?_
 simp only [pwA,seval,-iQ0];exact Gh.fin0 k2 trivial hk
end Go.Proofs
namespace Go.Grp
end Go.Grp
namespace Go.Proofs
open Go.Ab Go.Lie Go.Grp
variable {σ h hE:PHeap} {K:PV→PHeap→Prop} {O x y w:List Int} {P:List (List Int)} {C:List (List (List Int))} {vO vP vC vx vL vU vZ:PV} {L u:List (List Int)} {sp:Nat}
theorem zCG (g:LG O P C) (hs:PtrG σ sp vO vP vC) (hR:IsPr vO vP vC O P C) (sz:SzP O P C) (hZ:FII vZ ([x,[(L.length:Int)]]++(L++u))) (hL6:L.length≤6) (hx:gS O x) (hg:∀y∈L,gS O y) (hu:QW O P C u) (hm:∀y,GC O P C u y↔GC O P C L y) (hng:¬GC O P C L x)
  (hk:K (.bool true) σ):zA Tryz.prog 101 [.ptr sp 0,vZ] σ K:=by
 have s:=g.s;have hl6:=s.le;have hul:=hu.len;obtain⟨wZ,aZ,rZ,rfl,hrZ⟩:=hZ;have hZl:([x,[(L.length:Int)]]++(L++u)).length=L.length+u.length+2:=by simp only [List.length_append,List.length_cons,List.length_nil];omega
 obtain⟨r0,r1,rT,rfl⟩:∃r0 r1 rT,rZ=r0::r1::rT:=by
  have:=hrZ.1
  match rZ,this with
  | [],h=>simp at h
  | [_],h=>simp at h
  | r0::r1::rT,_=>exact⟨r0,r1,rT,rfl⟩
 obtain⟨h0,hrest⟩:=All2.tl hrZ;obtain⟨h1,hT'⟩:=All2.tl hrest;have hT:All2 FI rT (L++u):=hT';have hL:All2 FI (rT.take L.length) L:=by have:=hT.take L.length;rwa [List.take_left]at this
 have hU:All2 FI (rT.drop L.length) u:=by have:=hT.drop L.length;rwa [List.drop_left]at this
 have one0:=h0.one;have one1:=h1.one;have c0:r0.cells=[r0]:=by obtain⟨w5,a5,rfl⟩:=h0;rfl
 have hLb:Bels 0 (rT.take L.length):=hL.bI 0;have hrl:(rT.take L.length).length=L.length:=hL.1;obtain⟨w1,a1,rfl⟩:=h1;refine zA.gh ?_;refine zC mix Tryz.func101 ?_
 conv=>arg 2;cbv
 refine zD rfl ?_;obtain⟨N,hN⟩:∃N,N=L.length+u.length+2:=⟨_,rfl⟩
 have d2:¬((N:Int)<2):=by omega
 have z0:(0:Int)<(N:Int):=by omega
 have z1:(1:Int)<(N:Int):=by omega
 have m2:IntKind.i64.wrap ((N:Int)-2)=(N:Int)-2:=wrap64 (by omega) (by omega)
 have g1:(pis [(L.length:Int)])[0]? = some (.int .i64 L.length):=rfl;have o11:(((1:Nat):Int)=1)=True:=by simp
 have o01:(0:Int)<((1:Nat):Int):=by decide
 rw [hZl,←hN];simp only [pwA,seval,-iQ0,d2,z0,z1,one0,m2,g1,o11,o01];refine QZ ?_;have hin:0≤(L.length:Int)∧(L.length:Int)≤min 6 ((N:Int)-2):=by omega
 have w2:IntKind.i64.wrap (2+(L.length:Int))=((2+L.length:Nat):Int):=by rw [wrap64 (by omega) (by omega)];omega
 have b1:((2+L.length:Nat):Int)≤(N:Int):=by omega
 have b1':2+L.length≤N:=by omega
 have b2:(2:Int)≤((2+L.length:Nat):Int):=by omega
 have b2':2≤2+L.length:=by omega
 have b3:2+L.length-2=L.length:=by omega
 have b4:N-(2+L.length)=u.length:=by omega
 have b5:(2:Int)≤(N:Int):=by omega
 have b6:List.drop (2+L.length) (r0::PV.fz w1 a1 1 (pis [(L.length:Int)])::rT)=rT.drop L.length:=by rw [Nat.add_comm];rfl
 have b7:List.take u.length (rT.drop L.length)=rT.drop L.length:=List.take_of_length_le (by rw [hU.1];exact Nat.le_refl _)
 simp only [pwA,seval,-iQ0,hin,d2,z0,z1,one0,m2,g1,o11,o01,w2,b1,b1',b2,b2',b3,b4,b5,b6,b7,List.drop_succ_cons,List.drop_zero];generalize hvL:PV.fz false (pslA 1 aZ 2 (2+L.length)) L.length (List.take L.length rT)=vL;generalize hvU:PV.fz false (pslA 1 aZ (2+L.length) N) u.length (List.drop L.length rT)=vU;have fU:FII vU u:=by rw [←hvU];exact⟨false,_,_,rfl,hU⟩
 have fL:FII vL L:=by rw [←hvL];exact⟨false,_,_,rfl,hL⟩
 have oneU:=fU.one;have oneL:=fL.one;have cU:vU.cells=[vU]:=by rw [←hvU];rfl
 have szU:SzL u:=⟨by omega,fun y hy=>by have:=(hu.1 y hy).len;omega⟩
 rw [←hvL];refine zC2 hrl hLb (by omega) fun v1 h1' k1 q1=>?_
 rw [hvL];simp only [pwA,seval,-iQ0,one0,c0,oneU,oneL];refine PQ.push (bytes:=24) (σb:=σ) k1 q1 (by omega) (by omega) fun v2 h2 k2 q2=>?_
 obtain⟨qa,qb,qc⟩|⟨s2,off,cap,row,rfl,f2,ob2,tk2,le2,bb2,l2⟩:=q2
 ·omega
 have hs2:PtrG h2 sp vO vP vC:=hs.keep k2;have hLx:All2 FI (rT.take L.length++[r0]) (L++[x]):=hL.snoc h0;have hlx:(L++[x]).length=L.length+1:=by simp
 have hex:∀y∈L++[x],isExp O y:=fun y hy=>by
  rcases List.mem_append.1 hy with hy|hy
  ·exact gS.isExp (hg y hy)
  ·rw [List.mem_singleton.1 hy];exact gS.isExp hx
 have hszx:SzL (L++[x]):=⟨by rw [hlx];omega,fun y hy=>by have:=(hex y hy).1;omega⟩
 have ae:∀{K':PV→PHeap→Prop},K' (.bool true) h2→zA Tryz.prog 54 [.ptr sp 0,.sl s2 off (L.length+1) cap] h2 K':=fun {K'} hk'=>by
  have:=zBQ (σ:=h2) (K:=K') (xs:=L++[x]) (cap:=cap) ob2 (by rw [hlx];exact tk2) hLx hs2 hR sz hszx fun t ht=>by
   have e:t=true:=ht.2 ⟨⟨g.pr,g.co⟩,hex⟩;rw [e];exact hk'
  rw [hlx]at this;exact this
 simp only [pwA,seval,-iQ0,oneU,oneL];refine ae ?_;simp only [pwA,seval,-iQ0,oneU,cU,oneL];refine zDv (σ:=h2.new [vU]) (sl:=h2.next) (by rw [zG,if_pos rfl]) g (hs2.new _) hR sz fU szU fun t ht=>?_
 obtain rfl:t=true:=ht.2 hu;simp only [pwA,seval,-iQ0,oneU,oneL,one0];refine zAa g (hs2.new _) hR fU hu hx h0 fun t ht=>?_
 obtain rfl:t=false:=by
  cases t with
  | false=>rfl
  | true=>exact absurd ((hm x).1 (ht.1 rfl)) hng
 rw [←hvL];simp only [pwA,seval,-iQ0,oneU];generalize hG:h2.new [vU]=G at *
 have kG:Keep σ G:=by rw [←hG];exact k2.new _
 have hsG:PtrG G sp vO vP vC:=hs.keep kG;refine zF (fun m vs h=>∃(i:Nat),i≤L.length∧m=L.length-i∧vs=[.ptr sp 0,vU,.fz false (pslA 1 aZ 2 (2+L.length)) L.length (List.take L.length rT),.int .i64 L.length,.int .i64 i]∧h=G) L.length ?_ ?_
 ·exact⟨0,Nat.zero_le _,rfl,rfl,rfl⟩
 rintro m vs h ⟨i,hi,rfl,rfl,rfl⟩
 simp only [pwA,seval,-iQ0,oneU];refine iteI (fun hlt=>?_) fun hge=>?_
 rotate_left
 ·exact Gh.fin0 kG trivial hk
 have hlt':(i:Int)<(L.length:Int):=by omega
 obtain⟨w4,a4,hr⟩:=hL.rowI hlt;simp only [pwA,seval,-iQ0,hlt,hlt',hr,oneU];refine zAa g hsG hR fU hu (hg _ (List.getElem_mem hlt)) ⟨w4,a4,rfl⟩ fun t ht=>?_
 obtain rfl:t=true:=ht.2 ((hm _).2 (GC.mem (List.getElem_mem hlt)));simp only [pwA,seval,-iQ0,oneU,wrapS hlt (by omega:L.length≤4611686018427387904)]
 exact⟨_,by omega,i+1,by omega,rfl,rfl⟩
end Go.Proofs
namespace Go.Grp
end Go.Grp
namespace Go.Proofs
open Go.Ab Go.Lie Go.Grp
variable {σ h hE:PHeap} {K:PV→PHeap→Prop} {O x y w:List Int} {P:List (List Int)} {C:List (List (List Int))} {vO vP vC vx vL vU vZ:PV} {L u:List (List Int)} {sp s:Nat} {k:Int}
theorem zAR {tg:Nat} {cap:Cap} (hs:σ.obj s=some [.int .i64 k,.sl tg 0 1 cap,vL]) (hsl:s<σ.next) (ot:σ.obj tg=some [vO,vP,vC]) (htl:tg<σ.next) (hp:IsPr vO vP vC O P C) (sz:SzP O P C) (hL:FII vL L) (hin:1≤k∧k≤6) (hneed:need k=1) (pr:zW O P C) (hl32:L.length≤32) (hb:∀l∈L,l.length≤128∧∀x∈l,-1000000≤x∧x≤1000000)
  (hk:K (.bool true) σ):zA Tryz.prog 46 [.ptr s 0] σ K:=by
 obtain⟨wL,aL,rL,rfl,hrL⟩:=hL;have e0:σ.rd1 s 0=some (.int .i64 k):=by rw [zH hs];rfl
 have e1:σ.rd1 s 1=some (.sl tg 0 1 cap):=by rw [zH hs];rfl
 have e2:σ.rd1 s 2=some (.fz wL aL L.length rL):=by rw [zH hs];rfl
 refine zA.gh ?_;refine zN mix Tryz.func46 cf46 rfl ?_;dsimp only [if46,qI,eI,qD,eD,mI0,kI0,tI0,lI0,LI0,fI0,xI0,bI0,cI0,nI0,sI0,pI0,C1,mD0,lD0,fD0,pD0,I0,G0,gm0,vI0,R0,S0];simp only [pwA,seval,-iQ0,e0];refine QZ ?_;simp only [pwA,seval,-iQ0,hin,e0,e1,e2];refine zDS hin ?_;have hg:((1:Nat):Int)=need k:=by rw [hneed];rfl
 have hl':¬(32:Int)<(L.length:Int):=by omega
 have o11:(((1:Nat):Int)=1)=True:=by simp
 simp only [pwA,seval,-iQ0,e0,e1,e2,hl',hneed,o11];refine zF (fun m us h'=>∃i:Nat,i≤1∧m=1-i∧us=[.ptr s 0,.sl tg 0 1 cap,.int .i64 ((1:Nat):Int),.int .i64 i]∧Keep σ h') 1 ?_ ?_
 ·exact⟨0,by omega,by omega,rfl,Keep.refl σ⟩
 rintro m us h' ⟨i,hi,rfl,rfl,hkp⟩
 have e2':h'.rd1 s 2=some (.fz wL aL L.length rL):=by rw [zH ((hkp.obj _ hsl).trans hs)];rfl
 have rt:h'.rd tg 0 3=some [vO,vP,vC]:=by rw [zT ((hkp.obj _ htl).trans ot)];rfl
 rcases Nat.lt_or_ge i 1 with hi1|hi1
 ·obtain rfl:i=0:=by omega
  have n0:((0:Nat):Int)<((1:Nat):Int):=by omega
  have n00:(0:Int)<((1:Nat):Int):=by omega
  have n01:(0:Nat)<1:=by omega
  simp only [pwA,seval,-iQ0,n0,n00,n01,rt,hp.O.one,hp.P.one,hp.C.one];refine Qg hp sz fun t ht=>?_
  obtain rfl:t=true:=ht.2 pr;simp only [pwA,seval,-iQ0];exact⟨0,by decide,1,by decide,rfl,rfl,hkp.new _⟩
 obtain rfl:i=1:=by omega
 have n1:¬(((1:Nat):Int)<((1:Nat):Int)):=by omega
 simp only [pwA,seval,-iQ0,n1,e2'];refine zF (fun m us h2=>∃i:Nat,i≤L.length∧m=L.length-i∧us=[.fz wL aL L.length rL,.int .i64 L.length,.int .i64 i]∧h2=h') L.length ?_ ?_
 ·exact⟨0,by omega,by omega,rfl,rfl⟩
 clear hi hi1
 rintro m us h2 ⟨i,hi,rfl,rfl,rfl⟩
 simp only [pwA,seval,-iQ0];refine iteI (fun hlt=>?_) fun hge=>?_
 rotate_left
 ·exact Gh.fin0 hkp trivial hk
 obtain⟨w4,a4,hr⟩:=hrL.rowI hlt;have hlt':(i:Int)<(L.length:Int):=by omega
 obtain⟨q1,q2⟩:=hb _ (List.getElem_mem hlt);have h128':¬(128:Int)<(L[i].length:Int):=by omega
 simp only [pwA,seval,-iQ0,hlt,hlt',hr,h128'];refine zF (fun m us h3=>∃q:Nat,q≤L[i].length∧m=L[i].length-q∧us=[.fz wL aL L.length rL,.int .i64 L.length,.int .i64 i,.fz w4 a4 L[i].length (pis L[i]),.int .i64 L[i].length,.int .i64 q]∧h3=h2) L[i].length ?_ ?_
 ·exact⟨0,by omega,by omega,rfl,rfl⟩
 rintro m us h3 ⟨q,hq,rfl,rfl,rfl⟩
 simp only [pwA,seval,-iQ0];refine iteI (fun hlq=>?_) fun hgq=>?_
 rotate_left
 ·simp only [pwA,seval,-iQ0,wrapS hlt (by omega:L.length≤4611686018427387904)]
  exact⟨_,by omega,i+1,by omega,rfl,rfl⟩
 have hv:=q2 _ (List.getElem_mem hlq);have hlq':(q:Int)<(L[i].length:Int):=by omega
 simp only [pwA,seval,-iQ0,hlq,hlq',gi hlq,zL];refine QZ ?_;simp only [pwA,seval,-iQ0,hv,wrapS hlq (by omega:L[i].length≤4611686018427387904)]
 exact⟨_,by omega,q+1,by omega,rfl,rfl⟩
theorem TT.small (s:Shp O P C) (h:gS O x):x.length≤128∧∀a∈x,-1000000≤a∧a≤1000000:=by
 have l6:=s.le;have hl:=h.len;refine⟨by omega,fun a ha=>?_⟩
 obtain⟨j,hj,rfl⟩:=List.mem_iff_getElem.1 ha;have b:=h.bd j (by omega)
 rw [at_eq hj]at b
 have o:=s.pr j (by omega)
 omega
theorem zB6 {tg:Nat} {cap:Cap} (g:LG O P C) (ot:σ.obj tg=some [vO,vP,vC]) (htl:tg<σ.next) (hR:IsPr vO vP vC O P C) (sz:SzP O P C) (hZ:FII vZ ([x,w]++L)) (hL6:L.length≤6) (hx:gS O x) (hg:∀y∈L,gS O y) (hl:∀k∈w,1≤k∧k≤(L.length:Int)) (hwl:w.length≤64) (hev:evW O P C L w=x)
  (hk:K (.tup [.bool true,.int .i64 0]) σ):zA Tryz.prog 14 [.agg [.int .i64 2,.sl tg 0 1 cap,vZ]] σ K:=by
 have zone:=hZ.one;have hb:∀l∈[x,w]++L,l.length≤128∧∀a∈l,-1000000≤a∧a≤1000000:=fun l hl'=>by
  simp only [List.mem_append,List.mem_cons,List.not_mem_nil,or_false]at hl'
  rcases hl' with (rfl|rfl)|h
  ·exact TT.small g.s hx
  ·exact⟨by omega,fun a ha=>by have:=hl a ha;omega⟩
  ·exact TT.small g.s (hg _ h)
 refine zA.gh ?_;refine zC mix Tryz.func14 ?_
 conv=>arg 2;cbv
 refine zD rfl ?_;simp only [pwA,seval,-iQ0,zone];have ob:(σ.new [PV.int .i64 2,.sl tg 0 1 cap,vZ]).obj σ.next=some [.int .i64 2,.sl tg 0 1 cap,vZ]:=by rw [zG,if_pos rfl]
 have ot':(σ.new [PV.int .i64 2,.sl tg 0 1 cap,vZ]).obj tg=some [vO,vP,vC]:=by rw [zG,if_neg (by omega)];exact ot
 have kH:=zB σ [PV.int .i64 2,.sl tg 0 1 cap,vZ];have l1:σ.next<(σ.new [PV.int .i64 2,.sl tg 0 1 cap,vZ]).next:=Nat.lt_succ_self _;have l2:tg<(σ.new [PV.int .i64 2,.sl tg 0 1 cap,vZ]).next:=by show tg<σ.next+1;omega
 generalize σ.new [PV.int .i64 2,.sl tg 0 1 cap,vZ]=H at *
 refine zAR ob l1 ot' l2 hR sz hZ (by decide) rfl g.pr (by simp only [List.length_append,List.length_cons,List.length_nil];omega) hb ?_
 simp only [pwA,seval,-iQ0];have r0:H.rd1 σ.next 0=some (.int .i64 2):=by rw [zH ob];rfl
 have r1:H.rd1 σ.next 1=some (.sl tg 0 1 cap):=by rw [zH ob];rfl
 have r2:H.rd1 σ.next 2=some vZ:=by rw [zH ob];rfl
 have n01:(0:Int)<((1:Nat):Int):=by decide
 have kC:∀{K':PV→PHeap→Prop},K' (.tup [.bool true,.int .i64 0]) H→zA Tryz.prog 47 [.ptr σ.next 0] H K':=fun {K'} hk'=>by
  refine zN mix Tryz.func47 cf47 rfl ?_;dsimp only [if47,qI,eI,qD,eD,mI0,kI0,tI0,lI0,LI0,fI0,bI0,cI0,nI0,sI0,pI0,C1,C2,mD0,lD0,fD0,pD0,I0,G0,gm0,oI0,aI0,vI0,R0,S0];simp only [pwA,seval,-iQ0,r0,r1,r2,n01];refine zCr g ⟨ot',l2⟩ hR sz hZ hL6 hx hg hl hwl hev ?_;simp only [pwA,seval,-iQ0];exact hk'
 refine kC ?_;simp only [pwA,seval,-iQ0];exact Gh.fin0 kH ⟨trivial,trivial,trivial⟩ hk
theorem zB5 {tg:Nat} {cap:Cap} (g:LG O P C) (ot:σ.obj tg=some [vO,vP,vC]) (htl:tg<σ.next) (hR:IsPr vO vP vC O P C) (sz:SzP O P C) (hZ:FII vZ ([x,[(L.length:Int)]]++(L++u))) (hL6:L.length≤6) (hx:gS O x) (hg:∀y∈L,gS O y) (hu:QW O P C u) (hm:∀y,GC O P C u y↔GC O P C L y) (hng:¬GC O P C L x)
  (hk:K (.tup [.bool true,.int .i64 0]) σ):zA Tryz.prog 14 [.agg [.int .i64 3,.sl tg 0 1 cap,vZ]] σ K:=by
 have zone:=hZ.one;have hb:∀l∈[x,[(L.length:Int)]]++(L++u),l.length≤128∧∀a∈l,-1000000≤a∧a≤1000000:=fun l hl'=>by
  simp only [List.mem_append,List.mem_cons,List.not_mem_nil,or_false]at hl'
  rcases hl' with (rfl|rfl)|h|h
  ·exact TT.small g.s hx
  ·exact⟨by simp,fun a ha=>by rw [List.mem_singleton.1 ha];omega⟩
  ·exact TT.small g.s (hg _ h)
  ·exact TT.small g.s (hu.1 _ h)
 refine zA.gh ?_;refine zC mix Tryz.func14 ?_
 conv=>arg 2;cbv
 refine zD rfl ?_;simp only [pwA,seval,-iQ0,zone];have ob:(σ.new [PV.int .i64 3,.sl tg 0 1 cap,vZ]).obj σ.next=some [.int .i64 3,.sl tg 0 1 cap,vZ]:=by rw [zG,if_pos rfl]
 have ot':(σ.new [PV.int .i64 3,.sl tg 0 1 cap,vZ]).obj tg=some [vO,vP,vC]:=by rw [zG,if_neg (by omega)];exact ot
 have kH:=zB σ [PV.int .i64 3,.sl tg 0 1 cap,vZ];have l1:σ.next<(σ.new [PV.int .i64 3,.sl tg 0 1 cap,vZ]).next:=Nat.lt_succ_self _;have l2:tg<(σ.new [PV.int .i64 3,.sl tg 0 1 cap,vZ]).next:=by show tg<σ.next+1;omega
 generalize σ.new [PV.int .i64 3,.sl tg 0 1 cap,vZ]=H at *
 refine zAR ob l1 ot' l2 hR sz hZ (by decide) rfl g.pr (by have:=hu.len;have:=g.s.le;simp only [List.length_append,List.length_cons,List.length_nil];omega) hb ?_
 simp only [pwA,seval,-iQ0];have r0:H.rd1 σ.next 0=some (.int .i64 3):=by rw [zH ob];rfl
 have r1:H.rd1 σ.next 1=some (.sl tg 0 1 cap):=by rw [zH ob];rfl
 have r2:H.rd1 σ.next 2=some vZ:=by rw [zH ob];rfl
 have n01:(0:Int)<((1:Nat):Int):=by decide
 have kC:∀{K':PV→PHeap→Prop},K' (.tup [.bool true,.int .i64 0]) H→zA Tryz.prog 47 [.ptr σ.next 0] H K':=fun {K'} hk'=>by
  refine zN mix Tryz.func47 cf47 rfl ?_;dsimp only [if47,qI,eI,qD,eD,mI0,kI0,tI0,lI0,LI0,fI0,bI0,cI0,nI0,sI0,pI0,C1,C2,mD0,lD0,fD0,pD0,I0,G0,gm0,oI0,aI0,vI0,R0,S0];simp only [pwA,seval,-iQ0,r0,r1,r2,n01];refine zCG g ⟨ot',l2⟩ hR sz hZ hL6 hx hg hu hm hng ?_;simp only [pwA,seval,-iQ0];exact hk'
 refine kC ?_;simp only [pwA,seval,-iQ0];exact Gh.fin0 kH ⟨trivial,trivial,trivial⟩ hk
end Go.Proofs
namespace Go.Grp
end Go.Grp
namespace Go.Proofs
open Go.Ab Go.Lie Go.Grp
variable {σ h h':PHeap} {K:PV→PHeap→Prop} {O x y a w:List Int} {P:List (List Int)} {C:List (List (List Int))} {vO vP vC vx vL v8 v9:PV} {L:List (List Int)} {s:BS} {bs r8 r9:List PV} {N j k:Nat}
theorem zH2 {s off l:Nat} {cap:Cap} {xs:List Int} (hr:σ.rd s off l=some (pis xs)) (hs:s<σ.next) (hl:l=xs.length) (hb:xs.length≤1000000) (hk:∀cap,full 1 cap xs.length→K (.sl σ.next 0 xs.length cap) (σ.new (pis xs))):zA Tryz.prog 57 [.sl s off l cap] σ K:=by
 subst hl;refine zA.gh ?_;refine zC mix Tryz.func57 ?_
 conv=>arg 2;cbv
 refine zD rfl ?_;simp only [pwA,seval,-iQ0];refine PSl.app (b:=0) (bytes:=8) (σb:=σ) (n:=0) (cs:=[]) (m:=xs.length) (news:=pis xs) (zB σ _) (Nat.zero_le _) (PSl.new _ 1 rfl (Nat.le_refl _)) rfl (fun h0=>?_) (by rw [zK];omega) (by omega) (by omega) fun v' h' hk' ha=>?_
 ·rw [qC,if_neg h0,if_pos (Nat.le_refl _),Nat.mul_one]
  rw [Zj,if_neg (by omega)]
  exact hr
 ·simp only [pwA,seval,-iQ0]at ha ⊢
  exact ha.out hk' (zM _ _) hk
theorem ZF.move {σ σ':PHeap} {b:Nat} {v v':PV} {cells:List PV} {xs:List (List Int)} (r:ZF σ b v cells xs) (hn:σ.next≤σ'.next)
  (ho:∀c∈cells,σ'.obj (sid c)=σ.obj (sid c)) (hv:∀c∈cells,∀off l cp,v'≠.sl (sid c) off l cp):ZF σ' b v' cells xs:=by
 refine⟨⟨r.row.1,fun k c x hc hx=>?_⟩,r.nd⟩
 obtain⟨s,cap,h1,h2,h3,h4,h5,h6⟩:=r.row.2 k c x hc hx;have hm:=List.mem_of_getElem? hc;have e:sid c=s:=by rw [h1];rfl
 exact⟨s,cap,h1,h2,by rw [←e,ho c hm,e];exact h3,h4,by omega,fun off l cp=>by rw [←e];exact hv c hm off l cp⟩
structure WM (σ:PHeap) (O:List Int) (s:BS) (v8 v9:PV) (bs r8 r9:List PV) (h:PHeap):Prop where
 keep:Keep σ h
 seen:h.obj (σ.next+4)=some bs
 bl:bs.length=(ordF O O.length).toNat
 bv:∀y,gS O y→bs[(numF O y O.length).toNat]? = some (.bool (decide (y∈s.1)))
 p8:PSl σ.next 1 h v8 s.1.length r8
 p9:PSl σ.next 1 h v9 s.2.length r9
 m8:∀off l c,v8≠.sl (σ.next+4) off l c
 m9:∀off l c,v9≠.sl (σ.next+4) off l c
 ne:∀t off l c off' l' c',v8=.sl t off l c→v9≠.sl t off' l' c'
 a8:All2 FI r8 s.1
 a9:ZF h σ.next v9 r9 s.2
 d8:∀c∈r9,∀off l cp,v8≠.sl (sid c) off l cp
 d4:∀c∈r9,sid c≠σ.next+4
 nx:σ.next+5≤h.next
theorem zC9:SWC Tryz.prog 56:=by
 intro O x P C vO vP vC vx vL L sp σ K g hs hR hL hl6 hLs hx hvx k1 k0;have sh:=g.s;have F:=g.F;have hn6:=sh.le;have g0:=hR.O.one;have g1:=hR.P.one;have g2:=hR.C.one;have hxl:=hx.len;obtain⟨hN,hN1⟩:=zIw sh;have hob:=ZX sh.pr (i:=O.length) (Nat.le_refl _);have h7:=pow7 (i:=O.length) (by omega)
 have hL0:=hL;have hR0:=hR;obtain⟨⟨wO,aO,rfl⟩,hRP,hRC⟩:=hR;obtain⟨wl,al,rl,rfl,hrl⟩:=hL;obtain⟨wx,ax,rfl⟩:=hvx;have hsl:=hs.lt;have hrd:σ.rd1 sp 0=some (.fz wO aO O.length (pis O)):=by unfold PHeap.rd1;rw [hs.obj];rfl
 refine zA.pwf fun w0=>zA.gh ?_
 refine zC mix Tryz.func56 ?_
 conv=>arg 2;cbv
 refine zD rfl ?_;simp only [pwA,seval,-iQ0,hrd,mk8 (n:=O.length) (by omega),mkL (n:=O.length) (by omega),List.length_replicate,zf]
 rw [zHq];refine⟨nEl O,?_⟩;have hNb:nEl O≤117649:=by omega
 have i0:0<nEl O:=hN1;have iN:0+1≤nEl O:=hN1;simp only [pwA,seval,-iQ0,zEG,zD3,List.length_replicate,iN,i0];generalize hb0:(PV.bool true::List.drop 1 (List.replicate (nEl O) (PV.bool false)))=bs0;have l0:bs0.length=nEl O:=by rw [←hb0];simp;omega
 have b0:Bels 0 bs0:=by rw [←hb0];exact⟨trivial,ZQ.2 fun c hc=>by
  have:=List.mem_of_mem_drop hc
  rw [List.eq_of_mem_replicate this];trivial⟩
 have hv0:∀y,gS O y→bs0[(numF O y O.length).toNat]? = some (.bool (decide (y∈[zv O]))):=fun y hy=>by
  have b1:=qx sh.pr (fun j hj=>hy.bd j hj) (Nat.le_refl O.length)
  have zS:gS O (zv O):=sh.zv _;rw [←hb0]
  by_cases he:y=zv O
  ·subst he
   rw [zAl]
   simp
  ·have hne:(numF O y O.length).toNat≠0:=fun h0=>he (zA9 sh hy zS (by rw [zAl];omega))
   obtain⟨q,hq⟩:∃q,(numF O y O.length).toNat=q+1:=⟨_,(Nat.succ_pred_eq_of_ne_zero hne).symm⟩
   rw [hq,List.getElem?_cons_succ,List.getElem?_drop,List.getElem?_replicate,if_pos (by omega)]
   simp [he]
 refine ZG (fun m vs h'=>∃(k:Nat) (v8 v9:PV) (bs r8 r9:List PV),k≤nEl O∧m=nEl O-k∧vs=[.ptr sp 0,.fz wl al L.length rl,.fz wx ax x.length (pis x),v8,v9,.mref (σ.next+4),.int .i64 k]∧
  WM σ O (stt O P C L k) v8 v9 bs r8 r9 h'∧(∀i,i<k→i<(stt O P C L i).1.length)∧∀i,i<k→(stt O P C L i).1[i]?≠some x) (nEl O) ?_ ?_
 ·refine .fzh σ.next (pis (List.replicate O.length 0)) (by simp only [pwA,seval,-iQ0]) (zM 0 _) fun o=>.here ⟨0,.sl (σ.next+1) 0 1 (.known 1),.sl (σ.next+3) 0 1 (.known 1),bs0,[.fz true (.sl o 0 O.length (.known O.length)) O.length (pis (List.replicate O.length 0))],[.sl (σ.next+2) 0 0 (.known 0)],by omega,by omega,?_,?_,fun i hi=>by omega,fun i hi=>by omega⟩
  ·simp only [pwA,seval,-iQ0]
   have n1:¬sp=σ.next:=by omega
   simp [sbs,sb,n1]
  ·have q1:((((((σ.new (pis (List.replicate O.length 0))).new [PV.sl σ.next 0 O.length (Cap.known O.length)]).new []).new [PV.sl (σ.next+2) 0 0 (Cap.known 0)]).new bs0).kill σ.next |>.sub σ.next o (pis (List.replicate O.length 0))).obj (σ.next+2)=some (pis []):=by
    refine Za ?_ (by omega) (zM 0 _)
    simp only [pwA,seval,-iQ0]
    rfl
   refine⟨?_,?_,?_,hv0,?_,?_,fun off l c e=>?_,fun off l c e=>?_,fun t off l c off' l' c' e=>?_,?_,?_,?_,?_,?_⟩
   ·exact Keep.sub w0 (Keep.kill (((((zB σ _).new _).new _).new _).new _) (by omega)) (by omega)
   ·exact Za (by simp only [pwA,seval,-iQ0]) (by omega) b0
   ·rw [l0,hN];rfl
   ·refine⟨σ.next+1,.known 1,rfl,.inr rfl,?_,rfl,by omega,by show σ.next+1<σ.next+5;omega⟩
    have e4:(((((σ.new (pis (List.replicate O.length 0))).new [PV.sl σ.next 0 O.length (Cap.known O.length)]).new []).new [PV.sl (σ.next+2) 0 0 (Cap.known 0)]).new bs0).obj (σ.next+1)=some [PV.sl σ.next 0 O.length (Cap.known O.length)]:=by simp only [pwA,seval,-iQ0]
    simp only [PHeap.sub,PHeap.kill,if_neg (show ¬σ.next+1=σ.next by omega)]
    rw [e4];simp [sbs,sb,capOK]
   ·refine⟨σ.next+3,.known 1,rfl,.inr rfl,?_,rfl,by omega,by show σ.next+3<σ.next+5;omega⟩
    have e4:(((((σ.new (pis (List.replicate O.length 0))).new [PV.sl σ.next 0 O.length (Cap.known O.length)]).new []).new [PV.sl (σ.next+2) 0 0 (Cap.known 0)]).new bs0).obj (σ.next+3)=some [PV.sl (σ.next+2) 0 0 (Cap.known 0)]:=by simp only [pwA,seval,-iQ0]
    simp only [PHeap.sub,PHeap.kill,if_neg (show ¬σ.next+3=σ.next by omega)]
    rw [e4];simp [sbs,sb]
   ·simp only [PV.sl.injEq]at e;omega
   ·simp only [PV.sl.injEq]at e;omega
   ·simp only [PV.sl.injEq]at e
    intro e2;simp only [PV.sl.injEq]at e2
    omega
   ·exact(All2.nil FI).snoc ⟨true,_,by rw [show(zv O).length=O.length from List.length_replicate ..]⟩
   ·refine(ZF.nil _ σ.next _).snoc (m:=0) ⟨σ.next+2,.known 0,rfl,.inr rfl,q1,by omega,by show σ.next+2<σ.next+5;omega,fun off l c e=>?_⟩ (fun d hd=>absurd hd (List.not_mem_nil)) (Nat.zero_le _)
    simp only [PV.sl.injEq]at e;omega
   ·intro c hc off l cp e
    rw [List.mem_singleton.1 hc]at e
    simp only [PV.sl.injEq,sid]at e;omega
   ·intro c hc
    rw [List.mem_singleton.1 hc];show σ.next+2≠σ.next+4;omega
   ·show σ.next+5≤σ.next+5;omega
 rintro m vs h' ⟨k,v8,v9,bs,r8,r9,hkN,rfl,rfl,v,hlt,hms⟩
 have ok:=OkS.stt sh F hLs hlt;have bd:=ok.bound sh F hLs;rw [hN]at bd
 have lk:=ok.len;simp only [pwA,seval,-iQ0,v.p8.acc.pLen];refine iteI (fun hc=>?_) fun hge=>?_
 rotate_left
 ·exact Gh.fin0 v.keep ⟨trivial,trivial,trivial⟩ (k0 _ (zD5 sh F g.cent hLs hlt hms (by omega)) ⟨true,.nils,rfl⟩)
 have hc':k<(stt O P C L k).1.length:=by omega
 have hc9:k<(stt O P C L k).2.length:=by omega
 obtain⟨t8,c8,rfl,q1,q2,q3,q4,q5⟩:=v.p8;obtain⟨t9,c9,rfl,p1,p2,p3,p4,p5⟩:=v.p9;obtain⟨wa,aa,hra⟩:=v.a8.rowI hc';have hr9:k<r9.length:=by rw [v.a9.row.1];exact hc9
 obtain⟨sW,cW,hrb,u1,u2,u3,u4,u5⟩:=v.a9.row.2 k _ _ (List.getElem?_eq_getElem hr9) (List.getElem?_eq_getElem hc9);have e8:h'.rd1 t8 k=some (.fz wa aa (stt O P C L k).1[k].length (pis (stt O P C L k).1[k])):=by unfold PHeap.rd1;rw [q2];exact hra
 have e9:h'.rd1 t9 k=some (.sl sW 0 (stt O P C L k).2[k].length cW):=by unfold PHeap.rd1;rw [p2,←hrb];exact List.getElem?_eq_getElem hr9
 have aS:gS O (stt O P C L k).1[k]:=(GC.sub F hLs).inS (ok.mem _ (List.getElem_mem hc'));have al':=aS.len;have wl9:=ok.ws k hc9;have hci:(k:Int)<((stt O P C L k).1.length:Int):=by omega
 have hci9:(k:Int)<((stt O P C L k).2.length:Int):=by omega
 simp only [pwA,seval,-iQ0,hc',hc9,hci,hci9,e8];refine Zw rfl rfl (by omega) ?_
 by_cases hx0:(stt O P C L k).1[k]=x
 ·simp only [pwA,seval,-iQ0,hx0,hc',hc9,hci,hci9,e9]
  have e:(TR.tup [TR.row sW cW (stt O P C L k).2[k],.leaf (.bool true)]).pv=.tup [.sl sW 0 (stt O P C L k).2[k].length cW,.bool true]:=by simp only [TR.pv,TR.pvs,TR.row_pv]
  have es:(TR.tup [TR.row sW cW (stt O P C L k).2[k],.leaf (.bool true)]).slots=[sW]:=by simp only [TR.slots,TR.slotss,TR.row_slots,List.append_nil]
  have hrok:(TR.row sW cW (stt O P C L k).2[k]).ok h' σ.next:=TR.row_ok u1 u2 u3 u4;rw [←e];refine Gh.tree v.keep ⟨hrok,trivial,trivial⟩ fun a T h1 h2 h3=>?_
  rw [es]at h1 h2
  have e2:(TR.tup [TR.row sW cW (stt O P C L k).2[k],.leaf (.bool true)]).fz a=.tup [(TR.row sW cW (stt O P C L k).2[k]).fz a,.bool true]:=by simp only [TR.fz,TR.fzs]
  rw [e2];exact k1 _ k _ T ⟨by rw [List.getElem?_eq_getElem hc',hx0],hms,hlt⟩ (List.getElem?_eq_getElem hc9) TR.row_FI (by omega) (TR.own hrok (by rw [TR.row_slots];simp) (by rw [TR.row_slots];exact h1) (by rw [TR.row_slots];exact h2)) h3
 have hms':∀i,i<k+1→(stt O P C L i).1[i]?≠some x:=fun i hi=>by
  rcases Nat.lt_or_ge i k with z|z
  ·exact hms i z
  ·have:i=k:=by omega
   subst this;rw [List.getElem?_eq_getElem hc'];exact fun e=>hx0 (Option.some.inj e)
 have hlt':∀i,i<k+1→i<(stt O P C L i).1.length:=fun i hi=>by
  rcases Nat.lt_or_ge i k with z|z
  ·exact hlt i z
  ·have:i=k:=by omega
   subst this;exact hc'
 simp only [pwA,seval,-iQ0,hx0];have hnx:stt O P C L (k+1)=nxt O P C L ((stt O P C L k).1[k]) ((stt O P C L k).2[k]) L.length (stt O P C L k):=by
  rw [stt,List.getD_eq_getElem?_getD,List.getD_eq_getElem?_getD,List.getElem?_eq_getElem hc',List.getElem?_eq_getElem hc9];rfl
 have aG:GC O P C L (stt O P C L k).1[k]:=ok.mem _ (List.getElem_mem hc');have ga8:(stt O P C L k).1[k]? = some (stt O P C L k).1[k]:=List.getElem?_eq_getElem hc';have ga9:(stt O P C L k).2[k]? = some (stt O P C L k).2[k]:=List.getElem?_eq_getElem hc9;generalize (stt O P C L k).1[k]=a at *
 generalize (stt O P C L k).2[k]=w at *
 clear e8 e9 hra hrb u1 u2 u3 u4 u5;refine ZG (fun m vs h3=>∃(j:Nat) (v8 v9:PV) (bs r8 r9:List PV),j≤L.length∧m=L.length-j∧vs=[.ptr sp 0,.fz wl al L.length rl,.fz wx ax x.length (pis x),v8,v9,.mref (σ.next+4),.int .i64 k,.fz wl al L.length rl,.int .i64 L.length,.int .i64 j]∧
  WM σ O (nxt O P C L a w j (stt O P C L k)) v8 v9 bs r8 r9 h3) L.length ?_ ?_
 ·exact .here ⟨0,_,_,bs,r8,r9,by omega,by omega,rfl,v⟩
 clear v q1 q2 q3 q4 q5 p1 p2 p3 p4 p5
 rintro m vs h3 ⟨j,v8,v9,bs,r8,r9,hj,rfl,rfl,v⟩
 have okj:=ok.nxt F hLs aG (by omega:w.length+1≤(stt O P C L k).1.length) hj
 have pr:=zBg (O:=O) (P:=P) (C:=C) (L:=L) a w (stt O P C L k) j;have gj8:=Qt pr.1 ga8;have gj9:=Qt pr.2 ga9;generalize hsj:nxt O P C L a w j (stt O P C L k)=sj at *
 simp only [pwA,seval,-iQ0];refine iteI (fun hcj=>?_) fun hgj=>?_
 rotate_left
 ·have hje:j=L.length:=by omega
  subst hje;simp only [pwA,seval,-iQ0,wrapS hc' (by omega:(stt O P C L k).1.length≤4611686018427387904)]
  exact⟨_,by omega,.here ⟨k+1,v8,v9,bs,r8,r9,by omega,rfl,rfl,by rw [hnx,hsj];exact v,hlt',hms'⟩⟩
 have hjl:j<L.length:=by omega
 have bdj:=okj.bound sh F hLs;rw [hN]at bdj
 have lkj:=okj.len;obtain⟨wg,ag,hrg⟩:=hrl.rowI hjl;have hk8:k<sj.1.length:=by
  rcases Nat.lt_or_ge k sj.1.length with z|z
  ·exact z
  ·rw [List.getElem?_eq_none z]at gj8;cases gj8
 have hk9:k<sj.2.length:=by omega
 have ea8:sj.1[k]=a:=by rw [List.getElem?_eq_getElem hk8]at gj8;exact Option.some.inj gj8
 have ea9:sj.2[k]=w:=by rw [List.getElem?_eq_getElem hk9]at gj9;exact Option.some.inj gj9
 obtain⟨wa',aa',hra⟩:=v.a8.rowI hk8;have hr9':k<r9.length:=by rw [v.a9.row.1];exact hk9
 obtain⟨sW,cW,hrb,u1,u2,u3,u4,u5⟩:=v.a9.row.2 k _ _ (List.getElem?_eq_getElem hr9') (List.getElem?_eq_getElem hk9);have dW8:=v.d8 _ (List.getElem_mem hr9');have dW4:=v.d4 _ (List.getElem_mem hr9');rw [hrb]at dW8 dW4
 simp only [sid]at dW8 dW4
 rw [ea8]at hra
 rw [ea9]at hrb u1 u2
 have vv:=v;obtain⟨t8,c8,rfl,q1,q2,q3,q4,q5⟩:=v.p8;obtain⟨t9,c9,rfl,p1,p2,p3,p4,p5⟩:=v.p9;have e8:h3.rd1 t8 k=some (.fz wa' aa' a.length (pis a)):=by unfold PHeap.rd1;rw [q2];exact hra
 have hci:(k:Int)<(sj.1.length:Int):=by omega
 have hci9:(k:Int)<(sj.2.length:Int):=by omega
 have lS:=hLs _ (List.getElem_mem hjl);simp only [pwA,seval,-iQ0,hk8,hk9,hci,hci9,e8,hjl,hrg];refine QQ sh F (hs.keep vv.keep) hR0 (by rw [Nat.sub_self];exact aS) (by rw [Nat.sub_self];exact lS) ⟨wa',aa',rfl⟩ ⟨wg,ag,rfl⟩ fun vy fy=>?_
 have hyS:=F.g.cl aS lS;have yb:=qx sh.pr (fun j hj=>hyS.bd j hj) (Nat.le_refl O.length)
 obtain⟨nn,hnn⟩:∃nn:Nat,numF O (gm O P C a L[j]) O.length=(nn:Int):=⟨_,(Int.toNat_of_nonneg yb.1).symm⟩
 have nnb:nn<nEl O:=by omega
 have hbv:=v.bv _ hyS;rw [hnn]at hbv
 have e7:h3.rd1 (σ.next+4) nn=some (.bool (decide (gm O P C a L[j]∈sj.1))):=by unfold PHeap.rd1;rw [v.seen];exact hbv
 simp only [pwA,seval,-iQ0];refine zHU sh (hs.keep vv.keep) hR0.O hyS fy ?_;rw [hnn];simp only [pwA,seval,-iQ0,zJN,zHQ,e7];have hnj:nxt O P C L a w (j+1) (stt O P C L k)=vst sj (gm O P C a L[j]) (w++[(j:Int)+1]):=by
  rw [nxt,hsj,List.getD_eq_getElem?_getD,List.getElem?_eq_getElem hjl];rfl
 have wj:=wrapS hjl (by omega:L.length≤4611686018427387904)
 refine iteI (fun hin=>?_) fun hnin=>?_
 ·refine⟨L.length-(j+1),by omega,.here ⟨j+1,_,_,bs,r8,r9,by omega,rfl,by rw [wj],?_⟩⟩
  rw [hnj];unfold vst;rw [if_pos hin];exact vv
 have hbl:nn<bs.length:=by rw [v.bl];omega
 simp only [pwA,seval,-iQ0,zEG,zD3,zIt v.seen hbl (show PV.one (.bool true)=true from rfl),fy.one,fy.cells]
 have nxv:=v.nx;have ht84:t8≠σ.next+4:=fun e=>v.m8 _ _ _ (by rw [e])
 have ht94:t9≠σ.next+4:=fun e=>v.m9 _ _ _ (by rw [e])
 have hv8:PSl σ.next 1 (h3.set (σ.next+4) (bs.set nn (.bool true))) (.sl t8 0 sj.1.length c8) sj.1.length r8:=zIM (t:=0) vv.p8 (fun s ⟨off,l,c,e⟩=>by
  simp only [PV.sl.injEq]at e
  rw [zI,if_neg (by omega)]) (Nat.le_refl _)
 refine PSl.pushB (σb:=σ) (b:=σ.next) (v.keep.set (by omega) _) (by omega) (by show σ.next≤h3.next;omega) hv8 (by omega) fun v8' h5 k5 a5 o5 n5 l5=>?_
 have s5:∀t,t<h3.next→t≠t8→t≠σ.next+4→h5.obj t=h3.obj t:=fun t h1 h2 h4=>by
  rw [o5 t h1 fun off l c e=>h2 (by simp only [PV.sl.injEq]at e;exact e.1.symm),zI,if_neg h4]
 have t98:t9≠t8:=fun e=>v.ne t8 0 _ c8 0 _ c9 rfl (by rw [e])
 have l5':h3.next<h5.next:=l5;have sW8:sW≠t8:=fun e=>dW8 0 _ c8 (by rw [e])
 have e9':h5.rd1 t9 k=some (.sl sW 0 w.length cW):=by unfold PHeap.rd1;rw [s5 t9 p5 t98 ht94,p2,←hrb];exact List.getElem?_eq_getElem hr9'
 have eW:h5.obj sW=some (pis w):=by rw [s5 sW u4 sW8 dW4];exact u2
 simp only [pwA,seval,-iQ0,a5.one,hk9,hci9,e9'];refine zH2 (xs:=w) (by unfold PHeap.rd;rw [eW];simp only [Option.bind_some,zK,Nat.zero_add,Nat.le_refl,if_true,List.drop_zero];rw [List.take_of_length_le (by rw [zK];exact Nat.le_refl _)]) (by omega) rfl (by omega) fun cap hcap=>?_
 simp only [pwA,seval,-iQ0,wj];have pA:PAcc h5.next 1 (h5.new (pis w)) (.sl h5.next 0 w.length cap) w.length (pis w):=.inr ⟨h5.next,cap,rfl,hcap,by rw [zG,if_pos rfl],by rw [zK];omega,Nat.le_refl _,Nat.lt_succ_self _⟩
 refine PAcc.push (bytes:=8) (σb:=h5) (h:=h5.new (pis w)) (zB _ _) pA (by omega) (by omega) fun vR h6 k6 a6=>?_
 obtain⟨tR,cR,rfl,hcR,x2,x3,x4,x5⟩:=a6;have v9':PSl σ.next 1 h6 (.sl t9 0 sj.2.length c9) sj.2.length r9:=⟨t9,c9,rfl,p1,by rw [k6.obj t9 (by omega),s5 t9 p5 t98 ht94];exact p2,p3,p4,by have:=k6.next;omega⟩
 simp only [pwA,seval,-iQ0];refine PSl.pushB (σb:=σ) (b:=σ.next) (k5.trans k6) (by omega) (by have:=k6.next;omega) v9' (by omega) fun v9' h7 k7 a7 o7 n7 l7=>?_
 simp only [pwA,seval,-iQ0,wj];have x7:h7.obj tR=some (pis w++[.int .i64 ((j+1:Nat):Int)]):=by
  rw [o7 tR x5 fun off l c e=>by simp only [PV.sl.injEq]at e;omega];exact x2
 have lk6:=k6.next;have s7:∀t,t<h3.next→t≠t8→t≠t9→t≠σ.next+4→h7.obj t=h3.obj t:=fun t h1 h2 h4 h8=>by
  rw [o7 t (by omega) fun off l c e=>h4 (by simp only [PV.sl.injEq]at e;exact e.1.symm),k6.obj t (by omega),s5 t h1 h2 h8]
 have evst:vst sj (gm O P C a L[j]) (w++[(j:Int)+1])=(sj.1++[gm O P C a L[j]],sj.2++[w++[(j:Int)+1]]):=by
  unfold vst;rw [if_neg hnin]
 obtain⟨u8,d8,rfl,y1,y2,y3,y4,y5⟩:=a5;obtain⟨u9,d9,rfl,z1,z2,z3,z4,z5⟩:=a7;have u8n:h3.next≤u8:=by
  rcases Nat.lt_or_ge u8 h3.next with q|q
  ·exact absurd rfl (n5 u8 q 0 _ d8)
  ·exact q
 have u9n:h6.next≤u9:=by
  rcases Nat.lt_or_ge u9 h6.next with q|q
  ·exact absurd rfl (n7 u9 q 0 _ d9)
  ·exact q
 have mk:=zD7 (w:=w++[(j:Int)+1]) sh hyS v.bl v.bv hnin;rw [hnn]at mk
 have rlt:=v.a9.lt;have r9n:∀c∈r9,sid c≠t9:=fun c hc e=>by
  obtain⟨q,hq,rfl⟩:=List.mem_iff_getElem.1 hc;obtain⟨s',cap',h1,_,_,_,_,h6'⟩:=vv.a9.row.2 q _ _ (List.getElem?_eq_getElem hq) (List.getElem?_eq_getElem (by rw [←vv.a9.row.1];exact hq))
  rw [h1]at e
  exact h6' 0 _ c9 (by rw [show s'=t9 from e])
 have r8n:∀c∈r9,sid c≠t8:=fun c hc e=>v.d8 c hc 0 _ c8 (by rw [e])
 refine⟨L.length-(j+1),by omega,.here ⟨j+1,.sl u8 0 (sj.1.length+1) d8,.sl u9 0 (sj.2.length+1) d9,bs.set nn (.bool true),r8++[vy],r9++[.sl tR 0 (w.length+1) cR],by omega,rfl,rfl,?_⟩⟩
 rw [hnj];refine⟨k7,?_,by rw [List.length_set];exact v.bl,mk,?_,?_,fun off l c e=>?_,fun off l c e=>?_,fun t off l c off' l' c' e=>?_,?_,?_,?_,?_,?_⟩
 ·rw [o7 _ (by omega) (fun off l c e=>by simp only [PV.sl.injEq]at e;omega),k6.obj _ (by omega),o5 _ (by show σ.next+4<h3.next;omega) (fun off l c e=>by simp only [PV.sl.injEq]at e;omega),zI,if_pos rfl]
 ·rw [evst]
  show PSl _ _ _ _ (sj.1++[gm O P C a L[j]]).length _;rw [List.length_append,List.length_singleton];exact⟨u8,d8,rfl,y1,by rw [o7 u8 (by omega) (fun off l c e=>by simp only [PV.sl.injEq]at e;omega),k6.obj u8 y5];exact y2,by simpa using y3,by omega,by omega⟩
 ·rw [evst]
  show PSl _ _ _ _ (sj.2++[w++[(j:Int)+1]]).length _;rw [List.length_append,List.length_singleton];exact⟨u9,d9,rfl,z1,z2,by simpa using z3,by omega,z5⟩
 ·simp only [PV.sl.injEq]at e;omega
 ·simp only [PV.sl.injEq]at e;omega
 ·simp only [PV.sl.injEq]at e
  intro e2;simp only [PV.sl.injEq]at e2
  omega
 ·rw [evst];exact v.a8.snoc fy
 ·rw [evst]
  refine(ZF.move v.a9 (σ':=h7) (v':=.sl u9 0 (sj.2.length+1) d9) (by omega) (fun c hc=>s7 _ (rlt c hc) (r8n c hc) (r9n c hc) (v.d4 c hc)) fun c hc off l cp e=>?_).snoc (m:=h3.next) ⟨tR,cR,by simp,by simpa using hcR,by rw [x7];simp [pis],by omega,by omega,fun off l c e=>?_⟩ rlt (by show h3.next≤tR;omega)
  ·have:=rlt c hc
   simp only [PV.sl.injEq]at e;omega
  ·simp only [PV.sl.injEq]at e;omega
 ·intro c hc off l cp e
  simp only [PV.sl.injEq]at e
  rcases List.mem_append.1 hc with hc|hc
  ·have:=rlt c hc;omega
  ·rw [List.mem_singleton.1 hc]at e
   simp only [sid]at e;omega
 ·intro c hc e
  rcases List.mem_append.1 hc with hc|hc
  ·exact v.d4 c hc e
  ·rw [List.mem_singleton.1 hc]at e
   simp only [sid]at e;omega
 ·show σ.next+5≤h7.next;omega
end Go.Proofs
namespace Go.Proofs.YtfoidnlodahfjaaGreat
open Go.ChangeShapes Go.WideShapes Go.ChangeAt Go.RowKit Go.Ab Go.Joins Go.Lie Go.Proofs
variable {H:Type} {enc:TypeId×Value→H} {W w0:World} {j:Inj} {h:AHeap}
theorem cell8:Tryz.prog.cellsOf 5=1:=by kernel_rfl
theorem lay8:Lay1 enc Tryz.prog W 5 (fun pv (n:Int)=>pv=.int .u8 n∧0≤n∧n≤255):=by
 intro w0 j h held fuel v x m hx;obtain⟨n,hn,_,hw⟩:=DataW.trod_int Tryz.underlying5 hx;simp only [List.cons.injEq,and_true]at hn
 subst hn;simp only [Lit.wf,Bool.and_eq_true,decide_eq_true_eq]at hw
 have h1:IntKind.u8.min=0:=by rfl
 have h2:IntKind.u8.max=255:=by rfl
 rw [h1,h2]at hw
 exact⟨j,h,.int .u8 n,n,m,Inj.le.refl _,Ext.refl m.wf,rfl,trivial,rfl,rfl,hw.1,hw.2⟩
theorem FL.bytes {v:PV} {xs:List Int} (h:FL (fun pv (n:Int)=>pv=.int .u8 n∧0≤n∧n≤255) v xs):FB v xs:=by
 obtain⟨w,a,rows,rfl,hr⟩:=h;refine⟨w,a,?_⟩
 congr 1
 apply List.ext_getElem?;intro k;rw [List.getElem?_map];rcases Nat.lt_or_ge k xs.length with x|x
 ·obtain⟨pv,h1,h2⟩:=hr.get x
  rw [h1,gi x,h2.1];rfl
 ·rw [List.getElem?_eq_none (by rw [hr.1];exact x),List.getElem?_eq_none x];rfl
theorem layB:Lay1 enc Tryz.prog W 22 (fun v (xs:List Int)=>FB v xs∧∀b∈xs,0≤b∧b≤255):=by
 intro w0 j h held fuel v x m hx;obtain⟨j',h',pv,a,g1,g2,g3,g4,g5,g6,g7,g8⟩:=zI4 Tryz.underlying22 cell8 lay8 w0 j h held fuel v x m hx;exact⟨j',h',pv,a,g1,g2,g3,g4,g5,g6,FL.bytes g7,g7.all fun _ _ k=>k.2⟩
end Go.Proofs.YtfoidnlodahfjaaGreat
