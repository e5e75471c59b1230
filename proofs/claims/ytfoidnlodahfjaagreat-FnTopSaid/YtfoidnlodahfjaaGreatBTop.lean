/- The given statement on groups (FnTop): its law holds for every input. -/
import Derived.Test.YtfoidnlodahfjaaGreatBP28
import Derived.Test.YtfoidnlodahfjaaGreatBP29
import Derived.Test.YtfoidnlodahfjaaGreatBP32
import Derived.Test.YtfoidnlodahfjaaGreatBP35
import Derived.Test.YtfoidnlodahfjaaGreatBP40
import Derived.Test.YtfoidnlodahfjaaGreatBP42
import Derived.Test.YtfoidnlodahfjaaGreatBP43
import Derived.Test.YtfoidnlodahfjaaGreatBP44
import Derived.Test.YtfoidnlodahfjaaGreatBP45
open Int renaming reduceNatCast'→iQ0
set_option maxRecDepth 100000
namespace Go.Grp
end Go.Grp
set_option linter.unusedSimpArgs false
set_option linter.unusedVariables false
set_option linter.unusedSectionVars false
namespace Go.Proofs
open Go.Ab Go.Lie Go.Grp
variable {σ h:PHeap} {K:PV→PHeap→Prop} {O x y a b bs:List Int} {P:List (List Int)} {C:List (List (List Int))} {vO vP vC vx vy vw v va vb vL vS vZ vG:PV} {sp t s0:Nat}
theorem zAS (hb:FB vS bs) (hB:Byt bs) (hk:∀wO wP wC O P C,IsPr wO wP wC O P C→SmP O P C→K (.agg [wO,wP,wC]) σ):zA Tryz.prog 7 [vS] σ K:=by
 refine zA.gh ?_;generalize hT:σ.new nil3=T;have hTn:T.next=σ.next+1:=by rw [←hT];rfl
 have hkT:Keep σ T:=by rw [←hT];exact zB σ _
 have obT:T.obj σ.next=some nil3:=by rw [←hT,zD,if_pos rfl]
 refine zC mix Tryz.func7 ?_
 conv=>arg 2;cbv
 refine zF rfl ?_;simp only [pwA,seval,-iQ0,hb.one];rw [hT];refine zIE hb hB fun sd hsd=>?_
 have so1:So (T.new (srcC vS 0 sd)) T.next vS bs:=⟨0,sd,by rw [zD,if_pos rfl],Nat.lt_succ_self _,hb,hB,Nat.zero_le _,hsd⟩
 have km1:KM (T.new (srcC vS 0 sd)) T.next (T.new (srcC vS 0 sd)):=so1.km;have kT1:Keep T (T.new (srcC vS 0 sd)):=zB _ _;have hs1:T.next<(T.new (srcC vS 0 sd)).next:=Nat.lt_succ_self _;generalize hU:T.new (srcC vS 0 sd)=U at *
 have hUn:U.next=T.next+1:=by rw [←hU];rfl
 simp only [pwA,seval,-iQ0];refine zH5 so1 fun wO wP wC O P C h2 hR sm m2 so2=>?_
 have km2:=km1.mv hs1 m2;have g1:=hR.O.one;have g2:=hR.P.one;have g3:=hR.C.one;have hU2:Keep T h2:=km2.keepOf kT1 (Nat.le_refl _);have hn2:=hU2.next;have hres:h2.obj σ.next=some nil3:=by rw [hU2.obj _ (by omega)];exact obT
 have w:h2.wr σ.next 0 [wO,wP,wC]=some (h2.set σ.next [wO,wP,wC]):=by rw [zX hres,if_pos ⟨by simp [nil3],by simp [g1,g2,g3]⟩];rfl
 have r:(h2.set σ.next [wO,wP,wC]).rd σ.next 0 3=some [wO,wP,wC]:=by rw [qZ,if_pos rfl];rfl
 have kk:Keep σ (h2.set σ.next [wO,wP,wC]):=(hkT.trans hU2).set (Nat.le_refl _) _;generalize h2.set σ.next [wO,wP,wC]=g at *
 simp only [pwA,seval,-iQ0,g1,g2,g3,w,r];exact Gh.fin0 kk ⟨hR.O.bel _,hR.P.bel _,hR.C.bel _,trivial⟩ (hk wO wP wC O P C hR sm)
theorem Gh.kmD {v:PV} (k:KM σ s0 h) (di:Di h s0 vS bs) (hs:s0<σ.next) (c:∀σ',Mv σ s0 σ'→Di σ' s0 vS bs→Keep σ' h→Gh σ' K v h):Gh σ K v h:=by
 obtain⟨σ',m,q⟩:=k;obtain⟨c0,c1,h0,h1,e⟩:=m;obtain⟨i,hh,S,hi⟩:=di.ex;have hs':s0<σ'.next:=by rw [e];exact hs
 have:=c σ' ⟨c0,c1,h0,h1,e⟩ ⟨⟨i,hh,by rw [←q.obj s0 hs'];exact S,hi⟩,hs',di.fb,di.byt⟩ q
 rw [e]at this
 exact Gh.setS h0 h1 this
theorem Di.mv0 (D:Di σ s0 vS bs):Mv σ s0 σ:=by
 obtain⟨i,hh,e,hi⟩:=D.ex;exact⟨diC vS i hh,diC vS i hh,e,show Bels 0 [vS,PV.int .i64 (i:Int),PV.int .u64 hh] from⟨(D.fb.bels 0 0 0).1,trivial,trivial,trivial⟩,(QU e).symm⟩
set_option maxHeartbeats 1600000 in
theorem zC6 (s:Shp O P C) (D:Di σ s0 vS bs) (hR:IsPr vO vP vC O P C) (hk:∀v x σ',FI v x→gS O x→Mv σ s0 σ'→Di σ' s0 vS bs→K v σ'):zA Tryz.prog 16 [.ptr s0 0,.agg [vO,vP,vC]] σ K:=by
 have hs0:=D.lt;have h6:=s.le;have g0:=hR.O.one;have g1:=hR.P.one;have g2:=hR.C.one;obtain⟨⟨wO,aO,rfl⟩,_,_⟩:=hR;refine zA.gh ?_;refine zC mix Tryz.func16 ?_
 conv=>arg 2;cbv
 refine zF rfl ?_;simp only [pwA,seval,-iQ0,g0,g1,g2];generalize hH:σ.new [PV.fz wO aO O.length (pis O),vP,vC]=H;have hHn:H.next=σ.next+1:=by rw [←hH];rfl
 have hsH:s0<H.next:=by omega
 have ob0:H.obj σ.next=some [PV.fz wO aO O.length (pis O),vP,vC]:=by rw [←hH];simp only [pwA,seval,-iQ0]
 have D0:Di H s0 vS bs:=by rw [←hH];exact D.keep (zB _ _)
 have km0:KM σ s0 H:=by rw [←hH];exact⟨σ,D.mv0,zB _ _⟩
 clear hH;have rO:∀{g:PHeap},KM H s0 g→g.rd1 σ.next 0=some (.fz wO aO O.length (pis O)):=fun {g} km=>by rw [zH (by rw [km.obj (by omega) (by omega)];exact ob0)];rfl
 refine zG (fun m vs h=>∃(i:Nat) (v:PV) (x:List Int),i≤O.length∧m=O.length-i∧vs=[.ptr s0 0,.ptr σ.next 0,v,.int .i64 i]∧x.length=i∧KM H s0 h∧Di h s0 vS bs∧PSl H.next 1 h v x.length (pis x)∧∀j,j<i→0≤at_ x j∧at_ x j<at_ O j) O.length ?_ ?_
 ·exact⟨0,_,[],Nat.zero_le _,rfl,rfl,rfl,⟨H,D0.mv0,zB _ _⟩,D0.keep (zB _ _),PSl.own (n:=0) (.inr rfl) (by rw [zD,if_pos hHn.symm];rfl) rfl (by omega) (by show σ.next+1<H.next+1;omega),fun j hj=>by omega⟩
 rintro m vs h ⟨i,v,x,hi,rfl,rfl,hxl,km,D1,pa,hxb⟩
 have h1:=pa.one;simp only [pwA,seval,-iQ0,h1,rO km];refine iteI (fun hlt=>?_) fun hge=>?_
 ·have hlt':(i:Int)<(O.length:Int):=by omega
  have gx:(pis O)[i]? = some (.int .i64 O[i]):=by rw [zM,gi hlt];rfl
  have ob:=s.pr i hlt;rw [at_eq hlt]at ob
  have emax:max 1 O[i]=O[i]:=by omega
  have wi:=wrapS hlt (by omega:O.length≤4611686018427387904)
  simp only [pwA,seval,-iQ0,h1,rO km,hlt,hlt',gx,emax];refine zLE D1 (by omega) fun y g hy0 hy1 m2 D2=>?_
  have km2:=km.mv hsH m2;have pa2:=PSl.mv' pa hsH m2;simp only [pwA,seval,-iQ0,h1];obtain⟨σ',m',kp⟩:=km2;have hn:=m'.next;refine PSl.push (σb:=σ') (bytes:=8) kp (by rw [hn];exact pa2) (by omega) (by omega) fun v2 h2 k2 a2=>?_
  have h3:=a2.one;have D3:Di h2 s0 vS bs:=by
   obtain⟨i',hh,e,hi'⟩:=D2.ex;exact⟨⟨i',hh,by rw [k2.obj _ (by omega),←kp.obj _ (by omega)];exact e,hi'⟩,by have:=k2.next;omega,D2.fb,D2.byt⟩
  simp only [pwA,seval,-iQ0,h3,wi];refine⟨_,by omega,i+1,v2,x++[y],by omega,rfl,rfl,by rw [List.length_append,hxl];rfl,⟨σ',m',k2⟩,D3,?_,fun j hj=>?_⟩
  ·have e:pis (x++[y])=pis x++[.int .i64 y]:=by simp [pis]
   rw [e,List.length_append,←hn];exact a2
  ·rw [zDz]
   by_cases e:j<x.length
   ·rw [if_pos e];exact hxb j (by omega)
   ·rw [if_neg e,show j-x.length=0 by omega]
    show 0≤y∧y<_;rw [show j=i by omega,at_eq hlt]
    exact⟨hy0,hy1⟩
 have hxO:i=O.length:=by omega
 subst hxO;refine Gh.kmD (km0.trans hs0 km) D1 hs0 fun σ' m' D' kp=>?_
 have hn:=m'.next;obtain⟨s',cap,rfl,q1,q2,q3,q4,q5⟩:=pa;exact PSl.fin (σ:=σ') kp ⟨s',cap,rfl,q1,q2,q3,by omega,q5⟩ (zO _ _) fun o cap=>hk _ x σ' ⟨true,_,rfl⟩ ⟨hxl,fun j hj=>hxb j hj,fun j hj=>by omega⟩ m' D'
set_option maxHeartbeats 1600000 in
theorem zLJ (hb:FB vS bs) (hbd:∀b∈bs,0≤b∧b≤255) (hk:∀σ',K (.bool true) σ'):zA Tryz.prog 3 [vS] σ K:=by
 have hb1:=hb.one;have hb2:=hb.cells;refine zEn mix Tryz.func3 cf3 rfl ?_;dsimp only [if3,qI,eI,qD,eD,mI0,tI0,lI0,LI0,fI0,cI0,nI0,sI0,eI0,C1,C3,mD0,I0,G0,gm0,oI0,aI0,vI0,R0,S0];refine zE7 [_,_,_,_,_,_,_,_,_,_,_,_,_,_,_,_,_] _ ?_;simp only [vps];simp only [pwA,seval,-iQ0,hb1];refine zMg hb fun t ht=>?_
 cases t with
 | true=>
  simp only [pwA,seval,-iQ0];exact hk _
 | false=>
 have hlen:bs.length≤4096:=by
  rcases Nat.lt_or_ge 4096 bs.length with e|e
  ·have:=ht.2 e;cases this
  ·exact e
 clear ht;have hB:Byt bs:=⟨by omega,hbd⟩
 simp only [pwA,seval,-iQ0,hb1];refine zAS hb hB fun vO vP vC O P C hR sm=>?_
 have g1:=hR.O.one;have g2:=hR.P.one;have g3:=hR.C.one;have sz:=sm.sz;simp only [pwA,seval,-iQ0,g1,g2,g3];have k1:=zB σ [vO,vP,vC];have ob:(σ.new [vO,vP,vC]).obj σ.next=some [vO,vP,vC]:=by rw [zD,if_pos rfl]
 have hlt:σ.next<(σ.new [vO,vP,vC]).next:=Nat.lt_succ_self _;generalize σ.new [vO,vP,vC]=H at *
 generalize σ.next=s3 at *
 have bb1:(!(true == true))=false:=rfl;have bb2:(!(false == false))=false:=rfl;have r3:H.rd s3 0 3=some [vO,vP,vC]:=by rw [zb ob];rfl
 by_cases hp:zQ O P C
 rotate_left
 ·refine Ze sz hR fun t ht=>?_
  obtain rfl:t=false:=by
   cases t with
   | false=>rfl
   | true=>exact absurd (ht.1 rfl).1 hp
  simp only [pwA,seval,-iQ0,r3,g1,g2,g3,bb1,bb2];refine qg hR sz fun t ht=>?_
  obtain rfl:t=false:=by
   cases t with
   | false=>rfl
   | true=>exact absurd (ht.1 rfl).1 hp
  simp only [pwA,seval,-iQ0,r3,g1,g2,g3,bb1,bb2];refine zm hR sz fun t ht=>?_
  obtain rfl:t=false:=by
   cases t with
   | false=>rfl
   | true=>exact absurd (ht.1 rfl) hp
  simp only [pwA,seval,-iQ0,r3,g1,g2,g3,bb1,bb2];exact hk _
 have s:=hp.shp;have h6:=s.le
 by_cases hc:Cons O P C
 rotate_left
 ·refine Ze sz hR fun t ht=>?_
  obtain rfl:t=false:=by
   cases t with
   | false=>rfl
   | true=>exact absurd (ht.1 rfl).2 hc
  simp only [pwA,seval,-iQ0,r3,g1,g2,g3,bb1,bb2];refine qg hR sz fun t ht=>?_
  obtain rfl:t=false:=by
   cases t with
   | false=>rfl
   | true=>exact absurd (ht.1 rfl).2 hc
  simp only [pwA,seval,-iQ0,r3,g1,g2,g3,bb1,bb2];refine zm hR sz fun t ht=>?_
  obtain rfl:t=true:=ht.2 hp;simp only [pwA,seval,-iQ0,r3,g1,g2,g3,bb1,bb2];refine QR hp sz hR fun k c hkc=>?_
  have two:(c=3)∨(c=0∧¬k=-1):=hkc.imp id fun⟨a,b⟩=>⟨a,fun e=>hc (b.1 e)⟩
  rcases two with rfl|⟨rfl,hk1⟩
  case' inl=>simp only [pwA,seval,-iQ0,r3,g1,g2,g3,bb1,bb2]
  case' inr=>simp only [pwA,seval,-iQ0,r3,g1,g2,g3,bb1,bb2,hk1]
  all_goals
   refine Qt sz hR fun k2 G L vG vL c2 t2 hres hG hL _ _=>?_
   have G1:=hG.one;have L1:=hL.one;have Gc:=hG.cells;have Lc:vL.cells=[vL]:=by obtain⟨w,a,r,rfl,_⟩:=hL;rfl
   have hc2:c2=3∨c2=4:=by
    rcases hres with ⟨a,_⟩|⟨_,_,_,e⟩|⟨_,_,_,_,e⟩|⟨_,_,a,_⟩
    ·exact absurd hp a
    ·exact .inl e
    ·exact .inr e
    ·exact absurd a hc
   have ob2:(H.up t2).obj s3=some [vO,vP,vC]:=ob;have hlt2:s3<(H.up t2).next:=hlt;generalize H.up t2=H2 at *
   have r32:H2.rd s3 0 3=some [vO,vP,vC]:=by rw [zb ob2];rfl
   have hs3:¬s3=H2.next:=by omega
   rcases hc2 with rfl|rfl
   all_goals
    simp only [pwA,seval,-iQ0,r32,hs3,G1,L1,Gc,Lc,g1,g2,g3,bb1,bb2];refine zE9 hp sz hR ?_
    by_cases h128:ordF O O.length≤128
    all_goals
     simp only [pwA,seval,-iQ0,h128,bb1,bb2];exact hk _
 -- a group
 have F:Full O P C O.length:=Cons.full s hc;refine Ze sz hR fun t ht=>?_
 obtain rfl:t=true:=ht.2 ⟨hp,hc⟩;have bb3:(!(true == true))=false:=rfl;simp only [pwA,seval,-iQ0,r3,g1,g2,g3,bb1,bb2,bb3];refine qg hR sz fun t ht=>?_
 obtain rfl:t=true:=ht.2 ⟨hp,hc⟩;simp only [pwA,seval,-iQ0,r3,g1,g2,g3,bb1,bb2,bb3];refine zm hR sz fun t ht=>?_
 obtain rfl:t=true:=ht.2 hp;simp only [pwA,seval,-iQ0,r3,g1,g2,g3,bb1,bb2,bb3];refine QR hp sz hR fun k c hkc=>?_
 have two:(c=3)∨(c=0∧k=-1):=hkc.imp id fun⟨a,b⟩=>⟨a,b.2 hc⟩
 rcases two with rfl|⟨rfl,hk1⟩
 case' inl=>simp only [pwA,seval,-iQ0,r3,g1,g2,g3,bb1,bb2,bb3]
 case' inr=>simp only [pwA,seval,-iQ0,r3,g1,g2,g3,hk1,bb1,bb2,bb3]
 all_goals
  refine Qt sz hR fun k2 G L vG vL c2 t2 hres hG hL _ _=>?_
  have G1:=hG.one;have L1:=hL.one;have Gc:=hG.cells;have Lc:vL.cells=[vL]:=by obtain⟨w,a,r,rfl,_⟩:=hL;rfl
  have hc2:(c2=3∧128<ordF O O.length)∨(c2=0∧ordF O O.length≤128∧k2=1∧G=[(O,P,C)]∧L=regul O P C):=by
   rcases hres with ⟨a,_⟩|⟨_,b,_,e⟩|⟨_,_,a,_⟩|⟨_,b,_,⟨e1,e2,e3⟩,e⟩
   ·exact absurd hp a
   ·exact .inl ⟨e,b⟩
   ·exact absurd hc a
   ·exact .inr ⟨e,b,e1,e2,e3⟩
  have ob2:(H.up t2).obj s3=some [vO,vP,vC]:=ob;have hlt2:s3<(H.up t2).next:=hlt;clear hres;generalize H.up t2=H2 at *
  have r32:H2.rd s3 0 3=some [vO,vP,vC]:=by rw [zb ob2];rfl
  have hs3:¬s3=H2.next:=by omega
  simp only [pwA,seval,-iQ0,r32,hs3,G1,L1,Gc,Lc,g1,g2,g3,bb1,bb2,bb3];refine zE9 hp sz hR ?_;have o3:(H2.new [.int .i64 k2,vG,vL]).obj s3=some [vO,vP,vC]:=by rw [zD,if_neg hs3];exact ob2
  have o4:(H2.new [.int .i64 k2,vG,vL]).rd H2.next 0 3=some [.int .i64 k2,vG,vL]:=by rw [zb (by rw [zD,if_pos rfl])];rfl
  have hlt3:s3<(H2.new [.int .i64 k2,vG,vL]).next:=by show s3<H2.next+1;omega
  generalize H2.new [.int .i64 k2,vG,vL]=H3 at *
  have r33:H3.rd s3 0 3=some [vO,vP,vC]:=by rw [zb o3];rfl
  rcases hc2 with ⟨rfl,hbig⟩|⟨rfl,hsm,rfl,rfl,rfl⟩
  case' inl=>
   have hb128:¬ordF O O.length≤128:=by omega
   simp only [pwA,seval,-iQ0,hb128,bb1,bb2,bb3]
  case' inr=>
   simp only [pwA,seval,-iQ0,hsm,bb1,bb2,bb3,o4];refine zCH hp hc sz hsm hG hL ?_;simp only [pwA,seval,-iQ0,bb1,bb2,bb3]
  all_goals
   refine zLW hb hB fun H4 k4 D4 hn4=>?_
   have hne:s3≠H3.next:=by omega
   have ob4:H4.obj s3=some [vO,vP,vC]:=by rw [k4.obj _ hlt3];exact o3
   have r34:H4.rd s3 0 3=some [vO,vP,vC]:=by rw [zb ob4];rfl
   generalize H3.next=sD at *
   simp only [pwA,seval,-iQ0,r34,g1,g2,g3,zK,zN];refine zC6 s D4 hR fun vx x h5 hx hxS m5 D5=>?_
   have ob5:h5.obj s3=some [vO,vP,vC]:=by rw [m5.obj hne];exact ob4
   have r35:h5.rd s3 0 3=some [vO,vP,vC]:=by rw [zb ob5];rfl
   simp only [pwA,seval,-iQ0,r35,g1,g2,g3,zK,zN];refine zC6 s D5 hR fun vy y h6 hy hyS m6 D6=>?_
   have ob6:h6.obj s3=some [vO,vP,vC]:=by rw [m6.obj hne];exact ob5
   have r36:h6.rd s3 0 3=some [vO,vP,vC]:=by rw [zb ob6];rfl
   simp only [pwA,seval,-iQ0,r36,g1,g2,g3,zK,zN];refine zC6 s D6 hR fun vz z h7 hz hzS m7 D7=>?_
   have ob7:h7.obj s3=some [vO,vP,vC]:=by rw [m7.obj hne];exact ob6
   have r37:h7.rd s3 0 3=some [vO,vP,vC]:=by rw [zb ob7];rfl
   have x1:=hx.one;have y1:=hy.one;have z1:=hz.one;have hxl:=hxS.len;have hyl:=hyS.len;have hzl:=hzS.len;have gl:∀{u:List Int},gS O u→u.length≤1048576:=fun hu=>by have:=hu.len;omega
   simp only [pwA,seval,-iQ0,r37,g1,g2,g3,x1,y1,z1,zK,zN];refine zDH hp hc sz hR hxS hyS hx hy fun vr hr=>?_
   have r1:=hr.one;have hxy:=F.g.cl hxS hyS;have hyz:=F.g.cl hyS hzS;simp only [pwA,seval,-iQ0,r37,g1,g2,g3,x1,y1,z1,r1,zK,zN];refine Zu hp hc sz hR hxS hyS hx hy fun vm hm=>?_
   simp only [pwA,seval,-iQ0,r37,g1,g2,g3,x1,y1,z1,r1,hm.one,zK,zN];refine Za hm hr (gl hxy) fun t ht=>?_
   obtain rfl:t=true:=ht.2 rfl;simp only [pwA,seval,-iQ0,r37,g1,g2,g3,x1,y1,z1,r1,hm.one,zK,zN,bb1,bb2,bb3];refine Zu hp hc sz hR hxS hyS hx hy fun vm1 hm1=>?_
   simp only [pwA,seval,-iQ0,r37,g1,g2,g3,x1,y1,z1,hm1.one,zK,zN];refine Zu hp hc sz hR hxy hzS hm1 hz fun vm2 hm2=>?_
   simp only [pwA,seval,-iQ0,r37,g1,g2,g3,x1,y1,z1,hm2.one,zK,zN];refine Zu hp hc sz hR hyS hzS hy hz fun vm3 hm3=>?_
   simp only [pwA,seval,-iQ0,r37,g1,g2,g3,x1,y1,z1,hm2.one,hm3.one,zK,zN];refine Zu hp hc sz hR hxS hyz hx hm3 fun vm4 hm4=>?_
   simp only [pwA,seval,-iQ0,r37,g1,g2,g3,x1,y1,z1,hm2.one,hm4.one,zK,zN];refine Za hm2 hm4 (gl (F.g.cl hxy hzS)) fun t ht=>?_
   obtain rfl:t=true:=ht.2 (F.g.as hxS hyS hzS);have pO:pLen vO=some (.int .i64 O.length):=by obtain⟨w,a,rfl⟩:=hR.O;rfl
   have r37a:h7.rd1 s3 0=some vO:=by rw [zH ob7];rfl
   simp only [pwA,seval,-iQ0,r37,r37a,pO,g1,g2,g3,x1,bb1,bb2,bb3,zK,zN,mk8 (n:=O.length) (by omega),Go.Ab.mkL (n:=O.length) (by omega),zi]
   have h7lt:s3<h7.next:=by
    rcases Nat.lt_or_ge s3 h7.next with q|q
    ·exact q
    ·exfalso
     have q5:=m5.next;have q6:=m6.next;have q7:=m7.next;have q4:=k4.next;omega
   have oz:(h7.new (pis (List.replicate O.length 0))).obj h7.next=some (pis (List.replicate O.length 0)):=by rw [zD,if_pos rfl]
   have hnz:¬s3=h7.next:=by omega
   have capO:capOK (.known O.length) O.length=true:=by simp [capOK]
   refine zMO (s:=h7.next) (cs:=pis (List.replicate O.length 0)) oz (zO _ _) fun o=>?_
   refine zIf ?_;simp only [sbs,sb,hx.sb,capO,and_self,if_true,List.map_cons,List.map_nil,nm_eq];have hvI:FI (.fz true (.sl o 0 O.length (.known O.length)) O.length (pis (List.replicate O.length 0))) (zv O):=⟨true,.sl o 0 O.length (.known O.length),by rw [List.length_replicate]⟩
   have ob8:((h7.new (pis (List.replicate O.length 0))).kill h7.next).obj s3=some [vO,vP,vC]:=by
    simp only [PHeap.kill];rw [if_neg hnz,zD,if_neg hnz];exact ob7
   generalize (h7.new (pis (List.replicate O.length 0))).kill h7.next=H8 at *
   generalize PV.fz true (.sl o 0 O.length (.known O.length)) O.length (pis (List.replicate O.length 0))=vI at *
   have r38:H8.rd s3 0 3=some [vO,vP,vC]:=by rw [zb ob8];rfl
   have i1:=hvI.one;have zS:gS O (zv O):=s.zv _;simp only [pwA,seval,-iQ0,r38,g1,g2,g3,x1,i1,zK,zN];refine Zu hp hc sz hR hxS zS hx hvI fun va ha=>?_
   rw [show gm O P C x (zv O)=x from F.g.r1 hxS]at ha
   simp only [pwA,seval,-iQ0,r38,g1,g2,g3,x1,i1,ha.one,zK,zN];refine Za ha hx (gl hxS) fun t ht=>?_
   obtain rfl:t=true:=ht.2 rfl;simp only [pwA,seval,-iQ0,r38,g1,g2,g3,x1,i1,zK,zN,bb1,bb2,bb3];refine Zu hp hc sz hR zS hxS hvI hx fun vb hvb=>?_
   rw [show gm O P C (zv O) x=x from F.g.l1 hxS]at hvb
   simp only [pwA,seval,-iQ0,r38,g1,g2,g3,x1,i1,hvb.one,zK,zN];refine Za hvb hx (gl hxS) fun t ht=>?_
   obtain rfl:t=true:=ht.2 rfl;simp only [pwA,seval,-iQ0,r38,g1,g2,g3,x1,i1,zK,zN,bb1,bb2,bb3];refine zHF hp hc sz hR hxS hx fun vc zc zcS hzc hvc=>?_
   simp only [pwA,seval,-iQ0,r38,g1,g2,g3,x1,i1,hvc.one,zK,zN];refine Zu hp hc sz hR hxS zcS hx hvc fun vd hvd=>?_
   rw [show gm O P C x zc=zv O from hzc]at hvd
   simp only [pwA,seval,-iQ0,r38,g1,g2,g3,x1,i1,hvd.one,zK,zN];refine Za hvd hvI (gl zS) fun t ht=>?_
   obtain rfl:t=true:=ht.2 rfl;simp only [pwA,seval,-iQ0,r38,g1,g2,g3,x1,i1,zK,zN,bb1,bb2,bb3];refine zHF hp hc sz hR hxS hx fun ve ze zeS hze hve=>?_
   simp only [pwA,seval,-iQ0,r38,g1,g2,g3,x1,i1,hve.one,zK,zN];refine Zu hp hc sz hR zeS hxS hve hx fun vf hvf=>?_
   have eze:gm O P C ze x=zv O:=by
    have h1:=F.g.inv_eq hxS zeS hze;rw [h1];exact F.g.inv_l hxS
   rw [eze]at hvf
   simp only [pwA,seval,-iQ0,r38,g1,g2,g3,x1,i1,hvf.one,zK,zN];refine Za hvf hvI (gl zS) fun t ht=>?_
   obtain rfl:t=true:=ht.2 rfl;simp only [pwA,seval,-iQ0,r38,g1,g2,g3,x1,i1,zK,zN,bb1,bb2,bb3];exact hk _
end Go.Proofs
namespace Go.Proofs.YtfoidnlodahfjaaGreat
open Go.ChangeShapes Go.WideShapes Go.ChangeAt Go.RowKit Go.Ab Go.Joins Go.Lie Go.Proofs
set_option maxRecDepth 100000 in
theorem zGD {H:Type} {enc:TypeId×Value→H} (W:World) (base:Nat) (args:Array Value) (ds gs:List (DataW H)) (before:List MemPlace)
  (hval:∀(j:Nat) t v,Tryz.f3.params[j]? = some t→args[j]? = some v→Value.okWide Tryz.prog W .any base t v)
  (hW:DataW.Whole enc Tryz.prog Tryz.f3.params.toList Rows.fnTopSpec.vars false W args.toList ds gs before):
  Calls Tryz.prog 3 args W fun e W'=>∃v,e=.returned v∧Rows.fnTopSpec.post enc Tryz.prog Tryz.f3 false true false false W args v W':=by
 have hW':=hW;obtain⟨p,q,hA0,hV,rfl,hfz,hnd⟩:=hW;have hA:DataW.TrodAll enc Tryz.prog W 0 (fun _=>true) true Tryz.f3.params.toList args.toList ds p:=hA0
 rw [Tryz.params3]at hA hval
 obtain⟨v0,vs0,d0,ds0,p0,q0,hargs,rfl,rfl,t0,r0⟩:=trodAll_cons hA;obtain⟨rfl,rfl,rfl⟩:=trodAll_nil r0;obtain rfl:args = #[v0]:=by cases args;simp_all
 obtain⟨n0,t0⟩:=t0;obtain⟨s0,s0',s0'',hv0⟩:=okWide_slice Tryz.underlying22 (hval 0 22 v0 rfl rfl);have hc0:v0.cells.toList=[v0]:=by rw [hv0];rfl
 rw [hc0]at t0
 obtain⟨j0,h0,vX0,X0,m0,l0,e0,i0,o0,_,R0,y0⟩:=layB _ _ _ true n0 _ _ (MR.empty W) t0;have pc:zA Tryz.prog 3 [vX0] (PHeap.start h0) (fun v _=>v=.bool true):=zLJ R0 y0 (fun _=>rfl)
 have ac:=pc.law m0.wf ⟨o0,trivial⟩;refine(ac.calls m0 (cargs:=#[v0]) ⟨_,_,rfl,i0,rfl⟩).mono fun e W' ⟨he,hb⟩=>?_
 exact⟨_,he,zEm rfl laidOut (by rw [Tryz.params3];intro t ht;simp only [List.mem_cons,List.not_mem_nil,or_false]at ht;rcases ht with rfl<;>exact⟨by kernel_rfl,of_decide_eq_true (by kernel_rfl)⟩) (by kernel_rfl) Tryz.underlying4 rfl hW' hb⟩
set_option maxRecDepth 100000 in
theorem zId (os:Os) (started:os.Started) (H:Type) (enc:TypeId×Value→H):
  ReturnsInHanded {} Tryz.checked os 3 .any (Rows.fnTopSpec.pre6 enc Tryz.prog Tryz.f3 Rows.fnTopRow.domain false) (Rows.fnTopSpec.post enc Tryz.prog Tryz.f3 false true false false):=by
 refine returnsInHanded_of_change (C:=Tryz.checked) own started (by kernel_rfl) Tryz.func3
  (ChangeSpec.witness6 (enc:=enc) (C:=Tryz.checked) false ⟨#[],#[.slice none 0 0],[]⟩ 8 (by kernel_rfl) (by kernel_rfl) (by kernel_rfl) (by kernel_rfl)) ?_
 intro W base args ds gs before hval hW _ _;exact zGD W base args ds gs before hval hW
set_option maxRecDepth 100000 in
theorem zKB:Tryz.prog.funcNamed Rows.fnTopRow.func=some 3:=by kernel_rfl
set_option maxRecDepth 100000 in
set_option maxHeartbeats 1600000 in
set_option maxRecDepth 100000 in
theorem zIe:joinedFacts Tryz.prog 3 Tryz.f3 Rows.fnTopSpec Rows.fnTopRow=true:=by
 unfold joinedFacts;simp only [Bool.and_eq_true]
 repeat' apply And.intro
 all_goals (as_aux_lemma=>kernel_rfl)
theorem topProved:Rows.FnTopSaid:=
 OpenClaim.holds_of_wide 3 Tryz.f3 rfl rfl rfl rfl rfl rfl rfl ⟨rfl,rfl,rfl,rfl,rfl⟩ rfl rfl rfl rfl rfl zKB Tryz.func3 zIe
  (of_decide_eq_true (by kernel_rfl)) (by unfold Func.isWrapper;first | (rw [if_pos (by decide +kernel)];kernel_rfl) | (rw [if_neg (by decide +kernel)];exact⟨rfl,rfl⟩))
  (fun os started H enc _=>zId os started H enc)
end Go.Proofs.YtfoidnlodahfjaaGreat
