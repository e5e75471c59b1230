/- The search for a shortest word: the program's walk. -/
import Derived.Test.YtkhbdmlhjnijaaaDP41
open Int renaming reduceNatCast'→iQ0
set_option maxRecDepth 100000
namespace Go.Grp
end Go.Grp
set_option linter.unusedSimpArgs false
set_option linter.unusedVariables false
namespace Go.Proofs
open Go.Ab Go.Lie Go.Grp
variable {σ h h':PHeap} {K:PV→PHeap→Prop} {O x y a w:List Int} {P:List (List Int)} {C:List (List (List Int))} {vO vP vC vx vL v8 v9:PV} {L:List (List Int)} {s:BS} {bs r8 r9:List PV} {N j k:Nat}
theorem zIM {s off l:Nat} {cap:Cap} {xs:List Int} (hr:σ.rd s off l=some (pis xs)) (hs:s<σ.next) (hl:l=xs.length) (hb:xs.length≤1000000) (hk:∀cap,full 1 cap xs.length→K (.sl σ.next 0 xs.length cap) (σ.new (pis xs))):zA Try.prog 63 [.sl s off l cap] σ K:=by
 subst hl;refine zA.gh ?_;refine zB mix Try.func63 ?_
 conv=>arg 2;cbv
 refine zC rfl ?_;simp only [pwA,seval,-iQ0];refine PSl.app (b:=0) (bytes:=8) (σb:=σ) (n:=0) (cs:=[]) (m:=xs.length) (news:=pis xs) (zD σ _) (Nat.zero_le _) (PSl.new _ 1 rfl (Nat.le_refl _)) rfl (fun h0=>?_) (by rw [qG];omega) (by omega) (by omega) fun v' h' hk' ha=>?_
 ·rw [Qy,if_neg h0,if_pos (Nat.le_refl _),Nat.mul_one]
  rw [Qo,if_neg (by omega)]
  exact hr
 ·simp only [pwA,seval,-iQ0]at ha ⊢
  exact ha.out hk' (qH _ _) hk
theorem Zc.move {σ σ':PHeap} {b:Nat} {v v':PV} {cells:List PV} {xs:List (List Int)} (r:Zc σ b v cells xs) (hn:σ.next≤σ'.next)
  (ho:∀c∈cells,σ'.obj (sid c)=σ.obj (sid c)) (hv:∀c∈cells,∀off l cp,v'≠.sl (sid c) off l cp):Zc σ' b v' cells xs:=by
 refine⟨⟨r.row.1,fun k c x hc hx=>?_⟩,r.nd⟩
 obtain⟨s,cap,h1,h2,h3,h4,h5,h6⟩:=r.row.2 k c x hc hx;have hm:=List.mem_of_getElem? hc;have e:sid c=s:=by rw [h1];rfl
 exact⟨s,cap,h1,h2,by rw [←e,ho c hm,e];exact h3,h4,by omega,fun off l cp=>by rw [←e];exact hv c hm off l cp⟩
structure WM (σ:PHeap) (O:List Int) (s:BS) (v8 v9:PV) (bs r8 r9:List PV) (h:PHeap):Prop where
 keep:Keep σ h
 seen:h.obj (σ.next+4)=some bs
 bl:bs.length=(ordF O O.length).toNat
 bv:∀y,gS O y→bs[(numF O y O.length).toNat]? = some (.bool (decide (y∈s.1)))
 p8:PSl σ.next 1 h v8 s.1.length r8
 p9:PSl σ.next 1 h v9 s.2.length r9
 m8:∀off l c,v8≠.sl (σ.next+4) off l c
 m9:∀off l c,v9≠.sl (σ.next+4) off l c
 ne:∀t off l c off' l' c',v8=.sl t off l c→v9≠.sl t off' l' c'
 a8:All2 FI r8 s.1
 a9:Zc h σ.next v9 r9 s.2
 d8:∀c∈r9,∀off l cp,v8≠.sl (sid c) off l cp
 d4:∀c∈r9,sid c≠σ.next+4
 nx:σ.next+5≤h.next
theorem zDa:SWC Try.prog 62:=by
 intro O x P C vO vP vC vx vL L sp σ K g hs hR hL hl6 hLs hx hvx k1 k0;have sh:=g.s;have F:=g.F;have hn6:=sh.le;have g0:=hR.O.one;have g1:=hR.P.one;have g2:=hR.C.one;have hxl:=hx.len;obtain⟨hN,hN1⟩:=zJM sh;have hob:=Zp sh.pr (i:=O.length) (Nat.le_refl _);have h7:=pow7 (i:=O.length) (by omega)
 have hL0:=hL;have hR0:=hR;obtain⟨⟨wO,aO,rfl⟩,hRP,hRC⟩:=hR;obtain⟨wl,al,rl,rfl,hrl⟩:=hL;obtain⟨wx,ax,rfl⟩:=hvx;have hsl:=hs.lt;have hrd:σ.rd1 sp 0=some (.fz wO aO O.length (pis O)):=by unfold PHeap.rd1;rw [hs.obj];rfl
 refine zA.pwf fun w0=>zA.gh ?_
 refine zB mix Try.func62 ?_
 conv=>arg 2;cbv
 refine zC rfl ?_;simp only [pwA,seval,-iQ0,hrd,mk8 (n:=O.length) (by omega),mkL (n:=O.length) (by omega),List.length_replicate,ZM]
 rw [zH0];refine⟨nEl O,?_⟩;have hNb:nEl O≤117649:=by omega
 have i0:0<nEl O:=hN1;have iN:0+1≤nEl O:=hN1;simp only [pwA,seval,-iQ0,zEf,zEU,List.length_replicate,iN,i0];generalize hb0:(PV.bool true::List.drop 1 (List.replicate (nEl O) (PV.bool false)))=bs0;have l0:bs0.length=nEl O:=by rw [←hb0];simp;omega
 have b0:Bels 0 bs0:=by rw [←hb0];exact⟨trivial,QM.2 fun c hc=>by
  have:=List.mem_of_mem_drop hc
  rw [List.eq_of_mem_replicate this];trivial⟩
 have hv0:∀y,gS O y→bs0[(numF O y O.length).toNat]? = some (.bool (decide (y∈[zv O]))):=fun y hy=>by
  have b1:=ZU sh.pr (fun j hj=>hy.bd j hj) (Nat.le_refl O.length)
  have zS:gS O (zv O):=sh.zv _;rw [←hb0]
  by_cases he:y=zv O
  ·subst he
   rw [zA9]
   simp
  ·have hne:(numF O y O.length).toNat≠0:=fun h0=>he (zBY sh hy zS (by rw [zA9];omega))
   obtain⟨q,hq⟩:∃q,(numF O y O.length).toNat=q+1:=⟨_,(Nat.succ_pred_eq_of_ne_zero hne).symm⟩
   rw [hq,List.getElem?_cons_succ,List.getElem?_drop,List.getElem?_replicate,if_pos (by omega)]
   simp [he]
 refine QH (fun m vs h'=>∃(k:Nat) (v8 v9:PV) (bs r8 r9:List PV),k≤nEl O∧m=nEl O-k∧vs=[.ptr sp 0,.fz wl al L.length rl,.fz wx ax x.length (pis x),v8,v9,.mref (σ.next+4),.int .i64 k]∧
  WM σ O (stt O P C L k) v8 v9 bs r8 r9 h'∧(∀i,i<k→i<(stt O P C L i).1.length)∧∀i,i<k→(stt O P C L i).1[i]?≠some x) (nEl O) ?_ ?_
 ·refine .fzh σ.next (pis (List.replicate O.length 0)) (by simp only [pwA,seval,-iQ0]) (qH 0 _) fun o=>.here ⟨0,.sl (σ.next+1) 0 1 (.known 1),.sl (σ.next+3) 0 1 (.known 1),bs0,[.fz true (.sl o 0 O.length (.known O.length)) O.length (pis (List.replicate O.length 0))],[.sl (σ.next+2) 0 0 (.known 0)],by omega,by omega,?_,?_,fun i hi=>by omega,fun i hi=>by omega⟩
  ·simp only [pwA,seval,-iQ0]
   have n1:¬sp=σ.next:=by omega
   simp [sbs,sb,n1]
  ·have q1:((((((σ.new (pis (List.replicate O.length 0))).new [PV.sl σ.next 0 O.length (Cap.known O.length)]).new []).new [PV.sl (σ.next+2) 0 0 (Cap.known 0)]).new bs0).kill σ.next |>.sub σ.next o (pis (List.replicate O.length 0))).obj (σ.next+2)=some (pis []):=by
    refine Zt ?_ (by omega) (qH 0 _)
    simp only [pwA,seval,-iQ0]
    rfl
   refine⟨?_,?_,?_,hv0,?_,?_,fun off l c e=>?_,fun off l c e=>?_,fun t off l c off' l' c' e=>?_,?_,?_,?_,?_,?_⟩
   ·exact Keep.sub w0 (Keep.kill (((((zD σ _).new _).new _).new _).new _) (by omega)) (by omega)
   ·exact Zt (by simp only [pwA,seval,-iQ0]) (by omega) b0
   ·rw [l0,hN];rfl
   ·refine⟨σ.next+1,.known 1,rfl,.inr rfl,?_,rfl,by omega,by show σ.next+1<σ.next+5;omega⟩
    have e4:(((((σ.new (pis (List.replicate O.length 0))).new [PV.sl σ.next 0 O.length (Cap.known O.length)]).new []).new [PV.sl (σ.next+2) 0 0 (Cap.known 0)]).new bs0).obj (σ.next+1)=some [PV.sl σ.next 0 O.length (Cap.known O.length)]:=by simp only [pwA,seval,-iQ0]
    simp only [PHeap.sub,PHeap.kill,if_neg (show ¬σ.next+1=σ.next by omega)]
    rw [e4];simp [sbs,sb,capOK]
   ·refine⟨σ.next+3,.known 1,rfl,.inr rfl,?_,rfl,by omega,by show σ.next+3<σ.next+5;omega⟩
    have e4:(((((σ.new (pis (List.replicate O.length 0))).new [PV.sl σ.next 0 O.length (Cap.known O.length)]).new []).new [PV.sl (σ.next+2) 0 0 (Cap.known 0)]).new bs0).obj (σ.next+3)=some [PV.sl (σ.next+2) 0 0 (Cap.known 0)]:=by simp only [pwA,seval,-iQ0]
    simp only [PHeap.sub,PHeap.kill,if_neg (show ¬σ.next+3=σ.next by omega)]
    rw [e4];simp [sbs,sb]
   ·simp only [PV.sl.injEq]at e;omega
   ·simp only [PV.sl.injEq]at e;omega
   ·simp only [PV.sl.injEq]at e
    intro e2;simp only [PV.sl.injEq]at e2
    omega
   ·exact(All2.nil FI).snoc ⟨true,_,by rw [show(zv O).length=O.length from List.length_replicate ..]⟩
   ·refine(Zc.nil _ σ.next _).snoc (m:=0) ⟨σ.next+2,.known 0,rfl,.inr rfl,q1,by omega,by show σ.next+2<σ.next+5;omega,fun off l c e=>?_⟩ (fun d hd=>absurd hd (List.not_mem_nil)) (Nat.zero_le _)
    simp only [PV.sl.injEq]at e;omega
   ·intro c hc off l cp e
    rw [List.mem_singleton.1 hc]at e
    simp only [PV.sl.injEq,sid]at e;omega
   ·intro c hc
    rw [List.mem_singleton.1 hc];show σ.next+2≠σ.next+4;omega
   ·show σ.next+5≤σ.next+5;omega
 rintro m vs h' ⟨k,v8,v9,bs,r8,r9,hkN,rfl,rfl,v,hlt,hms⟩
 have ok:=OkS.stt sh F hLs hlt;have bd:=ok.bound sh F hLs;rw [hN]at bd
 have lk:=ok.len;simp only [pwA,seval,-iQ0,v.p8.acc.pLen];refine iteI (fun hc=>?_) fun hge=>?_
 rotate_left
 ·exact Gh.fin0 v.keep ⟨trivial,trivial,trivial⟩ (k0 _ (zEW sh F g.cent hLs hlt hms (by omega)) ⟨true,.nils,rfl⟩)
 have hc':k<(stt O P C L k).1.length:=by omega
 have hc9:k<(stt O P C L k).2.length:=by omega
 obtain⟨t8,c8,rfl,q1,q2,q3,q4,q5⟩:=v.p8;obtain⟨t9,c9,rfl,p1,p2,p3,p4,p5⟩:=v.p9;obtain⟨wa,aa,hra⟩:=v.a8.rowI hc';have hr9:k<r9.length:=by rw [v.a9.row.1];exact hc9
 obtain⟨sW,cW,hrb,u1,u2,u3,u4,u5⟩:=v.a9.row.2 k _ _ (List.getElem?_eq_getElem hr9) (List.getElem?_eq_getElem hc9);have e8:h'.rd1 t8 k=some (.fz wa aa (stt O P C L k).1[k].length (pis (stt O P C L k).1[k])):=by unfold PHeap.rd1;rw [q2];exact hra
 have e9:h'.rd1 t9 k=some (.sl sW 0 (stt O P C L k).2[k].length cW):=by unfold PHeap.rd1;rw [p2,←hrb];exact List.getElem?_eq_getElem hr9
 have aS:gS O (stt O P C L k).1[k]:=(GC.sub F hLs).inS (ok.mem _ (List.getElem_mem hc'));have al':=aS.len;have wl9:=ok.ws k hc9;have hci:(k:Int)<((stt O P C L k).1.length:Int):=by omega
 have hci9:(k:Int)<((stt O P C L k).2.length:Int):=by omega
 simp only [pwA,seval,-iQ0,hc',hc9,hci,hci9,e8];refine zAd rfl rfl (by omega) ?_
 by_cases hx0:(stt O P C L k).1[k]=x
 ·simp only [pwA,seval,-iQ0,hx0,hc',hc9,hci,hci9,e9]
  have e:(TR.tup [TR.row sW cW (stt O P C L k).2[k],.leaf (.bool true)]).pv=.tup [.sl sW 0 (stt O P C L k).2[k].length cW,.bool true]:=by simp only [TR.pv,TR.pvs,TR.row_pv]
  have es:(TR.tup [TR.row sW cW (stt O P C L k).2[k],.leaf (.bool true)]).slots=[sW]:=by simp only [TR.slots,TR.slotss,TR.row_slots,List.append_nil]
  have hrok:(TR.row sW cW (stt O P C L k).2[k]).ok h' σ.next:=TR.row_ok u1 u2 u3 u4;rw [←e];refine Gh.tree v.keep ⟨hrok,trivial,trivial⟩ fun a T h1 h2 h3=>?_
  rw [es]at h1 h2
  have e2:(TR.tup [TR.row sW cW (stt O P C L k).2[k],.leaf (.bool true)]).fz a=.tup [(TR.row sW cW (stt O P C L k).2[k]).fz a,.bool true]:=by simp only [TR.fz,TR.fzs]
  rw [e2];exact k1 _ k _ T ⟨by rw [List.getElem?_eq_getElem hc',hx0],hms,hlt⟩ (List.getElem?_eq_getElem hc9) TR.row_FI (by omega) (TR.own hrok (by rw [TR.row_slots];simp) (by rw [TR.row_slots];exact h1) (by rw [TR.row_slots];exact h2)) h3
 have hms':∀i,i<k+1→(stt O P C L i).1[i]?≠some x:=fun i hi=>by
  rcases Nat.lt_or_ge i k with z|z
  ·exact hms i z
  ·have:i=k:=by omega
   subst this;rw [List.getElem?_eq_getElem hc'];exact fun e=>hx0 (Option.some.inj e)
 have hlt':∀i,i<k+1→i<(stt O P C L i).1.length:=fun i hi=>by
  rcases Nat.lt_or_ge i k with z|z
  ·exact hlt i z
  ·have:i=k:=by omega
   subst this;exact hc'
 simp only [pwA,seval,-iQ0,hx0];have hnx:stt O P C L (k+1)=nxt O P C L ((stt O P C L k).1[k]) ((stt O P C L k).2[k]) L.length (stt O P C L k):=by
  rw [stt,List.getD_eq_getElem?_getD,List.getD_eq_getElem?_getD,List.getElem?_eq_getElem hc',List.getElem?_eq_getElem hc9];rfl
 have aG:GC O P C L (stt O P C L k).1[k]:=ok.mem _ (List.getElem_mem hc');have ga8:(stt O P C L k).1[k]? = some (stt O P C L k).1[k]:=List.getElem?_eq_getElem hc';have ga9:(stt O P C L k).2[k]? = some (stt O P C L k).2[k]:=List.getElem?_eq_getElem hc9;generalize (stt O P C L k).1[k]=a at *
 generalize (stt O P C L k).2[k]=w at *
 clear e8 e9 hra hrb u1 u2 u3 u4 u5;refine QH (fun m vs h3=>∃(j:Nat) (v8 v9:PV) (bs r8 r9:List PV),j≤L.length∧m=L.length-j∧vs=[.ptr sp 0,.fz wl al L.length rl,.fz wx ax x.length (pis x),v8,v9,.mref (σ.next+4),.int .i64 k,.fz wl al L.length rl,.int .i64 L.length,.int .i64 j]∧
  WM σ O (nxt O P C L a w j (stt O P C L k)) v8 v9 bs r8 r9 h3) L.length ?_ ?_
 ·exact .here ⟨0,_,_,bs,r8,r9,by omega,by omega,rfl,v⟩
 clear v q1 q2 q3 q4 q5 p1 p2 p3 p4 p5
 rintro m vs h3 ⟨j,v8,v9,bs,r8,r9,hj,rfl,rfl,v⟩
 have okj:=ok.nxt F hLs aG (by omega:w.length+1≤(stt O P C L k).1.length) hj
 have pr:=zB2 (O:=O) (P:=P) (C:=C) (L:=L) a w (stt O P C L k) j;have gj8:=zAM pr.1 ga8;have gj9:=zAM pr.2 ga9;generalize hsj:nxt O P C L a w j (stt O P C L k)=sj at *
 simp only [pwA,seval,-iQ0];refine iteI (fun hcj=>?_) fun hgj=>?_
 rotate_left
 ·have hje:j=L.length:=by omega
  subst hje;simp only [pwA,seval,-iQ0,wrapS hc' (by omega:(stt O P C L k).1.length≤4611686018427387904)]
  exact⟨_,by omega,.here ⟨k+1,v8,v9,bs,r8,r9,by omega,rfl,rfl,by rw [hnx,hsj];exact v,hlt',hms'⟩⟩
 have hjl:j<L.length:=by omega
 have bdj:=okj.bound sh F hLs;rw [hN]at bdj
 have lkj:=okj.len;obtain⟨wg,ag,hrg⟩:=hrl.rowI hjl;have hk8:k<sj.1.length:=by
  rcases Nat.lt_or_ge k sj.1.length with z|z
  ·exact z
  ·rw [List.getElem?_eq_none z]at gj8;cases gj8
 have hk9:k<sj.2.length:=by omega
 have ea8:sj.1[k]=a:=by rw [List.getElem?_eq_getElem hk8]at gj8;exact Option.some.inj gj8
 have ea9:sj.2[k]=w:=by rw [List.getElem?_eq_getElem hk9]at gj9;exact Option.some.inj gj9
 obtain⟨wa',aa',hra⟩:=v.a8.rowI hk8;have hr9':k<r9.length:=by rw [v.a9.row.1];exact hk9
 obtain⟨sW,cW,hrb,u1,u2,u3,u4,u5⟩:=v.a9.row.2 k _ _ (List.getElem?_eq_getElem hr9') (List.getElem?_eq_getElem hk9);have dW8:=v.d8 _ (List.getElem_mem hr9');have dW4:=v.d4 _ (List.getElem_mem hr9');rw [hrb]at dW8 dW4
 simp only [sid]at dW8 dW4
 rw [ea8]at hra
 rw [ea9]at hrb u1 u2
 have vv:=v;obtain⟨t8,c8,rfl,q1,q2,q3,q4,q5⟩:=v.p8;obtain⟨t9,c9,rfl,p1,p2,p3,p4,p5⟩:=v.p9;have e8:h3.rd1 t8 k=some (.fz wa' aa' a.length (pis a)):=by unfold PHeap.rd1;rw [q2];exact hra
 have hci:(k:Int)<(sj.1.length:Int):=by omega
 have hci9:(k:Int)<(sj.2.length:Int):=by omega
 have lS:=hLs _ (List.getElem_mem hjl);simp only [pwA,seval,-iQ0,hk8,hk9,hci,hci9,e8,hjl,hrg];refine zCw sh F (hs.keep vv.keep) hR0 (by rw [Nat.sub_self];exact aS) (by rw [Nat.sub_self];exact lS) ⟨wa',aa',rfl⟩ ⟨wg,ag,rfl⟩ fun vy fy=>?_
 have hyS:=F.g.cl aS lS;have yb:=ZU sh.pr (fun j hj=>hyS.bd j hj) (Nat.le_refl O.length)
 obtain⟨nn,hnn⟩:∃nn:Nat,numF O (gm O P C a L[j]) O.length=(nn:Int):=⟨_,(Int.toNat_of_nonneg yb.1).symm⟩
 have nnb:nn<nEl O:=by omega
 have hbv:=v.bv _ hyS;rw [hnn]at hbv
 have e7:h3.rd1 (σ.next+4) nn=some (.bool (decide (gm O P C a L[j]∈sj.1))):=by unfold PHeap.rd1;rw [v.seen];exact hbv
 simp only [pwA,seval,-iQ0];refine zHo sh (hs.keep vv.keep) hR0.O hyS fy ?_;rw [hnn];simp only [pwA,seval,-iQ0,zJk,zHk,e7];have hnj:nxt O P C L a w (j+1) (stt O P C L k)=vst sj (gm O P C a L[j]) (w++[(j:Int)+1]):=by
  rw [nxt,hsj,List.getD_eq_getElem?_getD,List.getElem?_eq_getElem hjl];rfl
 have wj:=wrapS hjl (by omega:L.length≤4611686018427387904)
 refine iteI (fun hin=>?_) fun hnin=>?_
 ·refine⟨L.length-(j+1),by omega,.here ⟨j+1,_,_,bs,r8,r9,by omega,rfl,by rw [wj],?_⟩⟩
  rw [hnj];unfold vst;rw [if_pos hin];exact vv
 have hbl:nn<bs.length:=by rw [v.bl];omega
 simp only [pwA,seval,-iQ0,zEf,zEU,zJL v.seen hbl (show PV.one (.bool true)=true from rfl),fy.one,fy.cells]
 have nxv:=v.nx;have ht84:t8≠σ.next+4:=fun e=>v.m8 _ _ _ (by rw [e])
 have ht94:t9≠σ.next+4:=fun e=>v.m9 _ _ _ (by rw [e])
 have hv8:PSl σ.next 1 (h3.set (σ.next+4) (bs.set nn (.bool true))) (.sl t8 0 sj.1.length c8) sj.1.length r8:=zIm (t:=0) vv.p8 (fun s ⟨off,l,c,e⟩=>by
  simp only [PV.sl.injEq]at e
  rw [ZC,if_neg (by omega)]) (Nat.le_refl _)
 refine PSl.pushB (σb:=σ) (b:=σ.next) (v.keep.set (by omega) _) (by omega) (by show σ.next≤h3.next;omega) hv8 (by omega) fun v8' h5 k5 a5 o5 n5 l5=>?_
 have s5:∀t,t<h3.next→t≠t8→t≠σ.next+4→h5.obj t=h3.obj t:=fun t h1 h2 h4=>by
  rw [o5 t h1 fun off l c e=>h2 (by simp only [PV.sl.injEq]at e;exact e.1.symm),ZC,if_neg h4]
 have t98:t9≠t8:=fun e=>v.ne t8 0 _ c8 0 _ c9 rfl (by rw [e])
 have l5':h3.next<h5.next:=l5;have sW8:sW≠t8:=fun e=>dW8 0 _ c8 (by rw [e])
 have e9':h5.rd1 t9 k=some (.sl sW 0 w.length cW):=by unfold PHeap.rd1;rw [s5 t9 p5 t98 ht94,p2,←hrb];exact List.getElem?_eq_getElem hr9'
 have eW:h5.obj sW=some (pis w):=by rw [s5 sW u4 sW8 dW4];exact u2
 simp only [pwA,seval,-iQ0,a5.one,hk9,hci9,e9'];refine zIM (xs:=w) (by unfold PHeap.rd;rw [eW];simp only [Option.bind_some,qG,Nat.zero_add,Nat.le_refl,if_true,List.drop_zero];rw [List.take_of_length_le (by rw [qG];exact Nat.le_refl _)]) (by omega) rfl (by omega) fun cap hcap=>?_
 simp only [pwA,seval,-iQ0,wj];have pA:PAcc h5.next 1 (h5.new (pis w)) (.sl h5.next 0 w.length cap) w.length (pis w):=.inr ⟨h5.next,cap,rfl,hcap,by rw [qf,if_pos rfl],by rw [qG];omega,Nat.le_refl _,Nat.lt_succ_self _⟩
 refine PAcc.push (bytes:=8) (σb:=h5) (h:=h5.new (pis w)) (zD _ _) pA (by omega) (by omega) fun vR h6 k6 a6=>?_
 obtain⟨tR,cR,rfl,hcR,x2,x3,x4,x5⟩:=a6;have v9':PSl σ.next 1 h6 (.sl t9 0 sj.2.length c9) sj.2.length r9:=⟨t9,c9,rfl,p1,by rw [k6.obj t9 (by omega),s5 t9 p5 t98 ht94];exact p2,p3,p4,by have:=k6.next;omega⟩
 simp only [pwA,seval,-iQ0];refine PSl.pushB (σb:=σ) (b:=σ.next) (k5.trans k6) (by omega) (by have:=k6.next;omega) v9' (by omega) fun v9' h7 k7 a7 o7 n7 l7=>?_
 simp only [pwA,seval,-iQ0,wj];have x7:h7.obj tR=some (pis w++[.int .i64 ((j+1:Nat):Int)]):=by
  rw [o7 tR x5 fun off l c e=>by simp only [PV.sl.injEq]at e;omega];exact x2
 have lk6:=k6.next;have s7:∀t,t<h3.next→t≠t8→t≠t9→t≠σ.next+4→h7.obj t=h3.obj t:=fun t h1 h2 h4 h8=>by
  rw [o7 t (by omega) fun off l c e=>h4 (by simp only [PV.sl.injEq]at e;exact e.1.symm),k6.obj t (by omega),s5 t h1 h2 h8]
 have evst:vst sj (gm O P C a L[j]) (w++[(j:Int)+1])=(sj.1++[gm O P C a L[j]],sj.2++[w++[(j:Int)+1]]):=by
  unfold vst;rw [if_neg hnin]
 obtain⟨u8,d8,rfl,y1,y2,y3,y4,y5⟩:=a5;obtain⟨u9,d9,rfl,z1,z2,z3,z4,z5⟩:=a7;have u8n:h3.next≤u8:=by
  rcases Nat.lt_or_ge u8 h3.next with q|q
  ·exact absurd rfl (n5 u8 q 0 _ d8)
  ·exact q
 have u9n:h6.next≤u9:=by
  rcases Nat.lt_or_ge u9 h6.next with q|q
  ·exact absurd rfl (n7 u9 q 0 _ d9)
  ·exact q
 have mk:=zEY (w:=w++[(j:Int)+1]) sh hyS v.bl v.bv hnin;rw [hnn]at mk
 have rlt:=v.a9.lt;have r9n:∀c∈r9,sid c≠t9:=fun c hc e=>by
  obtain⟨q,hq,rfl⟩:=List.mem_iff_getElem.1 hc;obtain⟨s',cap',h1,_,_,_,_,h6'⟩:=vv.a9.row.2 q _ _ (List.getElem?_eq_getElem hq) (List.getElem?_eq_getElem (by rw [←vv.a9.row.1];exact hq))
  rw [h1]at e
  exact h6' 0 _ c9 (by rw [show s'=t9 from e])
 have r8n:∀c∈r9,sid c≠t8:=fun c hc e=>v.d8 c hc 0 _ c8 (by rw [e])
 refine⟨L.length-(j+1),by omega,.here ⟨j+1,.sl u8 0 (sj.1.length+1) d8,.sl u9 0 (sj.2.length+1) d9,bs.set nn (.bool true),r8++[vy],r9++[.sl tR 0 (w.length+1) cR],by omega,rfl,rfl,?_⟩⟩
 rw [hnj];refine⟨k7,?_,by rw [List.length_set];exact v.bl,mk,?_,?_,fun off l c e=>?_,fun off l c e=>?_,fun t off l c off' l' c' e=>?_,?_,?_,?_,?_,?_⟩
 ·rw [o7 _ (by omega) (fun off l c e=>by simp only [PV.sl.injEq]at e;omega),k6.obj _ (by omega),o5 _ (by show σ.next+4<h3.next;omega) (fun off l c e=>by simp only [PV.sl.injEq]at e;omega),ZC,if_pos rfl]
 ·rw [evst]
  show PSl _ _ _ _ (sj.1++[gm O P C a L[j]]).length _;rw [List.length_append,List.length_singleton];exact⟨u8,d8,rfl,y1,by rw [o7 u8 (by omega) (fun off l c e=>by simp only [PV.sl.injEq]at e;omega),k6.obj u8 y5];exact y2,by simpa using y3,by omega,by omega⟩
 ·rw [evst]
  show PSl _ _ _ _ (sj.2++[w++[(j:Int)+1]]).length _;rw [List.length_append,List.length_singleton];exact⟨u9,d9,rfl,z1,z2,by simpa using z3,by omega,z5⟩
 ·simp only [PV.sl.injEq]at e;omega
 ·simp only [PV.sl.injEq]at e;omega
 ·simp only [PV.sl.injEq]at e
  intro e2;simp only [PV.sl.injEq]at e2
  omega
 ·rw [evst];exact v.a8.snoc fy
 ·rw [evst]
  refine(Zc.move v.a9 (σ':=h7) (v':=.sl u9 0 (sj.2.length+1) d9) (by omega) (fun c hc=>s7 _ (rlt c hc) (r8n c hc) (r9n c hc) (v.d4 c hc)) fun c hc off l cp e=>?_).snoc (m:=h3.next) ⟨tR,cR,by simp,by simpa using hcR,by rw [x7];simp [pis],by omega,by omega,fun off l c e=>?_⟩ rlt (by show h3.next≤tR;omega)
  ·have:=rlt c hc
   simp only [PV.sl.injEq]at e;omega
  ·simp only [PV.sl.injEq]at e;omega
 ·intro c hc off l cp e
  simp only [PV.sl.injEq]at e
  rcases List.mem_append.1 hc with hc|hc
  ·have:=rlt c hc;omega
  ·rw [List.mem_singleton.1 hc]at e
   simp only [sid]at e;omega
 ·intro c hc e
  rcases List.mem_append.1 hc with hc|hc
  ·exact v.d4 c hc e
  ·rw [List.mem_singleton.1 hc]at e
   simp only [sid]at e;omega
 ·show σ.next+5≤h7.next;omega
end Go.Proofs
