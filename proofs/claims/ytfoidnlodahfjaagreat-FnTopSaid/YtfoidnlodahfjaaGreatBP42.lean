/- Presentations in slots: lists that grow; the trivial presentation and a copy of one. -/
import Derived.Test.YtfoidnlodahfjaaGreatBP40
import Derived.Test.YtfoidnlodahfjaaGreatBP32
import Derived.Test.YtfoidnlodahfjaaGreatBAbPa
import Derived.Test.YtfoidnlodahfjaaGreatBP28
import Derived.Test.YtfoidnlodahfjaaGreatBP29
import Derived.Test.YtfoidnlodahfjaaGreatBAbPn
import Derived.Test.YtfoidnlodahfjaaGreatBAbPz
open Int renaming reduceNatCast'→iQ0
set_option maxRecDepth 100000
namespace Go.Grp
end Go.Grp
set_option linter.unusedSimpArgs false
set_option linter.unusedVariables false
namespace Go.Proofs
open Go.Ab Go.Lie Go.Grp
variable {σ h h':PHeap} {K:PV→PHeap→Prop} {O:List Int} {P:List (List Int)} {C:List (List (List Int))} {vO vP vC vx vM vA v:PV} {x:List Int} {A M:List (List Int)} {sp se:Nat} {rows:List SR}
def nEl (O:List Int):Nat:=(ordF O O.length).toNat
def regAt (O:List Int) (P:List (List Int)) (C:List (List (List Int))) (i t:Nat):Int:=numF O (mu O P C O.length (dgs O O.length t) (Grp.unit O i)) O.length
def zAB (O:List Int) (P:List (List Int)) (C:List (List (List Int))) (i:Nat):List Int:=(List.range (nEl O)).map (regAt O P C i)
def regul (O:List Int) (P:List (List Int)) (C:List (List (List Int))):List (List Int):=(List.range O.length).map (zAB O P C)
theorem zA5 (s:Shp O P C):ordF O O.length=(nEl O:Int)∧1≤nEl O:=by
 have h1:=Zr s.pr (i:=O.length) (Nat.le_refl _);unfold nEl;omega
theorem RowsI.finT {hg:PHeap} {c:Int} (a:RowsI hg h v rows) (hg0:Keep σ hg) (k:∀z t,FII z (rows.map SR.x)→Own σ.top t z→σ.top≤t→K (.tup [z,.int .i64 c]) (σ.up t)):Gh σ K (.tup [v,.int .i64 c]) h:=by
 have hk:=hg0.trans a.keep;have ok:∀q∈rows,q.ok h σ.next:=fun q hq=>⟨(a.ok q hq).1,(a.ok q hq).2.1,Nat.le_trans hg0.next (a.ok q hq).2.2.1,(a.ok q hq).2.2.2⟩
 rcases a.acc with ⟨rfl,h1,h2⟩|⟨s,cap,rfl,q1,q2,q3,q4,q5⟩
 ·have h0:rows=[]:=List.eq_nil_of_length_eq_zero h1
  exact Gh.fin0T hk hk.top ⟨trivial,trivial,trivial⟩ fun _=>k _ σ.top ⟨true,.nils,[],by rw [h0];rfl,by rw [h0];exact All2.nil _⟩ (Own.empty _ _ _ _ _) (Nat.le_refl _)
 ·have hn:s∉QC rows:=fun hm=>a.ne s hm 0 _ cap rfl
  have ht:TR.ok h σ.next (.tup [TR.rows s cap rows,.leaf (.int .i64 c)]):=⟨TR.rows_ok q1 q2 (Nat.le_trans hg0.next q4) q5 ok,trivial,trivial⟩
  have:=Gh.treeO (K:=K) hk ht (by
   simp only [TR.slots,TR.slotss,TR.rows,TR.rows_slots,List.append_nil];exact List.nodup_cons.2 ⟨hn,a.nd⟩) fun aa T h1 h2=>k _ T TR.rows_FII ⟨h1.wh.1,by
    have:=h1.nd
    simpa [TR.fz,TR.fzs,ead,eads]using this,fun o ho=>h1.lt o (by simp only [TR.fz,TR.fzs,ead,eads];exact List.mem_append.2 (.inl ho))⟩ h2
  simpa only [TR.pv,TR.pvs,TR.rows,List.length_map]using this
theorem zGi {cap:Cap} (s:Shp O P C) (hs:PtrG σ sp vO vP vC) (hO:FI vO O) (hx:gS O x) (he:σ.obj se=some (pis x)) (hk:K (.int .i64 (numF O x O.length)) σ):zA Tryz.prog 97 [.ptr sp 0,.sl se 0 O.length cap] σ K:=by
 have hn6:=s.le;have hxl:=hx.len;obtain⟨w0,a0,rfl⟩:=hO;have e0:σ.rd1 sp 0=some (.fz w0 a0 O.length (pis O)):=by rw [zH hs.obj];rfl
 have ern:∀t,σ.rd1 se t=(pis x)[t]?:=fun t=>zH he t
 refine zC mix Tryz.func97 ?_
 conv=>arg 2;cbv
 refine zF rfl ?_;simp only [pwA,seval,-iQ0,e0];refine zG (fun m vs h'=>∃i:Nat,i≤O.length∧m=O.length-i∧vs=[.ptr sp 0,.int .i64 (numF O x i),.sl se 0 O.length cap,.int .i64 O.length,.int .i64 i]∧σ=h') O.length ⟨0,by omega,by omega,rfl,rfl⟩ ?_
 rintro m vs h' ⟨i,hi,rfl,rfl,rfl⟩
 simp only [pwA,seval,-iQ0];refine iteI (fun hltO=>?_) fun hge=>?_
 rotate_left
 ·have hie:i=O.length:=by omega
  subst hie;exact hk
 have hlt:i<x.length:=by omega
 have hb:=Zr s.pr (i:=i+1) hltO;have h7:=pow7 (i:=i+1) (by omega)
 have hnb:=zA4 s.pr hx.bd (i:=i+1) hltO;have hb1:=Zr s.pr (i:=i) hi;have h71:=pow7 (i:=i) (by omega)
 have hnb1:=zA4 s.pr hx.bd (i:=i) hi;have bx:=hx.bd i hltO;have ha:=at_eq hltO;have hax:=at_eq hlt;have hm:numF O x i*O[i] + x[i]=numF O x (i+1):=by rw [numF,ha,hax]
 rw [hax]at bx
 rw [ha]at bx
 have hm0:0≤numF O x i*O[i]:=by
  have:=(s.pr i hltO).1
  rw [ha]at this
  exact Int.mul_nonneg hnb1.1 (by omega)
 have hw0:IntKind.i64.wrap (numF O x i*O[i])=numF O x i*O[i]:=wrap64 (by omega) (by omega)
 have hw:IntKind.i64.wrap (numF O x i*O[i] + x[i])=numF O x (i+1):=by rw [hm,wrap64 (by omega) (by omega)]
 simp only [pwA,seval,-iQ0,e0,ern,hlt,hltO,gi hlt,gi hltO,zM,hw0,hw,wrapS hltO (by omega:O.length≤4611686018427387904)]
 exact⟨_,by omega,i+1,by omega,rfl,rfl⟩
theorem Keep.set2 {a b:PHeap} (k:Keep a b) (s:Nat) (ds:List PV):Keep (a.set s ds) (b.set s ds):=
 ⟨k.next,k.top,fun t ht=>by
  rw [zJ,zJ]
  by_cases e:t=s
  ·rw [if_pos e,if_pos e]
  ·rw [if_neg e,if_neg e];exact k.obj t ht⟩
theorem zBS (hp:zQ O P C) (hc:Cons O P C) (sz:SzP O P C) (hR:IsPr vO vP vC O P C) (hN:ordF O O.length≤128) (hk:∀v t,FII v (regul O P C)→Own σ.top t v→σ.top≤t→K (.tup [v,.int .i64 0]) (σ.up t)):zA Tryz.prog 43 [.agg [vO,vP,vC]] σ K:=by
 have s:=hp.shp;have F:=Cons.full s hc;have hn6:=s.le;obtain⟨hNe,hN1⟩:=zA5 s;have hN8:nEl O≤128:=by omega
 have g0:=hR.O.one;have g1:=hR.P.one;have g2:=hR.C.one;have hR0:=hR;obtain⟨⟨w0,a0,rfl⟩,hRP,hRC⟩:=hR;have hs:PtrG (σ.new [.fz w0 a0 O.length (pis O),vP,vC]) σ.next (.fz w0 a0 O.length (pis O)) vP vC:=⟨by simp only [pwA,seval,-iQ0],Nat.lt_succ_self _⟩
 refine zA.gh ?_;refine zC mix Tryz.func43 ?_
 conv=>arg 2;cbv
 refine zF rfl ?_;simp only [pwA,seval,-iQ0,g1,g2];refine qg hR0 sz fun t ht=>?_
 obtain rfl:t=true:=ht.2 ⟨hp,hc⟩;simp only [pwA,seval,-iQ0];refine zAa s hs hR0.O ?_;rw [hNe];have d1:¬(128:Int)<(nEl O:Int):=by omega
 simp only [pwA,seval,-iQ0,d1];generalize hH:σ.new [.fz w0 a0 O.length (pis O),vP,vC]=H0 at *
 have hg0:Keep σ H0:=by rw [←hH];exact zB _ _
 have e0:∀{g:PHeap},Keep H0 g→g.rd1 σ.next 0=some (.fz w0 a0 O.length (pis O)):=fun k=>by rw [zH (hs.keep k).obj];rfl
 simp only [pwA,seval,-iQ0,e0 (Keep.refl H0)];refine zG (fun m vs h'=>∃(i:Nat) (vL:PV) (rows:List SR),i≤O.length∧m=O.length-i∧vs=[.ptr σ.next 0,vL,.int .i64 O.length,.int .i64 i]∧RowsI H0 h' vL rows∧rows.map SR.x=(List.range i).map (zAB O P C)) O.length ⟨0,_,[],by omega,by omega,rfl,RowsI.nil H0,rfl⟩ ?_
 rintro m vs h' ⟨i,vL,rows,hi,rfl,rfl,hr,hv⟩
 have hrl:rows.length=i:=by have:=congrArg List.length hv;simpa using this
 simp only [pwA,seval,-iQ0];refine iteI (fun hlt=>?_) fun hge=>?_
 rotate_left
 ·have hie:i=O.length:=by omega
  subst hie;exact RowsI.finT hr hg0 fun z t hz ho ht=>hk z t (by rw [show rows.map SR.x=regul O P C from hv]at hz;exact hz) ho ht
 have hTG:=qi s F (d:=O.length) O.length (j:=i) (by omega) hlt (by omega)
 refine zEL s (hs.keep hr.keep) hR0.O (by omega) fun vE h2 rsE rE hE=>?_
 have hEl:rsE.length=nEl O:=by have:=congrArg List.length hE;simpa [nEl]using this
 obtain⟨sE,capE,rfl,hfE,oE,lE,gE,ltE⟩:=rE.acc.pos (by omega)
 have eX:∀t (ht:t<rsE.length),rsE[t].x=dgs O O.length t:=fun t ht=>by
  have:=congrArg (fun L=>L[t]?) hE
  simp only [List.getElem?_map,List.getElem?_eq_getElem ht,Option.map_some]at this
  rw [List.getElem?_range (by rw [hNe,Int.toNat_natCast];omega)]at this
  simpa using this
 rw [hEl];simp only [pwA,seval,-iQ0];refine zG (fun m vs h3=>∃(t:Nat) (vX:PV) (Hc:PHeap),t≤nEl O∧m=nEl O-t∧vs=[.ptr σ.next 0,vL,.int .i64 i,vX,.int .i64 O.length,.int .i64 i,.sl sE 0 (nEl O) capE,.int .i64 (nEl O:Nat),.int .i64 t]∧Keep Hc h3∧Keep h' Hc∧Hc.next=h2.next∧Hc.obj sE=some (rsE.map SR.pv)∧(∀q (hq:q<rsE.length),t≤q→Hc.obj rsE[q].s=some (pis rsE[q].x))∧PAcc h2.next 1 h3 vX t (pis ((List.range t).map (regAt O P C i)))) (nEl O) ⟨0,_,h2,by omega,by omega,rfl,Keep.refl _,rE.keep,rfl,oE,fun q hq _=>(rE.ok _ (List.getElem_mem hq)).2.1,PAcc.nil _ _ _⟩ ?_
 rintro m vs h3 ⟨t,vX,Hc,ht,rfl,rfl,hk3,hkc,hnc,hoE,hun,ha⟩
 have hk03:Keep H0 h3:=hr.keep.trans (hkc.trans hk3);simp only [pwA,seval,-iQ0];refine iteI (fun hlt2=>?_) fun hge2=>?_
 rotate_left
 ·have hte:t=nEl O:=by omega
  subst hte;obtain⟨sX,capX,rfl,hfX,oX,lX,gX,ltX⟩:=ha.pos (by omega)
  have hxl:(zAB O P C i).length=nEl O:=by simp [zAB]
  simp only [pwA,seval,-iQ0];have hnx2:h'.next≤h2.next:=rE.keep.next;have key:=fun K k=>RowsI.push (K:=K) (t:=sX) (h:=h3) (cap:=capX) (x:=zAB O P C i) hr (hkc.trans hk3) (by omega) ltX oX (by rw [hxl];exact hfX) (by omega) k
  rw [hxl]at key
  refine key _ fun v' h4 r4 k4 l4=>?_
  simp only [pwA,seval,-iQ0,wrapS hlt (by omega:O.length≤4611686018427387904)]
  refine⟨_,by omega,i+1,v',_,by omega,rfl,rfl,r4,?_⟩
  rw [List.map_append,hv,List.range_succ,List.map_append]
  rfl
 have hltE:t<rsE.length:=by omega
 have hok:=rE.ok _ (List.getElem_mem hltE);have hxl:rsE[t].x.length=O.length:=by rw [eX t hltE];exact ZR _ _ _
 have hse:rsE[t].s<Hc.next:=by rw [hnc];exact hok.2.2.2
 have hse3:rsE[t].s<h3.next:=Nat.lt_of_lt_of_le hse hk3.next;have hob:h3.obj rsE[t].s=some (pis (dgs O O.length t)):=by rw [hk3.obj _ hse,hun t hltE (Nat.le_refl _),eX t hltE]
 have hsEl:sE<Hc.next:=by rw [hnc];exact ltE
 have hob3:h3.obj sE=some (rsE.map SR.pv):=by rw [hk3.obj _ hsEl];exact hoE
 have hrd:h3.rd1 sE t=some (.sl rsE[t].s 0 O.length rsE[t].cap):=by
  rw [zH hob3,List.getElem?_map,List.getElem?_eq_getElem hltE];show some (PV.sl _ 0 rsE[t].x.length _)=_;rw [hxl]
 have hfc:full 1 rsE[t].cap O.length:=by have:=hok.1;rwa [hxl]at this
 have hge':h'.next≤rsE[t].s:=hok.2.2.1;have hn0:σ.next<h'.next:=Nat.lt_of_lt_of_le (by rw [←hH];exact Nat.lt_succ_self _) hr.keep.next
 have hneE:sE≠rsE[t].s:=fun e=>rE.ne rsE[t].s (List.mem_map.2 ⟨_,List.getElem_mem hltE,rfl⟩) 0 _ capE (by rw [e])
 simp only [pwA,seval,-iQ0,hlt2,hrd];refine hTG h3 _ σ.next rsE[t].s rsE[t].cap (dgs O O.length t) _ vP vC (hs.keep hk03) hR0 hob hse3 (by omega) hfc (by rw [Nat.sub_self];exact qX s t) ?_
 have hmu:gS O (mu O P C O.length (dgs O O.length t) (Grp.unit O i)):=F.g.cl (qX s t) (s.unit hlt (Nat.zero_le _));simp only [pwA,seval,-iQ0];refine zGi s ((hs.keep hk03).set (by omega) _) hR0.O hmu (by rw [zJ,if_pos rfl]) ?_
 have kc2:=Keep.set2 hk3 rsE[t].s (pis (mu O P C O.length (dgs O O.length t) (Grp.unit O i)));have hn2:(Hc.set rsE[t].s (pis (mu O P C O.length (dgs O O.length t) (Grp.unit O i)))).next=h2.next:=hnc;simp only [pwA,seval,-iQ0];refine PAcc.push (bytes:=8) (σb:=Hc.set rsE[t].s (pis (mu O P C O.length (dgs O O.length t) (Grp.unit O i)))) (n:=t) (cs:=pis ((List.range t).map (regAt O P C i))) kc2 (by rw [hn2];exact ha.setX (by rw [←hnc];exact hse)) (by omega) (by omega) fun v' h4 k4 a4=>?_
 simp only [pwA,seval,-iQ0,wrapS hlt2 (by omega:nEl O≤4611686018427387904)]
 refine⟨_,by omega,t+1,v',_,by omega,rfl,rfl,k4,hkc.set hge' _,hnc,by rw [zJ,if_neg hneE];exact hoE,fun q hq hqt=>?_,?_⟩
 ·rw [zJ,if_neg]
  ·exact hun q hq (by omega)
  ·intro e
   have:=List.pairwise_iff_getElem.1 rE.nd t q (by simpa [QC]using hltE) (by simpa [QC]using hq) (by omega)
   simp only [QC,List.getElem_map]at this
   exact this e.symm
 ·rw [hn2]at a4
  have e:pis ((List.range (t+1)).map (regAt O P C i))=pis ((List.range t).map (regAt O P C i))++[.int .i64 (regAt O P C i t)]:=by
   rw [List.range_succ,List.map_append,←qP];rfl
  rw [e];exact a4.acc
end Go.Proofs
namespace Go.Grp
end Go.Grp
set_option linter.unusedSectionVars false
namespace Go.Grp
open Go.Ab Go.Lie
theorem zGy {x:List Int}:∀{c t:Nat},wf x t (c+1)=wf x t c++List.replicate (nx x (t+c)) (t+c)
 | 0,t=>by simp [wf]
 | c+1,t=>by
  rw [wf,zGy (c:=c) (t:=t+1),wf,List.append_assoc,show t+1+c=t+(c+1) by omega]
theorem ZN {O x:List Int} (hl:x.length=O.length):Mx.nw x=(nword O x).map fun(a:Nat)=>(a:Int)+1:=by
 have key:∀i,Mx.nword x i=(wf x 0 i).map fun(a:Nat)=>(a:Int)+1:=by
  intro i
  induction i with
  | zero=>rfl
  | succ i ih=>rw [Mx.nword,ih,zGy,List.map_append,List.map_replicate,Nat.zero_add]
 show Mx.nword x x.length=_;rw [hl];exact key _
end Go.Grp
namespace Go.Proofs
open Go.Ab Go.Lie Go.Grp
variable {O x y:List Int} {P:List (List Int)} {C:List (List (List Int))} {i j k t:Nat} {w:List Int}
theorem zDa:∀{c:Nat},(∀j,j<c→at_ x j=at_ y j)→numF O x c=numF O y c
 | 0,_=>rfl
 | c+1,h=>by rw [numF,numF,zDa fun j hj=>h j (by omega),h c (by omega)]
theorem zFa (h:∀j,j<O.length→2≤at_ O j∧at_ O j≤7):∀{c k:Nat},c≤O.length→(k:Int)<ordF O c→numF O (dgs O c k) c=k
 | 0,k,_,hk=>by simp only [ordF]at hk;simp only [numF];omega
 | c+1,k,hc,hk=>by
  have hb:=h c (by omega)
  have h0:=(Zr h (i:=c) (by omega)).1
  obtain⟨o,ho⟩:∃o:Nat,at_ O c=o:=⟨(at_ O c).toNat,by omega⟩
  have hk2:((k / o:Nat):Int)<ordF O c:=by
   rw [ordF,ho]at hk
   obtain⟨q,hq⟩:∃q:Nat,ordF O c=q:=⟨(ordF O c).toNat,by omega⟩
   rw [hq]at hk ⊢
   have:k<q*o:=by exact_mod_cast hk
   exact_mod_cast (Nat.div_lt_iff_lt_mul (by omega)).2 this
  have ih:=zFa h (c:=c) (k:=k / o) (by omega) hk2
  rw [numF,dgs,ho,Int.toNat_natCast];have e1:numF O (dgs O c (k / o)++[((k % o:Nat):Int)]) c=((k / o:Nat):Int):=by
   rw [←ih];exact zDa fun j hj=>by rw [zDz,ZR,if_pos hj]
  have e2:at_ (dgs O c (k / o)++[((k % o:Nat):Int)]) c=((k % o:Nat):Int):=by
   rw [zDz,ZR,if_neg (by omega),Nat.sub_self];rfl
  rw [e1,e2]
  have:=Nat.div_add_mod k o
  rw [Nat.mul_comm]at this
  exact_mod_cast this
theorem zAJ (s:Shp O P C) (hx:gS O x):(numF O x O.length).toNat<nEl O∧(((numF O x O.length).toNat:Nat):Int)=numF O x O.length:=by
 have h:=zA4 s.pr (fun j hj=>hx.bd j hj) (i:=O.length) (Nat.le_refl _)
 have:=zA5 s
 omega
theorem zAK (s:Shp O P C) (ht:t<nEl O):numF O (dgs O O.length t) O.length=t:=zFa s.pr (Nat.le_refl _) (by have:=zA5 s;omega)
theorem zDt (s:Shp O P C) (hx:gS O x):dgs O O.length (numF O x O.length).toNat=x:=by
 have h:=zAJ s hx;refine zAL s (qX s _) hx ?_;rw [zAK s h.1,h.2]
theorem zJn (s:Shp O P C) {t':Nat} (ht:t<nEl O) (ht':t'<nEl O) (h:dgs O O.length t=dgs O O.length t'):t=t':=by
 have h1:=zAK s ht;have h2:=zAK s ht';rw [h]at h1
 omega
noncomputable def ac (O:List Int) (P:List (List Int)) (C:List (List (List Int))) (x:List Int) (l:Int):List Int:=
 if l<0 then gm O P C x (ginv (gS O) (gm O P C) (zv O) (Grp.unit O ((-l).toNat-1)))else gm O P C x (Grp.unit O (l.toNat-1))
noncomputable def acW (O:List Int) (P:List (List Int)) (C:List (List (List Int))) (x w:List Int):List Int:=w.foldl (ac O P C) x
theorem zEM {u:List Int}:acW O P C x (w++u)=acW O P C (acW O P C x w) u:=List.foldl_append ..
def Lts (n:Nat) (w:List Int):Prop:=∀l∈w,l≠0∧-(n:Int)≤l∧l≤(n:Int)
def Lps (n:Nat) (w:List Int):Prop:=∀l∈w,1≤l∧l≤(n:Int)
theorem QQ {a:Nat}:ac O P C x ((a:Int)+1)=gm O P C x (Grp.unit O a):=by
 unfold ac;rw [if_neg (by omega),show((a:Int)+1).toNat-1=a by omega]
theorem zJ0 {a:Nat}:ac O P C x (-((a:Int)+1))=gm O P C x (ginv (gS O) (gm O P C) (zv O) (Grp.unit O a)):=by
 unfold ac;rw [if_pos (by omega),Int.neg_neg,show((a:Int)+1).toNat-1=a by omega]
theorem ac_in (s:Shp O P C) (F:Full O P C O.length) {l:Int} (hl:l≠0∧-(O.length:Int)≤l∧l≤(O.length:Int)) (hx:gS O x):gS O (ac O P C x l):=by
 unfold ac
 split
 ·exact F.g.cl hx (F.g.inv_in (s.unit (by omega) (by omega))).1
 ·exact F.g.cl hx (s.unit (by omega) (by omega))
theorem zGB (s:Shp O P C) (F:Full O P C O.length):∀{w x:List Int},Lts O.length w→gS O x→gS O (acW O P C x w)
 | [],_,_,hx=>hx
 | l::w,x,hw,hx=>zGB s F (w:=w) (x:=ac O P C x l) (fun m hm=>hw m (List.mem_cons_of_mem _ hm)) (ac_in s F (hw l (List.mem_cons_self ..)) hx)
def winv (w:List Int):List Int:=(w.map fun l=>-l).reverse
theorem zHP (s:Shp O P C) (F:Full O P C O.length):∀{w x:List Int},Lps O.length w→gS O x→acW O P C (acW O P C x w) (winv w)=x
 | [],_,_,_=>rfl
 | l::w,x,hw,hx=>by
  have hl:=hw l (List.mem_cons_self ..);have hu:gS O (Grp.unit O (l.toNat-1)):=s.unit (by omega) (by omega)
  have h1:gS O (ac O P C x l):=ac_in s F (by omega) hx
  have ih:=zHP s F (w:=w) (x:=ac O P C x l) (fun m hm=>hw m (List.mem_cons_of_mem _ hm)) h1
  have e:winv (l::w)=winv w++[-l]:=by simp [winv]
  rw [e,zEM];show acW O P C (acW O P C (acW O P C (ac O P C x l) w) (winv w)) [-l]=x;rw [ih];show ac O P C (ac O P C x l) (-l)=x;unfold ac;rw [if_pos (by omega),if_neg (by omega),Int.neg_neg]
  rw [F.g.as hx hu (F.g.inv_in hu).1,F.g.inv_r hu,F.g.r1 hx]
theorem zHN (s:Shp O P C) (F:Full O P C O.length) {u v:List Int} (hv:Lps O.length v) (hx:gS O x) (h:acW O P C x u=acW O P C x v):acW O P C x (u++winv v)=x:=by
 rw [zEM,h,zHP s F hv hx]
theorem zHO (w:List Nat):∀x,acW O P C x (w.map fun(a:Nat)=>(a:Int)+1)=vl O P C O.length x w:=by
 induction w with
 | nil=>exact fun x=>rfl
 | cons a w ih=>
  intro x;show acW O P C (ac O P C x ((a:Int)+1)) (w.map _)=vl O P C O.length (mu O P C O.length x (Grp.unit O a)) w;rw [ih,QQ]
theorem QB {c:List Int} (hc:TT O t c) (ht:t≤O.length):Lps O.length (Mx.nw c):=fun l hl=>by
 rw [ZN hc.len]at hl
 obtain⟨a,ha,rfl⟩:=List.mem_map.1 hl
 have:=qB hc ht a ha
 omega
theorem zJ1 (s:Shp O P C) (F:Full O P C O.length) {c:List Int} (hc:TT O t c) (ht:t≤O.length) (hx:gS O x):acW O P C x (Mx.nw c)=gm O P C x c:=by
 have h0:O.length-O.length=0:=Nat.sub_self _;have hc0:TT O (O.length-O.length) c:=hc.mono (by omega)
 rw [ZN hc.len,zHO,ZL s F (by rw [h0];exact hx) ((qB hc ht).mono (by omega)),Zf s F hc0]
def relW (O:List Int) (P:List (List Int)) (i:Nat):List Int:=List.replicate (nx O i) ((i:Int)+1)++winv (Mx.nw (pvec P i))
def conW (C:List (List (List Int))) (i k:Nat):List Int:=[-((i:Int)+1),((i+k:Nat):Int)+2,(i:Int)+1]++winv (Mx.nw (cvec C i (i+(1+k))))
theorem zLX (s:Shp O P C) (F:Full O P C O.length) (hi:i<O.length) (hx:gS O x):acW O P C x (relW O P i)=x:=by
 have h0:O.length-O.length=0:=Nat.sub_self _;have hp:=s.pw i hi;refine zHN s F (QB hp (by omega)) hx ?_
 rw [zJ1 s F hp (by omega) hx]
 have:=zHO (O:=O) (P:=P) (C:=C) (List.replicate (nx O i) i) x
 rw [List.map_replicate]at this
 rw [this,ZL s F (by rw [h0];exact hx) (fun a ha=>by rw [List.eq_of_mem_replicate ha];omega),zBk s F (by omega),F.pwv s (by omega) hi]
theorem zL7 (s:Shp O P C) (F:Full O P C O.length) (hi:i+(1+k)<O.length) (hx:gS O x):acW O P C x (conW C i k)=x:=by
 have hc:=s.cj i (i+(1+k)) (by omega) hi
 have hc0:gS O (cvec C i (i+(1+k))):=hc.mono (Nat.zero_le _);refine zHN s F (QB hc (by omega)) hx ?_
 rw [zJ1 s F hc (by omega) hx]
 have ua:gS O (Grp.unit O i):=s.unit (by omega) (by omega)
 have ub:gS O (Grp.unit O (i+(1+k))):=s.unit hi (by omega)
 have ia:=(F.g.inv_in ua).1;show ac O P C (ac O P C (ac O P C x (-((i:Int)+1))) (((i+k:Nat):Int)+2)) ((i:Int)+1)=_;rw [show((i+k:Nat):Int)+2=((i+(1+k):Nat):Int)+1 by omega,QQ,QQ,zJ0]
 have hcj:gm O P C (Grp.unit O (i+(1+k))) (Grp.unit O i)=gm O P C (Grp.unit O i) (cvec C i (i+(1+k))):=F.cjv s (by omega) (by omega) hi
 rw [F.g.as (F.g.cl hx ia) ub ua,hcj,F.g.as hx ia (F.g.cl ua hc0),←F.g.as ia ua hc0,F.g.inv_l ua,F.g.l1 hc0]
theorem zKH (s:Shp O P C) (hi:i<O.length):Lts O.length (relW O P i):=fun l hl=>by
 rcases List.mem_append.1 hl with h|h
 ·rw [List.eq_of_mem_replicate h];omega
 ·unfold winv at h
  rw [List.mem_reverse]at h
  obtain⟨a,ha,rfl⟩:=List.mem_map.1 h
  have:=QB (s.pw i hi) (by omega) a ha
  omega
theorem zK9 (s:Shp O P C) (hi:i+(1+k)<O.length):Lts O.length (conW C i k):=fun l hl=>by
 rcases List.mem_append.1 hl with h|h
 ·simp only [List.mem_cons,List.not_mem_nil,or_false]at h;omega
 ·unfold winv at h
  rw [List.mem_reverse]at h
  obtain⟨a,ha,rfl⟩:=List.mem_map.1 h
  have:=QB (s.cj i (i+(1+k)) (by omega) hi) (by omega) a ha
  omega
def zP (O:List Int):List (List Int):=(List.range O.length).map (Grp.unit O)
theorem Qf (s:Shp O P C):∀l∈zP O,gS O l:=fun l hl=>by
 obtain⟨j,hj,rfl⟩:=List.mem_map.1 hl;exact s.unit (List.mem_range.1 hj) (by omega)
theorem zK1 (s:Shp O P C) (F:Full O P C O.length) (hx:gS O x):GC O P C (zP O) x:=by
 have h:=GC.sub (L:=zP O) F (Qf s);have M:=F.g.toMon;rw [←F.nfx hx];exact M.ph_ind (Q:=GC O P C (zP O)) h.one (fun a b _ _ qa qb=>h.cl qa qb) fun j h1 h2=>⟨s.unit (by omega) (by omega),GC.mem (List.mem_map.2 ⟨j,List.mem_range.2 (by omega),rfl⟩)⟩
theorem zIm (s:Shp O P C) (F:Full O P C O.length) {k:Nat} (hk:∀i,i<k→i<(stt O P C (zP O) i).1.length) (he:(stt O P C (zP O) k).1.length≤k):(stt O P C (zP O) k).1.length=nEl O:=by
 have o:=OkS.stt s F (Qf s) hk;have hb:=o.bound s F (Qf s);have hn:=zA5 s;have hall:∀t,t<nEl O→dgs O O.length t∈(stt O P C (zP O) k).1:=fun t ht=>zLU s F trivial (Qf s) hk he (zK1 s F (qX s t))
 have h1:((List.range (nEl O)).map (dgs O O.length)).Nodup:=by
  rw [List.Nodup,List.pairwise_map];exact(List.nodup_range (n:=nEl O)).imp_of_mem fun {a b} ha hb hne he=>hne (zJn s (List.mem_range.1 ha) (List.mem_range.1 hb) he)
 have h2:=List.Nodup.length_le_of_subset h1 (l₂:=(stt O P C (zP O) k).1) fun y hy=>by
  obtain⟨t,ht,rfl⟩:=List.mem_map.1 hy;exact hall t (List.mem_range.1 ht)
 rw [List.length_map,List.length_range]at h2
 omega
end Go.Proofs
namespace Go.Grp
end Go.Grp
namespace Go.Proofs
open Go.Ab Go.Lie Go.Grp
variable {σ h:PHeap} {K:PV→PHeap→Prop} {O x:List Int} {P:List (List Int)} {C:List (List (List Int))} {vO vP vC vx vw v:PV} {sp t:Nat} {w u:List Nat}
def lw (w:List Nat):List Int:=w.map fun(a:Nat)=>(a:Int)+1
theorem zk:(lw w).length=w.length:=by simp [lw]
theorem zBv:lw (w++u)=lw w++lw u:=by simp [lw]
theorem ZA (h:t<w.length):(pis (lw w))[t]? = some (.int .i64 ((w[t]:Int)+1)):=by
 rw [zM,gi (by rw [zk];exact h)]
 simp [lw]
theorem zHD:(lw w).take t=lw (w.take t):=by simp [lw]
theorem zHE:(lw w).drop t=lw (w.drop t):=by simp [lw]
theorem zAz (hw:In O 0 w) (s:Shp O P C) (ht:t<w.length):red O w t↔(∃h1:t+1<w.length,w[t+1] < w[t])∨(t+nx O w[t]≤w.length∧∀q,q<nx O w[t]→∀hq:t+q<w.length,w[t+q]=w[t]):=by
 have h2:=hw _ (List.getElem_mem ht);have h3:=(s.pr _ h2.2).1;have h4:2≤nx O w[t]:=by show 2≤(at_ O w[t]).toNat;omega
 unfold red;rw [List.getElem?_eq_getElem ht];constructor
 ·rintro (⟨a,b,e1,e2,e3⟩ | ⟨a,e1,e2⟩)
  ·left
   cases e1;obtain⟨g,e⟩:=List.getElem?_eq_some_iff.1 e2;exact⟨g,by rw [e];exact e3⟩
  ·right
   cases e1
   have:=e2 (nx O w[t] - 1) (by omega)
   obtain⟨g,_⟩:=List.getElem?_eq_some_iff.1 this;refine⟨by omega,fun q hq hq'=>?_⟩
   have:=e2 q hq
   rw [List.getElem?_eq_getElem hq']at this
   exact Option.some.inj this
 ·rintro (⟨g,e⟩ | ⟨g,e⟩)
  ·exact .inl ⟨_,_,rfl,List.getElem?_eq_getElem g,e⟩
  ·exact .inr ⟨_,rfl,fun q hq=>by rw [List.getElem?_eq_getElem (by omega),e q hq (by omega)]⟩
set_option maxHeartbeats 1600000 in
theorem zFB (s:Shp O P C) (hs:PtrG σ sp vO vP vC) (hR:IsPr vO vP vC O P C) (hw:In O 0 w) (hl:w.length≤1000) (ht:t<w.length) (hvw:FI vw (lw w)) (hk:∀b:Bool,(b=true↔red O w t)→K (.bool b) σ):zA Tryz.prog 160 [.ptr sp 0,vw,.int .i64 t] σ K:=by
 obtain⟨ww,aw,rfl⟩:=hvw;obtain⟨wO,aO,rfl⟩:=hR.O;rw [zk];have e0:σ.rd1 sp 0=some (.fz wO aO O.length (pis O)):=by rw [zH hs.obj];rfl
 have h2:=hw _ (List.getElem_mem ht);have h3:=s.pr _ h2.2;have hO2:w[t] < O.length:=h2.2;have h6:=s.le;have gO:(pis O)[w[t]]? = some (.int .i64 ((nx O w[t]:Nat):Int)):=by
  rw [zM,gi hO2];show some (PV.int .i64 O[w[t]])=_;rw [←at_eq hO2]
  congr 2
  show _=((at_ O w[t]).toNat:Int);omega
 have g4:2≤nx O w[t]∧nx O w[t]≤7:=by show 2≤(at_ O w[t]).toNat∧(at_ O w[t]).toNat≤7;omega
 have wt1:IntKind.i64.wrap ((t:Int)+1)=((t+1:Nat):Int):=wrapS ht (by omega)
 have wa:IntKind.i64.wrap ((w[t]:Int)+1-1)=(w[t]:Int):=by rw [wrap64 (by omega) (by omega)];omega
 have wm:IntKind.i64.wrap ((t:Int)+((nx O w[t]:Nat):Int))=((t+nx O w[t]:Nat):Int):=by rw [wrap64 (by omega) (by omega)];omega
 have tI:(t:Int)<(w.length:Int):=by omega
 have oI:(w[t]:Int)<(O.length:Int):=by omega
 generalize hm:nx O w[t]=m at *
 refine zC mix Tryz.func160 ?_
 conv=>arg 2;cbv
 refine zF rfl ?_;have three:(∃h1:t+1<w.length,w[t+1] < w[t])∨(∃h1:t+1<w.length,¬w[t+1] < w[t])∨¬t+1<w.length:=by
  by_cases h1:t+1<w.length
  ·by_cases h2:w[t+1] < w[t]
   ·exact .inl ⟨h1,h2⟩
   ·exact .inr (.inl ⟨h1,h2⟩)
  ·exact .inr (.inr h1)
 rcases three with ⟨h1,h12⟩|⟨h1,h12⟩|h1
 case inl=>
  have tI1:((t+1:Nat):Int)<(w.length:Int):=by omega
  have gt:(w[t+1]:Int)+1<(w[t]:Int)+1:=by omega
  simp only [pwA,seval,-iQ0,wt1,tI,tI1,ZA ht,ZA h1,ht,h1,gt];exact hk true ⟨fun _=>(zAz hw s ht).2 (.inl ⟨h1,h12⟩),fun _=>rfl⟩
 case' inr.inl=>
  have tI1:((t+1:Nat):Int)<(w.length:Int):=by omega
  have gt:¬(w[t+1]:Int)+1<(w[t]:Int)+1:=by omega
  have nc:¬∃h1:t+1<w.length,w[t+1] < w[t]:=fun⟨_,h⟩=>h12 h
  simp only [pwA,seval,-iQ0,wt1,tI,tI1,ZA ht,ZA h1,ht,h1,gt,e0,wa,oI,hO2,gO,hm,wm]
 case' inr.inr=>
  have tI1:¬((t+1:Nat):Int)<(w.length:Int):=by omega
  have nc:¬∃h1:t+1<w.length,w[t+1] < w[t]:=fun⟨h,_⟩=>h1 h
  simp only [pwA,seval,-iQ0,wt1,tI,tI1,ZA ht,ht,e0,wa,oI,hO2,gO,hm,wm]
 all_goals
  have gm:∀q,q<m→∀hq:t+q<w.length,(List.take m (List.drop t (pis (lw w))))[q]? = some (PV.int .i64 ((w[t+q]:Int)+1)):=fun q hq hq'=>by
   rw [List.getElem?_take,if_pos hq,List.getElem?_drop,ZA hq']
  by_cases hgt:w.length<t+m
  ·simp only [pwA,seval,-iQ0,hgt]
   exact hk false ⟨fun h=>(nomatch h),fun h=>by
    rcases(zAz hw s ht).1 h with h|⟨h,_⟩
    ·exact absurd h nc
    ·rw [hm]at h;omega⟩
  have hle:t+m≤w.length:=by omega
  have tm:t≤t+m:=by omega
  simp only [pwA,seval,-iQ0,hgt,hle,tm,Nat.add_sub_cancel_left];refine zG (fun n vs h'=>∃i:Nat,i≤m∧n=m-i∧vs=[.fz ww aw w.length (pis (lw w)),.int .i64 t,.fz false (pslA 1 aw t (t+m)) m (List.take m (List.drop t (pis (lw w)))),.int .i64 m,.int .i64 i]∧h'=σ∧∀q,q<i→∀hq:t+q<w.length,w[t+q]=w[t]) m ?_ ?_
  ·exact⟨0,by omega,by omega,rfl,rfl,fun q hq=>by omega⟩
  rintro n vs h' ⟨i,hi,rfl,rfl,rfl,hall⟩
  simp only [pwA,seval,-iQ0];refine iteI (fun hlt=>?_) fun hge=>?_
  rotate_left
  ·have hie:i=m:=by omega
   subst hie;exact hk true ⟨fun _=>(zAz hw s ht).2 (.inr ⟨by rw [hm];exact hle,fun q hq hq'=>hall q (by rw [hm]at hq;exact hq) hq'⟩),fun _=>rfl⟩
  have hti:t+i<w.length:=by omega
  by_cases he:w[t+i]=w[t]
  ·have heI:(w[t+i]:Int)+1=(w[t]:Int)+1:=by omega
   simp only [pwA,seval,-iQ0,hlt,gm i hlt hti,heI,ZA ht,ht,tI,wrapS hlt (by omega:m≤4611686018427387904)]
   exact⟨_,by omega,i+1,by omega,rfl,rfl,fun q hq hq'=>by
    rcases Nat.lt_or_ge q i with g|g
    ·exact hall q g hq'
    ·obtain rfl:q=i:=by omega
     exact he⟩
  ·have heI:¬(w[t+i]:Int)+1=(w[t]:Int)+1:=by omega
   simp only [pwA,seval,-iQ0,hlt,gm i hlt hti,heI,ZA ht,ht,tI];exact hk false ⟨fun h=>(nomatch h),fun h=>by
    rcases(zAz hw s ht).1 h with h|⟨_,h⟩
    ·exact absurd h nc
    ·exact absurd (h i (by rw [hm];exact hlt) hti) he⟩
theorem zD7 (s:Shp O P C) (hs:PtrG σ sp vO vP vC) (hR:IsPr vO vP vC O P C) (hw:In O 0 w) (hl:w.length≤1000) (hvw:FI vw (lw w)) (hn:Nrm O w→K (.int .i64 (-1)) σ) (hk:∀t:Nat,red O w t→(∀p,p<t→¬red O w p)→K (.int .i64 t) σ):zA Tryz.prog 94 [.ptr sp 0,vw] σ K:=by
 have hvw0:=hvw;obtain⟨ww,aw,rfl⟩:=hvw;rw [zk]at hvw0 ⊢
 refine zC mix Tryz.func94 ?_
 conv=>arg 2;cbv
 refine zF rfl ?_;simp only [pwA,seval,-iQ0];refine zG (fun n vs h'=>∃i:Nat,i≤w.length∧n=w.length-i∧vs=[.ptr sp 0,.fz ww aw w.length (pis (lw w)),.int .i64 w.length,.int .i64 i]∧h'=σ∧∀q,q<i→¬red O w q) w.length ?_ ?_
 ·exact⟨0,by omega,by omega,rfl,rfl,fun q hq=>by omega⟩
 rintro n vs h' ⟨i,hi,rfl,rfl,rfl,hall⟩
 simp only [pwA,seval,-iQ0];refine iteI (fun hlt=>?_) fun hge=>?_
 rotate_left
 ·refine hn fun t hr=>?_
  have ht:t<w.length:=by
   rcases hr with ⟨a,b,h1,_⟩|⟨a,h1,_⟩
   ·exact(getD_some h1).2
   ·exact(getD_some h1).2
  exact hall t (by omega) hr
 refine zFB s hs hR hw hl hlt hvw0 fun b hb=>?_
 cases b with
 | true=>
  simp only [pwA,seval,-iQ0];exact hk i (hb.1 rfl) hall
 | false=>
  have hn':¬red O w i:=fun h=>by have:=hb.2 h;cases this
  simp only [pwA,seval,-iQ0,wrapS hlt (by omega:w.length≤4611686018427387904)]
  exact⟨_,by omega,i+1,by omega,rfl,rfl,fun q hq=>by
   rcases Nat.lt_or_ge q i with g|g
   ·exact hall q g
   ·obtain rfl:q=i:=by omega
    exact hn'⟩
end Go.Proofs
namespace Go.Grp
end Go.Grp
namespace Go.Ab
variable {P:Program} {σ h:PHeap} {K:PV→PHeap→Prop}
theorem zA.frzh {f:FuncId} {args:List PV} {s:Nat} {cs:List PV} (hs:σ.obj s=some cs) (hb:Bels 0 cs) (c:∀o,zA P f (sbs s o cs args) ((σ.kill s).sub s o cs) K):zA P f args σ K:=by
 intro ι Z h r va;obtain⟨r',hc0,ho,hz⟩:=r.freeze hs hb;have r2:Rel ι (fun o=>Z o∨o=ι s) (σ.kill s) h:=⟨r'.hwf,r'.zlt,by have:=r.top;exact this,r'.wf,r'.obj,r'.inj⟩
 have hz1:∀o,Z o→(Z o∨o=ι s)∧h.obj o=h.obj o:=fun o ho=>⟨.inl ho,rfl⟩
 have r3:=r2.sub (s:=s) rfl (.inr rfl) ho (hc0.mono hz1 (Nat.le_refl _))
 have:=c (ι s) ι _ h r3 (VOKs.sbs (.inr rfl) ho (hc0.mono hz1 (Nat.le_refl _)) (va.mono hz1 (Nat.le_refl _)))
 rw [Zb rfl]at this
 refine this.mono ?_
 rintro v h' ⟨pv,σ',ι',Z',q1,q2,q3,q4,q5⟩
 exact⟨pv,σ',ι',Z',q1,⟨q2.next,q2.hnext,q2.inj,fun o ho=>q2.z o (.inl ho),fun t ht hn=>q2.dead t ht (by simp only [PHeap.kill,PHeap.sub];split;rfl;rw [hn];rfl),q2.fresh⟩,q3,q4,q5⟩
theorem Keep.fzh (wf:PWF σ) (k:Keep σ h) {s o:Nat} {cs:List PV} (hs:σ.next≤s):Keep σ ((h.kill s).sub s o cs):=by
 have kk:=k.kill hs;refine⟨kk.next,kk.top,fun t ht=>?_⟩
 show((h.kill s).obj t).map _=_
 rw [kk.obj t ht];cases e:σ.obj t with
 | none=>rfl
 | some b=>rw [Option.map_some,Z8 hs (wf.bel t b e)]
theorem zLT {s o t:Nat} {cs b:List PV} (h:σ.obj t=some b) (hn:t≠s):((σ.kill s).sub s o cs).obj t=some (sbs s o cs b):=by
 show((σ.kill s).obj t).map _=_
 have:(σ.kill s).obj t=some b:=by simp only [PHeap.kill];rw [if_neg hn];exact h
 rw [this];rfl
end Go.Ab
namespace Go.Proofs
open Go.Ab Go.Lie Go.Grp
variable {σ h:PHeap} {K:PV→PHeap→Prop} {O x:List Int} {P:List (List Int)} {C:List (List (List Int))} {vO vP vC vx vw v:PV} {sp t:Nat} {w u:List Nat}
theorem TT.nw_hyp (s:Shp O P C) {i:Nat} (h:TT O i x):(∀j,0≤at_ x j∧at_ x j≤7)∧x.length≤6:=by
 refine⟨fun j=>?_,by rw [h.len];exact s.le⟩
 rcases Nat.lt_or_ge j O.length with g|g
 ·have:=h.bd j g
  have:=s.pr j g
  omega
 ·rw [at_ge (by rw [h.len];exact g)];omega
theorem Zj (s:Shp O P C) {i:Nat} (h:TT O i x):(nword O x).length≤42:=by
 have e:=ZN h.len;have h1:=Mx.nword_length (x:=x) (b:=7) (fun j=>by have:=(TT.nw_hyp s h).1 j;show(at_ x j).toNat≤7;omega) x.length
 have h2:(Mx.nw x).length=(nword O x).length:=by rw [e,List.length_map]
 have h3:=(TT.nw_hyp s h).2;have h4:(Mx.nw x).length≤x.length*7:=h1;omega
theorem zES (a:List Int) (n:Nat):(pis a).take n=pis (a.take n):=by simp [pis,List.map_take]
theorem zET (a:List Int) (n:Nat):(pis a).drop n=pis (a.drop n):=by simp [pis,List.map_drop]
theorem zJj {w:Bool} {a:AV} {l:Nat} {rows:List PV} {M:List (List Int)} (hl:l=M.length) (h:All2 FI rows M):FII (.fz w a l rows) M:=⟨w,a,rows,by rw [hl],h⟩
theorem fi_mk {w:Bool} {a:AV} {l:Nat} {cs:List PV} {x:List Int} (hl:l=x.length) (hc:cs=pis x):FI (.fz w a l cs) x:=⟨w,a,by rw [hl,hc]⟩
theorem zL5 {A B D:PV} {xa xb xd:List Int} {x:Int} (wf:PWF σ) (hA:FI A xa) (hB:FI B xb) (hD:FI D xd) (hl:xa.length+xb.length+xd.length≤10000) (hk:∀v h',FI v (xa++(x::(xb++xd)))→Keep σ h'→K v h'):
  zA Tryz.prog 157 [.sl (σ.next+1) 0 4 (.known 4)] ((σ.new [.int .i64 x]).new [A,.sl σ.next 0 1 (.known 1),B,D]) K:=by
 have k2:Keep σ ((σ.new [.int .i64 x]).new [A,.sl σ.next 0 1 (.known 1),B,D]):=(zB σ _).new _;have o1:((σ.new [.int .i64 x]).new [A,.sl σ.next 0 1 (.known 1),B,D]).obj σ.next=some (pis [x]):=by
  rw [zD,if_neg (by show ¬σ.next=σ.next+1;omega),zD,if_pos rfl];rfl
 have o2:((σ.new [.int .i64 x]).new [A,.sl σ.next 0 1 (.known 1),B,D]).obj (σ.next+1)=some [A,.sl σ.next 0 1 (.known 1),B,D]:=by
  rw [zD];exact if_pos rfl
 generalize (σ.new [.int .i64 x]).new [A,.sl σ.next 0 1 (.known 1),B,D]=H at *
 refine zA.frzh (s:=σ.next) o1 (zO _ _) fun a1=>?_
 have hcap1:capOK (.known 1) 1=true:=rfl;have hcap4:capOK (.known 4) 4=true:=rfl;have ne:¬σ.next+1=σ.next:=by omega
 have o3:=zLT (s:=σ.next) (o:=a1) (cs:=pis [x]) o2 ne;have k3:=Keep.fzh (o:=a1) (cs:=pis [x]) wf k2 (Nat.le_refl _);simp only [sbs,sb,hcap1,and_self,if_true,ne,false_and,if_false,zDL (Nat.zero_le _) (hA.bel 0),zDL (Nat.zero_le _) (hB.bel 0),zDL (Nat.zero_le _) (hD.bel 0),nm_eq]at o3 ⊢
 generalize (H.kill σ.next).sub σ.next a1 (pis [x])=H2 at *
 refine zA.frz (s:=σ.next+1) o3 ⟨hA.bel 0,trivial,hB.bel 0,hD.bel 0,trivial⟩ fun a2=>?_
 simp only [sbs,sb,hcap4,and_self,if_true,nm_eq];have hall:All2 FI [A,.fz true (.sl a1 0 1 (.known 1)) 1 (pis [x]),B,D] [xa,[x],xb,xd]:=((((All2.nil FI).snoc hA).snoc ⟨true,_,rfl⟩).snoc hB).snoc hD;refine zEh (M:=[xa,[x],xb,xd]) (zJj rfl hall) (by simp) (by simp;omega) fun z hz=>hk z _ ?_ (k3.kill (by omega))
 simpa using hz
theorem zL6 {A B D:PV} {xa xb xd:List Int} (hA:FI A xa) (hB:FI B xb) (hD:FI D xd) (hl:xa.length+xb.length+xd.length≤10000) (hk:∀v h',FI v (xa++(xb++xd))→Keep σ h'→K v h'):
  zA Tryz.prog 157 [.sl σ.next 0 3 (.known 3)] (σ.new [A,B,D]) K:=by
 have k2:=zB σ [A,B,D];have o2:(σ.new [A,B,D]).obj σ.next=some [A,B,D]:=by rw [zD,if_pos rfl]
 generalize σ.new [A,B,D]=H at *
 have hcap3:capOK (.known 3) 3=true:=rfl;refine zA.frz (s:=σ.next) o2 ⟨hA.bel 0,hB.bel 0,hD.bel 0,trivial⟩ fun a2=>?_
 simp only [sbs,sb,hcap3,and_self,if_true,nm_eq];have hall:All2 FI [A,B,D] [xa,xb,xd]:=(((All2.nil FI).snoc hA).snoc hB).snoc hD;refine zEh (M:=[xa,xb,xd]) (zJj rfl hall) (by simp) (by simp;omega) fun z hz=>hk z _ ?_ (k2.kill (Nat.le_refl _))
 simpa using hz
set_option maxHeartbeats 1600000 in
theorem zBl (s:Shp O P C) (hs:PtrG σ sp vO vP vC) (hR:IsPr vO vP vC O P C) (hw:In O 0 w) (hl:w.length≤1000) (hr:red O w t) (hvw:FI vw (lw w)) (hk:∀v,FI v (lw (stepf O P C w t))→K v σ):zA Tryz.prog 91 [.ptr sp 0,vw,.int .i64 t] σ K:=by
 have ht:t<w.length:=by
  rcases hr with ⟨a,b,h1,_⟩|⟨a,h1,_⟩
  ·exact(getD_some h1).2
  ·exact(getD_some h1).2
 obtain⟨ww,aw,rfl⟩:=hvw;rw [zk];have hR0:=hR;obtain⟨⟨w0,a0,rfl⟩,⟨w1,a1,rP,rfl,hP⟩,⟨w3,a3,rC,rfl,hC⟩⟩:=hR;have e0:σ.rd1 sp 0=some (.fz w0 a0 O.length (pis O)):=by rw [zH hs.obj];rfl
 have e1:σ.rd1 sp 1=some (.fz w1 a1 P.length rP):=by rw [zH hs.obj];rfl
 have e2:σ.rd1 sp 2=some (.fz w3 a3 C.length rC):=by rw [zH hs.obj];rfl
 have hspl:=hs.lt;have h2:=hw _ (List.getElem_mem ht);have h3:=s.pr _ h2.2;have hO2:w[t] < O.length:=h2.2;have h6:=s.le;have gO:(pis O)[w[t]]? = some (.int .i64 ((nx O w[t]:Nat):Int)):=by
  rw [zM,gi hO2];show some (PV.int .i64 O[w[t]])=_;rw [←at_eq hO2]
  congr 2
  show _=((at_ O w[t]).toNat:Int);omega
 have g4:2≤nx O w[t]∧nx O w[t]≤7:=by show 2≤(at_ O w[t]).toNat∧(at_ O w[t]).toNat≤7;omega
 have wt1:IntKind.i64.wrap ((t:Int)+1)=((t+1:Nat):Int):=wrapS ht (by omega)
 have wa:IntKind.i64.wrap ((w[t]:Int)+1-1)=(w[t]:Int):=by rw [wrap64 (by omega) (by omega)];omega
 have wm:IntKind.i64.wrap ((t:Int)+((nx O w[t]:Nat):Int))=((t+nx O w[t]:Nat):Int):=by rw [wrap64 (by omega) (by omega)];omega
 have tI:(t:Int)<(w.length:Int):=by omega
 have tle:t≤w.length:=by omega
 have oI:(w[t]:Int)<(O.length:Int):=by omega
 have d0:w.getD t 0=w[t]:=by rw [List.getD_eq_getElem?_getD,List.getElem?_eq_getElem ht];rfl
 have hsn:¬sp=σ.next:=by omega
 have hiP:w[t] < P.length:=by rw [s.pl];exact hO2
 obtain⟨w8,a8,hpr⟩:=hP.rowI hiP;have hpv:=s.pw w[t] hO2;have gP:P.getD w[t] []=P[w[t]]:=zo hiP;rw [show pvec P w[t]=P[w[t]] from gP]at hpv
 refine zA.pwf fun wf=>zA.gh ?_
 refine zR mix Tryz.func91 cf91 rfl ?_;dsimp only [if91,qD,eD,mI0,lI0,xI0,cI0,mD0,lD0,fD0,xD0,pD0,I0,G0,gm0,zI0,R0,S0];have three:(∃h1:t+1<w.length,w[t+1] < w[t])∨(∃h1:t+1<w.length,¬w[t+1] < w[t])∨¬t+1<w.length:=by
  by_cases h1:t+1<w.length
  ·by_cases h2:w[t+1] < w[t]
   ·exact .inl ⟨h1,h2⟩
   ·exact .inr (.inl ⟨h1,h2⟩)
  ·exact .inr (.inr h1)
 rcases three with ⟨h1,h12⟩|⟨h1,h12⟩|h1
 case inl=>
  have tI1:((t+1:Nat):Int)<(w.length:Int):=by omega
  have gt:(w[t+1]:Int)+1<(w[t]:Int)+1:=by omega
  have d1:w.getD (t+1) 0=w[t+1]:=by rw [List.getD_eq_getElem?_getD,List.getElem?_eq_getElem h1];rfl
  have hst:stepf O P C w t=w.take t++(w[t+1]::(nword O (cvec C w[t+1] w[t])++w.drop (t+2))):=by
   unfold stepf;rw [d0,d1,if_pos ⟨h1,h12⟩]
  have hb2:=hw _ (List.getElem_mem h1);have hiC:w[t+1] < C.length:=by rw [s.cl];omega
  obtain⟨w5,a5,rs,hrb,hrs⟩:=cvRow s hC hb2.2;obtain⟨w7,a7,hrk⟩:=hrs (w[t] - w[t+1] - 1) (by omega)
  have hcv:=s.cj w[t+1] w[t] h12 hO2;have gC:cvec C w[t+1] (w[t+1] + (1+(w[t] - w[t+1] - 1)))=cvec C w[t+1] w[t]:=by congr 1;omega
  rw [gC]at hrk
  have wb:IntKind.i64.wrap ((w[t+1]:Int)+1-1)=(w[t+1]:Int):=by rw [wrap64 (by omega) (by omega)];omega
  have wb1:IntKind.i64.wrap ((w[t+1]:Int)+1)=(w[t+1]:Int)+1:=wrap64 (by omega) (by omega)
  have wd:IntKind.i64.wrap ((w[t]:Int)-(w[t+1]:Int))=((w[t] - w[t+1]:Nat):Int):=by rw [wrap64 (by omega) (by omega)];omega
  have wd1:IntKind.i64.wrap (((w[t] - w[t+1]:Nat):Int)-1)=((w[t] - w[t+1] - 1:Nat):Int):=by rw [wrap64 (by omega) (by omega)];omega
  have wt2:IntKind.i64.wrap ((t:Int)+2)=((t+2:Nat):Int):=by rw [wrap64 (by omega) (by omega)];omega
  have tle2:t+2≤w.length:=by omega
  have hkC:w[t] - w[t+1] - 1<O.length-1-w[t+1]:=by omega
  have la:(w[t]:Nat)=w[t]:=rfl;simp only [pwA,seval,-iQ0,wt1,tI,tI1,ZA ht,ZA h1,ht,h1,gt,e2,wa,wb,wb1,wd,wd1,wt2,tle,tle2,hiC,hrb,hrk,hkC,hsn,qx,TVp_e,TVp_q,zt,zq,zK,zN];have hnx:=TT.nw_hyp s hcv;have hnl:=Zj s hcv;have fA:FI (.fz false (pslA 1 aw 0 t) (t-0) (List.take (t-0) (pis (lw w)))) (lw (w.take t)):=fi_mk (by rw [zk,List.length_take];omega) (by rw [Nat.sub_zero,zES,zHD])
  have fD:FI (.fz false (pslA 1 aw (t+2) w.length) (w.length-(t+2)) (List.take (w.length-(t+2)) (List.drop (t+2) (pis (lw w))))) (lw (w.drop (t+2))):=fi_mk (by rw [zk,List.length_drop]) (by rw [zET,zHE,List.take_of_length_le (by rw [zI,zk,List.length_drop];exact Nat.le_refl _)])
  have fin:∀{v2:PV},FI v2 (Mx.nw (cvec C w[t+1] w[t]))→∀{K':PV→PHeap→Prop},(∀v h',FI v (lw (stepf O P C w t))→Keep σ h'→K' v h')→zA Tryz.prog 157 [.sl (σ.next+1) 0 4 (.known 4)] ((σ.new [.int .i64 ((w[t+1]:Int)+1)]).new [.fz false (pslA 1 aw 0 t) (t-0) (List.take (t-0) (pis (lw w))),.sl σ.next 0 1 (.known 1),v2,.fz false (pslA 1 aw (t+2) w.length) (w.length-(t+2)) (List.take (w.length-(t+2)) (List.drop (t+2) (pis (lw w))))]) K':=fun {v2} hv2 {K'} hk'=>by
   rw [ZN hcv.len]at hv2
   refine zL5 wf fA hv2 fD (by rw [zk,List.length_map,zk,List.length_take,List.length_drop];omega) fun v h' hv kk=>hk' v h' ?_ kk
   rw [hst,zBv]
   simpa [lw]using hv
  refine⟨?_,?_⟩
  ·refine ZV hnx.1 hnx.2 ⟨w7,a7,by rw [hcv.len]⟩ fun v2 hv2=>?_
   simp only [pwA,seval,-iQ0,e2,hsn,qx,TVp_e,TVp_q,zt,zq,zK,zN,hv2.one,hv2.cells,hrb,hrk];refine fin hv2 fun v h' hv kk=>?_
   simp only [pwA,seval,-iQ0,qx,TVp_e,TVp_q,zt,zq,zK,zN];exact Gh.fin0 kk (hv.bel _) (hk _ hv)
  ·refine ZV hnx.1 hnx.2 ⟨w7,a7,by rw [hcv.len]⟩ fun v2 hv2=>?_
   simp only [pwA,seval,-iQ0,e2,hsn,qx,TVp_e,TVp_q,zt,zq,zK,zN,hv2.one,hv2.cells,hrb,hrk];refine fin hv2 fun v h' hv kk=>?_
   simp only [pwA,seval,-iQ0,qx,TVp_e,TVp_q,zt,zq,zK,zN];exact Gh.fin0 kk (hv.bel _) (hk _ hv)
 case' inr.inl=>
  have tI1:((t+1:Nat):Int)<(w.length:Int):=by omega
  have gt:¬(w[t+1]:Int)+1<(w[t]:Int)+1:=by omega
  have nc:¬∃h1:t+1<w.length,w[t+1] < w[t]:=fun⟨_,h⟩=>h12 h
  simp only [pwA,seval,-iQ0,wt1,tI,tI1,ZA ht,ZA h1,ht,h1,gt,e0,e1,wa,oI,hO2,gO,wm,tle,hiP,hpr]
 case' inr.inr=>
  have tI1:¬((t+1:Nat):Int)<(w.length:Int):=by omega
  have nc:¬∃h1:t+1<w.length,w[t+1] < w[t]:=fun⟨h,_⟩=>h1 h
  simp only [pwA,seval,-iQ0,wt1,tI,tI1,ZA ht,ht,e0,e1,wa,oI,hO2,gO,wm,tle,hiP,hpr]
 all_goals
  have nb:¬(t+1<w.length∧w.getD (t+1) 0<w.getD t 0):=fun⟨q1,q2⟩=>nc ⟨q1,by
   rw [d0,List.getD_eq_getElem?_getD,List.getElem?_eq_getElem q1]at q2;exact q2⟩
  have hst:stepf O P C w t=w.take t++(nword O P[w[t]]++w.drop (t+nx O w[t])):=by
   unfold stepf;rw [if_neg nb,d0,show pvec P w[t]=P[w[t]] from gP]
  have hle:t+nx O w[t]≤w.length:=by
   rcases(zAz hw s ht).1 hr with h|⟨h,_⟩
   ·exact absurd h nc
   ·exact h
  have hnx:=TT.nw_hyp s hpv;have hnl:=Zj s hpv;simp only [pwA,seval,-iQ0,hle,zK,zN];refine ZV hnx.1 hnx.2 ⟨w8,a8,rfl⟩ fun v2 hv2=>?_
  simp only [pwA,seval,-iQ0,zK,zN,hv2.one,hv2.cells,e0,e1,hpr,gO];have fA:FI (.fz false (pslA 1 aw 0 t) (t-0) (List.take (t-0) (pis (lw w)))) (lw (w.take t)):=fi_mk (by rw [zk,List.length_take];omega) (by rw [Nat.sub_zero,zES,zHD])
  have fD:FI (.fz false (pslA 1 aw (t+nx O w[t]) w.length) (w.length-(t+nx O w[t])) (List.take (w.length-(t+nx O w[t])) (List.drop (t+nx O w[t]) (pis (lw w))))) (lw (w.drop (t+nx O w[t]))):=fi_mk (by rw [zk,List.length_drop]) (by rw [zET,zHE,List.take_of_length_le (by rw [zI,zk,List.length_drop];exact Nat.le_refl _)])
  rw [ZN hpv.len]at hv2
  refine zL6 fA hv2 fD (by rw [zk,List.length_map,zk,List.length_take,List.length_drop];omega) fun v h' hv kk=>?_
  simp only [pwA,seval,-iQ0,zK,zN];refine Gh.fin0 kk (hv.bel _) (hk _ ?_);rw [hst,zBv,zBv];exact hv
theorem Stp.inW (s:Shp O P C) {w':List Nat} (hw:In O 0 w) (st:Stp O P C w t w'):In O 0 w':=by
 cases st with
 | @conj pre rest a b hab=>
  refine hw.left.app fun c hc=>?_
  have hr:=hw.right;have ha:=hr a (by simp)
  rcases List.mem_cons.1 hc with rfl|hc
  ·exact hr c (by simp)
  ·rcases List.mem_append.1 hc with hc | hc
   ·have h1:=qB (s.cj b a hab ha.2) (by omega) c hc
    exact⟨Nat.zero_le _,h1.2⟩
   ·exact hr c (by simp [hc])
 | @pow pre rest a h0=>
  have hr:=hw.right;have ha:=hr.left a (List.mem_replicate.2 ⟨by omega,rfl⟩)
  exact hw.left.app (((qB (s.pw a ha.2) (by omega)).mono (by omega)).app hr.right)
theorem zL8 {n:Nat}:cnt n []=List.replicate n 0:=by
 refine List.ext_getElem (by simp [cnt]) fun i h1 h2=>by simp [cnt]
theorem zLA {i:Nat} (hi:i<w.length):cnt O.length (w.take (i+1))=(cnt O.length (w.take i)).set w[i] (at_ (cnt O.length (w.take i)) w[i] + 1):=by
 refine zB4 (by simp [cnt]) fun j hj=>?_
 have hj':j<O.length:=by simpa [cnt]using hj
 rcases Nat.lt_or_ge w[i] O.length with hw|hw
 ·rw [at_set (by simp [cnt];exact hw),Z5 hj',List.take_succ_eq_append_getElem hi,List.count_append]
  by_cases e:j=w[i]
  ·subst e
   rw [if_pos rfl,Z5 hw]
   simp
  ·rw [if_neg e,Z5 hj',List.count_singleton]
   have:(w[i] == j)=false:=by simp;exact fun h=>e h.symm
   rw [this];simp
 ·rw [List.set_eq_of_length_le (by simp [cnt];exact hw),Z5 hj',Z5 hj',List.take_succ_eq_append_getElem hi,List.count_append,List.count_singleton]
  have:(w[i] == j)=false:=by simp;omega
  rw [this];simp
set_option maxHeartbeats 1600000 in
theorem zDv (s:Shp O P C) (hs:PtrG σ sp vO vP vC) (hR:IsPr vO vP vC O P C) (hw:In O 0 w) (hl:w.length≤300) (hvw:FI vw (lw w)) (hk1:∀v x n,FI v x→x.length≤6→Col O P C w x→K (.tup [v,.int .i64 n,.int .i64 0]) σ) (hk2:K (.tup [.fz true .nils 0 [],.int .i64 0,.int .i64 3]) σ):
  zA Tryz.prog 40 [.ptr sp 0,vw,.int .i64 2000] σ K:=by
 have hR0:=hR;obtain⟨w0,a0,rfl⟩:=hR.O;have e0:σ.rd1 sp 0=some (.fz w0 a0 O.length (pis O)):=by rw [zH hs.obj];rfl
 have h6:=s.le;refine zA.gh ?_;refine zC mix Tryz.func40 ?_
 conv=>arg 2;cbv
 refine zF rfl ?_;simp only [pwA,seval,-iQ0];refine zG (fun m us h'=>∃(n:Nat) (vw':PV) (w':List Nat),n≤2000∧m=2000-n∧us=[.ptr sp 0,vw',.int .i64 2000,.int .i64 n]∧h'=σ∧FI vw' (lw w')∧In O 0 w'∧w'.length≤300∧∀x,Col O P C w' x→Col O P C w x) 2000 ?_ ?_
 ·exact⟨0,vw,w,by omega,by omega,rfl,rfl,hvw,hw,hl,fun x h=>h⟩
 rintro m us h' ⟨n,vw',w',hn,rfl,rfl,rfl,hv',hw',hl',hcol⟩
 simp only [pwA,seval,-iQ0];refine zD7 s hs hR0 hw' (by omega) hv' (fun hnr=>?_) fun t hr hlm=>?_
 ·have h1:(-1:Int)<0:=by decide
  obtain⟨ww,aw,rfl⟩:=hv';rw [zk];simp only [pwA,seval,-iQ0,h1,e0,mk8 (n:=O.length) (by omega),Go.Ab.mkL (n:=O.length) (by omega),zi]
  refine zG (fun m us h2=>∃i:Nat,i≤w'.length∧m=w'.length-i∧us=[.int .i64 n,.sl h'.next 0 O.length (.known O.length),.fz ww aw w'.length (pis (lw w')),.int .i64 w'.length,.int .i64 i]∧h2=h'.new (pis (cnt O.length (w'.take i)))) w'.length ?_ ?_
  ·exact⟨0,by omega,by omega,rfl,by rw [List.take_zero,zL8]⟩
  rintro m us h2 ⟨i,hi,rfl,rfl,rfl⟩
  simp only [pwA,seval,-iQ0];refine iteI (fun hlt=>?_) fun hge=>?_
  rotate_left
  ·have hie:i=w'.length:=by omega
   subst hie;rw [List.take_length];have hc:(cnt O.length w').length=O.length:=by simp [cnt]
   refine Gh.freeze (s:=h'.next) (cs:=pis (cnt O.length w')) (by rw [zD,if_pos rfl]) (Nat.le_refl _) (zO _ _) fun o _ _ _=>?_
   have hcapO:capOK (.known O.length) O.length=true:=by simp [capOK]
   simp only [sb,sbs,hcapO,and_self,if_true];refine Gh.fin0 (((zB h' _).kill (Nat.le_refl _)).up (by simp only [PHeap.kill];omega)) ⟨trivial,trivial,trivial,trivial⟩ (hk1 _ (cnt O.length w') _ ⟨true,.sl o 0 O.length (.known O.length),by rw [hc]⟩ (by rw [hc];exact h6) (hcol _ (Col.done hnr)))
  have hwi:=hw' _ (List.getElem_mem hlt);have hiO:w'[i] < O.length:=hwi.2;have wa:IntKind.i64.wrap ((w'[i]:Int)+1-1)=(w'[i]:Int):=by rw [wrap64 (by omega) (by omega)];omega
  have hcl:(cnt O.length (w'.take i)).length=O.length:=by simp [cnt]
  have oI:(w'[i]:Int)<(O.length:Int):=by omega
  have gc:(pis (cnt O.length (w'.take i)))[w'[i]]? = some (.int .i64 (at_ (cnt O.length (w'.take i)) w'[i])):=by
   rw [zM,gi (by rw [hcl];exact hiO),at_eq (by rw [hcl];exact hiO)];rfl
  have ca:=Z5 (w:=w'.take i) hiO;have cb:=List.count_le_length (a:=w'[i]) (l:=w'.take i);rw [List.length_take]at cb
  have wc:IntKind.i64.wrap (at_ (cnt O.length (w'.take i)) w'[i] + 1)=at_ (cnt O.length (w'.take i)) w'[i] + 1:=wrap64 (by omega) (by omega)
  have hl1:w'[i] + 1≤(cnt O.length (w'.take i)).length:=by omega
  have hA:List.take w'[i] (pis (cnt O.length (w'.take i)))++[PV.int .i64 (at_ (cnt O.length (w'.take i)) w'[i] + 1)]++List.drop (w'[i] + 1) (pis (cnt O.length (w'.take i)))=pis (cnt O.length (w'.take (i+1))):=by
   rw [za (by rw [hcl];exact hiO),zLA hlt]
  simp only [pwA,seval,-iQ0,hlt,ZA hlt,wa,hiO,oI,gc,wc,hl1,hA,zI,wrapS hlt (by omega:w'.length≤4611686018427387904)]
  exact⟨_,by omega,i+1,by omega,rfl,rfl,rfl⟩
 ·have h1:¬(t:Int)<0:=by omega
  by_cases h2:n=2000
  ·have h2I:((n:Nat):Int)=2000:=by omega
   simp only [pwA,seval,-iQ0,h1,h2I];exact Gh.fin0 (Keep.refl _) ⟨trivial,trivial,trivial,trivial⟩ hk2
  have h2I:¬((n:Nat):Int)=2000:=by omega
  simp only [pwA,seval,-iQ0,h1,h2I];refine zBl s hs hR0 hw' (by omega) hr hv' fun v2 hv2=>?_
  have st:=ZJ s hw' hr;have inw:=Stp.inW s hw' st;have wn:IntKind.i64.wrap ((n:Int)+1)=((n+1:Nat):Int):=by rw [wrap64 (by omega) (by omega)];omega
  by_cases h3:256<(stepf O P C w' t).length
  ·obtain⟨w8,a8,rfl⟩:=hv2
   rw [zk];have h3I:(256:Int)<((stepf O P C w' t).length:Int):=by omega
   simp only [pwA,seval,-iQ0,h3I,h3];exact Gh.fin0 (Keep.refl _) ⟨trivial,trivial,trivial,trivial⟩ hk2
  ·have hv2':=hv2
   obtain⟨w8,a8,rfl⟩:=hv2;rw [zk]at hv2' ⊢
   have h3I:¬(256:Int)<((stepf O P C w' t).length:Int):=by omega
   simp only [pwA,seval,-iQ0,h3I,h3,wn];exact⟨_,by omega,n+1,_,stepf O P C w' t,by omega,rfl,rfl,hv2',inw,by omega,fun x hx=>hcol x (Col.step st hlm hx)⟩
end Go.Proofs
namespace Go.Proofs
open Go.Ab Go.Lie
variable {σ:PHeap} {K:PV→PHeap→Prop} {n:Nat} {p:Int}
structure LS where
 s:Nat
 cap:Cap
 cs:List PV
variable {h:PHeap} {p0 sO:Nat} {vO vP vC:PV} {cO pc:List PV} {ls:List (Option LS)}
end Go.Proofs
namespace Go.Proofs
open Go.Ab Go.Lie
variable {σ σ0 σ1:PHeap} {K:PV→PHeap→Prop} {vC:PV} {bs:List Int} {s:Nat} {a sd:Int}
def FB (v:PV) (bs:List Int):Prop:=∃w a,v=.fz w a bs.length (bs.map (.int .u8))
structure Byt (bs:List Int):Prop where
 len:bs.length≤1048576
 bd:∀b∈bs,0≤b∧b≤255
abbrev srcC (vC:PV) (a:Nat) (sd:Int):List PV:=[vC,.int .i64 (a:Int),.int .i64 sd]
structure Src (σ:PHeap) (s:Nat) (vC:PV) (bs:List Int) (a:Nat) (sd:Int):Prop where
 obj:σ.obj s=some (srcC vC a sd)
 lt:s<σ.next
 fb:FB vC bs
 byt:Byt bs
 le:a≤bs.length
 sd:0≤sd∧sd<2147483647
theorem FB.one {v:PV} (h:FB v bs):v.one=true:=by obtain⟨w,a,rfl⟩:=h;rfl
theorem FB.cells {v:PV} (h:FB v bs):v.cells=[v]:=by obtain⟨w,a,rfl⟩:=h;rfl
theorem FB.bel {v:PV} (h:FB v bs) (n:Nat):Bel n v:=by obtain⟨w,a,rfl⟩:=h;trivial
theorem FB.bels {v:PV} (h:FB v bs) (n a:Nat) (sd:Int):Bels n (srcC v a sd):=⟨h.bel n,trivial,trivial,trivial⟩
theorem Gh.setS {v:PV} {s:Nat} {c0 c1:List PV} (h0:σ0.obj s=some c0) (hb:Bels 0 c1) (k:Gh (σ0.set s c1) K v σ1):Gh σ0 K v σ1:=fun w ι Z h b r hv h1 h2 h3 h4=>by
 have hs:s<σ0.next:=w.lt h0;have w':PWF (σ0.set s c1):=by
  refine⟨fun t ht=>?_,fun t cs ht=>?_⟩
  ·have ht':σ0.next≤t:=ht
   rw [zJ,if_neg (by omega)]
   exact w.wf t ht'
  ·rw [zJ]at ht
   split at ht
   ·cases ht
    exact Bels.up (Nat.zero_le _) hb
   ·exact w.bel t cs ht
 obtain⟨v2,σ2,ι2,Z2,g1,g2,g3,g4,g5,g6,g7,g8,g9⟩:=k w' ι Z h b r hv h1 h2 h3 (fun t ht hn=>by
  rw [zJ]at hn
  split at hn
  ·cases hn
  ·exact h4 t ht hn)
 refine⟨v2,σ2,ι2,Z2,g1,g2,g3,g4,g5,g6,fun t ht hn=>g7 t ht ?_,g8,g9⟩
 rw [zJ,if_neg (by rintro rfl;rw [h0]at hn;cases hn)]
 exact hn
theorem Src.set {σ:PHeap} {a a':Nat} {sd sd':Int} (h:Src σ s vC bs a sd) (ha:a'≤bs.length) (hs:0≤sd'∧sd'<2147483647):Src (σ.set s (srcC vC a' sd')) s vC bs a' sd':=
 ⟨by rw [zJ,if_pos rfl],h.lt,h.fb,h.byt,ha,hs⟩
theorem Src.keep {σ σ':PHeap} {a:Nat} {sd:Int} (h:Src σ s vC bs a sd) (k:Keep σ σ'):Src σ' s vC bs a sd:=
 ⟨by rw [k.obj s h.lt];exact h.obj,Nat.lt_of_lt_of_le h.lt k.next,h.fb,h.byt,h.le,h.sd⟩
theorem Src.q {σ:PHeap} {a:Nat} {sd:Int} (h:Src σ s vC bs a sd):σ.rd1 s 0=some vC∧σ.rd1 s 1=some (.int .i64 a)∧σ.rd1 s 2=some (.int .i64 sd):=by
 refine⟨?_,?_,?_⟩<;>(rw [zH h.obj];rfl)
theorem Src.w1 {σ:PHeap} {a:Nat} {sd x:Int} (h:Src σ s vC bs a sd):σ.wr s 1 [.int .i64 x]=some (σ.set s [vC,.int .i64 x,.int .i64 sd]):=by
 rw [zX h.obj,if_pos ⟨by simp,rfl⟩];rfl
theorem Src.w2 {σ:PHeap} {a:Nat} {sd x:Int} (h:Src σ s vC bs a sd):σ.wr s 2 [.int .i64 x]=some (σ.set s (srcC vC a x)):=by
 rw [zX h.obj,if_pos ⟨by simp,rfl⟩];rfl
theorem zEP (σ:PHeap) (s:Nat) (x y:List PV):(σ.set s x).set s y=σ.set s y:=by
 simp only [PHeap.set]
 congr 1
 funext t
 split<;>rfl
theorem zDy {j:Nat} (hB:Byt bs) (hj:j<bs.length):(bs.map (PV.int .u8))[j]? = some (.int .u8 (bs.getD j 0))∧0≤bs.getD j 0∧bs.getD j 0≤255:=by
 have e:bs.getD j 0=bs[j]:=by simp [List.getD_eq_getElem?_getD,List.getElem?_eq_getElem hj]
 rw [e];exact⟨by rw [List.getElem?_map,List.getElem?_eq_getElem hj];rfl,hB.bd _ (List.getElem_mem hj)⟩
def Nx (n x:Int):Prop:=0≤x∧(n≤1→x=0)∧(1<n→x<n)
theorem Nx.lt {n x:Int} (h:Nx n x) (hn:1≤n):x<n:=by
 obtain⟨h0,h1,h2⟩:=h;rcases Int.lt_or_le 1 n with g|g
 ·exact h2 g
 ·have:=h1 g;omega
theorem zJQ {n x:Int} (hn:1<n) (hx:0≤x):Nx n (x.tmod n):=by
 rw [Int.tmod_eq_emod_of_nonneg hx];have h1:=Int.emod_nonneg x (show n≠0 by omega)
 have h2:=Int.emod_lt_of_pos x (show 0<n by omega)
 exact⟨h1,fun h=>by omega,fun _=>h2⟩
theorem zIE (hb:FB vC bs) (hB:Byt bs) (hk:∀sd,0≤sd∧sd<2147483647→K (.ptr σ.next 0) (σ.new (srcC vC 0 sd))):zA Tryz.prog 31 [vC] σ K:=by
 obtain⟨w,av,rfl⟩:=hb;have hl:=hB.len;refine zC mix Tryz.func31 ?_
 conv=>arg 2;cbv
 refine zF rfl ?_;simp only [pwA,seval,-iQ0];generalize hC:(PV.fz w av bs.length (bs.map (.int .u8)))=vC at *
 refine zG (fun m vs h'=>∃(i:Nat) (sd:Int),i≤bs.length∧m=bs.length-i∧vs=[vC,.ptr σ.next 0,.int .i64 i]∧σ.new (srcC vC 0 sd)=h'∧0≤sd∧sd<2147483647) bs.length ?_ ?_
 ·exact⟨0,76001,by omega,by omega,rfl,rfl,by omega,by omega⟩
 rintro m vs h' ⟨i,sd,hi,rfl,rfl,rfl,h0,h1⟩
 have hlen:pLen vC=some (.int .i64 bs.length):=by rw [←hC];rfl
 have wi1:IntKind.i64.wrap ((i:Int)+1)=((i+1:Nat):Int):=by rw [wrap64 (by omega) (by omega)];omega
 have out:K (.ptr σ.next 0) (σ.new (srcC vC 0 sd)):=hk sd ⟨h0,h1⟩;simp only [pwA,seval,-iQ0,hlen]
 by_cases hlt:i<bs.length
 rotate_left
 ·simp only [pwA,seval,-iQ0,hlt,decide_false]
  exact out
 obtain⟨b1,b2,b3⟩:=zDy hB hlt
 by_cases h64:i<64
 rotate_left
 ·have h64':¬(i:Int)<64:=by omega
  simp only [pwA,seval,-iQ0,hlt,h64',decide_true,decide_false];exact out
 have h64':(i:Int)<64:=by omega
 generalize bs.getD i 0=b at b1 b2 b3
 have e1:IntKind.i64.wrap (sd*71)=sd*71:=wrap64 (by omega) (by omega)
 have e2:IntKind.i64.wrap b=b:=wrap64 (by omega) (by omega)
 have e3:IntKind.i64.wrap (sd*71+b)=sd*71+b:=wrap64 (by omega) (by omega)
 have e4:(sd*71+b).tmod 2147483647=(sd*71+b) % 2147483647:=Int.tmod_eq_emod_of_nonneg (by omega)
 subst hC;simp only [pwA,seval,-iQ0,hlt,h64',decide_true,b1,e1,e2,e3,e4,wi1];exact⟨_,by omega,i+1,_,by omega,rfl,rfl,rfl,by omega,by omega⟩
theorem zID {a:Nat} {sd n:Int} (S:Src σ s vC bs a sd) (hn:n≤4611686018427387904) (hk:∀x a' sd',Nx n x→a'≤bs.length→0≤sd'∧sd'<2147483647→K (.int .i64 x) (σ.set s (srcC vC a' sd'))):zA Tryz.prog 83 [.ptr s 0,.int .i64 n] σ K:=by
 have hl:=S.byt.len;have hsd:=S.sd;have ha:=S.le;obtain⟨w,av,rfl⟩:=S.fb;obtain⟨q0,q1,q2⟩:=S.q;have e1:IntKind.i64.wrap (sd*48271)=sd*48271:=wrap64 (by omega) (by omega)
 have e2:IntKind.i64.wrap (sd*48271+71)=sd*48271+71:=wrap64 (by omega) (by omega)
 have e4:(sd*48271+71).tmod 2147483647=(sd*48271+71) % 2147483647:=Int.tmod_eq_emod_of_nonneg (by omega)
 refine zC mix Tryz.func83 ?_
 conv=>arg 2;cbv
 refine zF rfl ?_;simp only [pwA,seval,-iQ0,q2,e1,e2,e4,S.w2];refine iteI (fun hlt=>?_) fun hge=>?_
 ·have:=hk 0 a sd ⟨Int.le_refl _,fun _=>rfl,fun h=>by omega⟩ ha hsd
  rw [QU S.obj]at this
  exact this
 have hsd1:0≤(sd*48271+71) % 2147483647∧(sd*48271+71) % 2147483647<2147483647:=by omega
 generalize (sd*48271+71) % 2147483647=sd1 at *
 have S1:=S.set (sd':=sd1) ha hsd1;obtain⟨p0,p1,p2⟩:=S1.q;obtain⟨x0,e5,hx0⟩:∃x0,IntKind.i64.wrap (sd1.tdiv 47)=x0∧0≤x0∧x0≤2147483647:=by
  have d1:sd1.tdiv 47=sd1 / 47:=Int.tdiv_eq_ediv_of_nonneg (by omega)
  exact⟨sd1 / 47,by rw [d1];exact wrap64 (by omega) (by omega),by omega,by omega⟩
 have hn0:n≠0:=by omega
 generalize hs1:σ.set s (srcC (PV.fz w av bs.length (bs.map (.int .u8))) a sd1)=σ1 at *
 have hT:∀(a':Nat) (sd':Int),σ1.set s (srcC (PV.fz w av bs.length (bs.map (.int .u8))) a' sd')=σ.set s (srcC (PV.fz w av bs.length (bs.map (.int .u8))) a' sd'):=fun a' sd'=>by rw [←hs1];exact zEP _ _ _ _
 simp only [pwA,seval,-iQ0,p0,p1,p2,e5]
 by_cases hlt':a<bs.length
 rotate_left
 ·simp only [pwA,seval,-iQ0,hlt',decide_false]
  have:=hk _ a sd1 (zJQ (by omega) hx0.1) ha hsd1
  rw [hs1]at this
  simp only [pwA,seval,-iQ0,hn0,e5];exact this
 obtain⟨b1,b2,b3⟩:=zDy S.byt hlt';generalize bs.getD a 0=b at b1 b2 b3
 have e6:IntKind.i64.wrap b=b:=wrap64 (by omega) (by omega)
 have e7:IntKind.i64.wrap (x0+b)=x0+b:=wrap64 (by omega) (by omega)
 have wi1:IntKind.i64.wrap ((a:Int)+1)=((a+1:Nat):Int):=by rw [wrap64 (by omega) (by omega)];omega
 simp only [pwA,seval,-iQ0,hlt',decide_true,p0,p1,b1,e5,e6,e7,S1.w1,wi1];have Sb:=S1.set (a':=a+1) (sd':=sd1) (by omega) hsd1
 obtain⟨r0,r1,r2⟩:=Sb.q;generalize hs2:σ1.set s (srcC (PV.fz w av bs.length (bs.map (.int .u8))) (a+1) sd1)=σ2 at *
 have tm:((a+1:Nat):Int).tmod 2=((a+1:Nat):Int) % 2:=Int.tmod_eq_emod_of_nonneg (by omega)
 have wi2:IntKind.i64.wrap (((a+1:Nat):Int)-1)=(a:Int):=by rw [wrap64 (by omega) (by omega)];omega
 have fin:∀x:Int,0≤x→K (.int .i64 (x.tmod n)) σ2:=fun x hx=>by
  have:=hk _ (a+1) sd1 (zJQ (by omega) hx) (by omega) hsd1
  rw [←hs2,hT];exact this
 by_cases hn256:n≤256
 rotate_left
 ·simp only [pwA,seval,-iQ0,hn256,decide_false,hn0,e5,e6,e7]
  exact fin _ (by omega)
 by_cases hev:((a+1:Nat):Int) % 2=0
 rotate_left
 ·simp only [pwA,seval,-iQ0,hn256,decide_true,r1,tm,hev,decide_false,hn0,e5,e6,e7]
  exact fin _ (by omega)
 simp only [pwA,seval,-iQ0,hn256,decide_true,r0,r1,tm,hev,wi2,hlt',b1,hn0,e5,e6,e7];exact fin _ (by omega)
end Go.Proofs
namespace Go.Proofs
open Go.Ab Go.Lie
variable {σ σ0 σ1 h h':PHeap} {K:PV→PHeap→Prop} {vC:PV} {bs:List Int} {s:Nat}
def So (σ:PHeap) (s:Nat) (vC:PV) (bs:List Int):Prop:=∃a sd,Src σ s vC bs a sd
def Mv (σ:PHeap) (s:Nat) (σ':PHeap):Prop:=∃c0 c1,σ.obj s=some c0∧Bels 0 c1∧σ'=σ.set s c1
def KM (σ:PHeap) (s:Nat) (h:PHeap):Prop:=∃σ',Mv σ s σ'∧Keep σ' h
theorem Mv.next (m:Mv σ s h):h.next=σ.next:=by obtain⟨_,_,_,_,rfl⟩:=m;rfl
theorem Mv.obj (m:Mv σ s h) {t:Nat} (ht:t≠s):h.obj t=σ.obj t:=by obtain⟨_,_,_,_,rfl⟩:=m;rw [zJ,if_neg ht]
theorem So.lt (k:So σ s vC bs):s<σ.next:=by obtain⟨_,_,k⟩:=k;exact k.lt
theorem So.mv (k:So σ s vC bs) {a:Nat} {sd:Int} (ha:a≤bs.length) (hs:0≤sd∧sd<2147483647):Mv σ s (σ.set s (srcC vC a sd))∧So (σ.set s (srcC vC a sd)) s vC bs:=by
 obtain⟨a0,sd0,k⟩:=k;exact⟨⟨_,_,k.obj,k.fb.bels _ _ _,rfl⟩,a,sd,k.set ha hs⟩
theorem So.mv0 (k:So σ s vC bs):Mv σ s σ:=by
 obtain⟨a0,sd0,k⟩:=k;exact⟨_,_,k.obj,k.fb.bels _ _ _,(QU k.obj).symm⟩
theorem So.keep (k:So σ s vC bs) (hk:Keep σ h):So h s vC bs:=by
 obtain⟨a0,sd0,k⟩:=k;exact⟨_,_,k.keep hk⟩
theorem So.set (k:So σ s vC bs) {t:Nat} (ht:s≠t) (cs:List PV):So (σ.set t cs) s vC bs:=by
 obtain⟨a0,sd0,k⟩:=k;exact⟨a0,sd0,by rw [zJ,if_neg ht];exact k.obj,k.lt,k.fb,k.byt,k.le,k.sd⟩
theorem KM.keep (k:KM σ s h) (hk:Keep h h'):KM σ s h':=by
 obtain⟨σ',m,q⟩:=k;exact⟨σ',m,q.trans hk⟩
theorem KM.next (k:KM σ s h):σ.next≤h.next:=by
 obtain⟨σ',m,q⟩:=k;rw [←m.next];exact q.next
theorem KM.obj (k:KM σ s h) {t:Nat} (ht:t<σ.next) (hn:t≠s):h.obj t=σ.obj t:=by
 obtain⟨σ',m,q⟩:=k;rw [q.obj t (by rw [m.next];exact ht),m.obj hn]
theorem So.km (k:So σ s vC bs):KM σ s σ:=⟨σ,k.mv0,Keep.refl _⟩
theorem So.kmK (k:So σ s vC bs) (hk:Keep σ h):KM σ s h:=⟨σ,k.mv0,hk⟩
theorem KM.new (k:KM σ s h) (cs:List PV):KM σ s (h.new cs):=k.keep (zB h cs)
theorem KM.set (k:KM σ s h) {t:Nat} (ht:σ.next≤t) (cs:List PV):KM σ s (h.set t cs):=by
 obtain⟨σ',m,q⟩:=k;exact⟨σ',m,q.set (by rw [m.next];exact ht) cs⟩
theorem KM.mv (k:KM σ s h) (hs:s<σ.next) (m':Mv h s h'):KM σ s h':=by
 obtain⟨σ',⟨c0,c1,h0,h1,rfl⟩,q⟩:=k;obtain⟨d0,d1,g0,g1,rfl⟩:=m';refine⟨σ.set s d1,⟨c0,d1,h0,g1,rfl⟩,q.next,q.top,fun t ht=>?_⟩
 rw [zJ,zJ]
 split
 ·rfl
 ·rename_i e
  rw [q.obj t ht,zJ,if_neg e]
theorem KM.trans (k:KM σ s h) (hs:s<σ.next) (k':KM h s h'):KM σ s h':=by
 obtain⟨σ',m,q⟩:=k';exact(k.mv hs m).keep q
theorem Gh.km {v:PV} (k:KM σ s h) (so:So h s vC bs) (hs:s<σ.next) (c:∀σ',Mv σ s σ'→So σ' s vC bs→Keep σ' h→Gh σ' K v h):Gh σ K v h:=by
 obtain⟨σ',m,q⟩:=k;obtain⟨c0,c1,h0,h1,e⟩:=m;obtain⟨a,sd,S⟩:=so;have hs':s<σ'.next:=by rw [e];exact hs
 have so':So σ' s vC bs:=⟨a,sd,by rw [←q.obj s hs'];exact S.obj,hs',S.fb,S.byt,S.le,S.sd⟩
 have:=c σ' ⟨c0,c1,h0,h1,e⟩ so' q
 rw [e]at this
 exact Gh.setS h0 h1 this
theorem zl {n:Int} (so:So σ s vC bs) (hn:n≤4611686018427387904) (hk:∀x h,Nx n x→Mv σ s h→So h s vC bs→K (.int .i64 x) h):zA Tryz.prog 83 [.ptr s 0,.int .i64 n] σ K:=by
 obtain⟨a,sd,S⟩:=so;refine zID S hn fun x a' sd' hx ha hs=>?_
 obtain⟨m1,m2⟩:=So.mv ⟨a,sd,S⟩ ha hs;exact hk x _ hx m1 m2
end Go.Proofs
namespace Go.Proofs
open Go.Ab Go.Lie
variable {σ σ0 h h':PHeap} {K:PV→PHeap→Prop} {vC:PV} {bs:List Int} {s b n:Nat} {p:Int} {RP R:PV→List Int→Prop} {sP sB:Nat} {capP capB:Cap} {cs:List PV} {ls:List LS} {W:List (List Int)} {B:List (List (List Int))}
theorem zE0 {h:PHeap} {t i:Nat} {cs:List PV} {v:PV} (ho:h.obj t=some cs) (hi:i<cs.length) (hv:v.one=true):h.wr t i [v]=some (h.set t (cs.set i v)):=by
 rw [zX ho,if_pos ⟨by simp;omega,by simp [hv]⟩]
 congr 2
 rw [List.append_assoc];exact take_set cs hi v
end Go.Proofs
namespace Go.Proofs
open Go.Ab Go.Lie
variable {σ σ0 h h':PHeap} {K:PV→PHeap→Prop} {vC vP vB:PV} {bs:List Int} {s b n r0:Nat} {p:Int} {W:List (List Int)} {B:List (List (List Int))}
theorem KM.keepOf (k:KM σ s h) (hk:Keep σ0 σ) (hs:σ0.next≤s):Keep σ0 h:=by
 obtain⟨σ',⟨c0,c1,h0,h1,rfl⟩,q⟩:=k;exact(hk.set hs _).trans q
end Go.Proofs
namespace Go.Proofs
open Go.Ab Go.Lie
variable {σ σ0 h h':PHeap} {K:PV→PHeap→Prop} {vC vP vB vx vy:PV} {bs x y:List Int} {s b n r0:Nat} {p:Int} {W:List (List Int)} {B:List (List (List Int))}
theorem Za (hx:FI vx x) (hy:FI vy y) (hl:x.length≤1048576) (hk:∀t:Bool,(t=true↔x=y)→K (.bool t) σ):zA Tryz.prog 18 [vx,vy] σ K:=by
 obtain⟨wx,ax,rfl⟩:=hx;obtain⟨wy,ay,rfl⟩:=hy;refine zC mix Tryz.func18 ?_
 conv=>arg 2;cbv
 refine zF rfl ?_;simp only [pwA,seval,-iQ0]
 by_cases hxy:x.length=y.length
 rotate_left
 ·have hne:¬(x.length:Int)=(y.length:Int):=by omega
  simp only [pwA,seval,-iQ0,hne];exact hk false ⟨fun h=>(by cases h),fun h=>absurd (by rw [h]) hxy⟩
 have heq:(x.length:Int)=(y.length:Int):=by omega
 simp only [pwA,seval,-iQ0,heq];refine zG (fun m us g=>∃i:Nat,i≤y.length∧m=y.length-i∧us=[.fz wx ax x.length (pis x),.fz wy ay y.length (pis y),.int .i64 i]∧g=σ∧∀j,j<i→x[j]? = y[j]?) y.length ⟨0,by omega,by omega,rfl,rfl,fun j hj=>absurd hj (Nat.not_lt_zero _)⟩ ?_
 rintro m us g ⟨i,hi,rfl,rfl,rfl,he⟩
 simp only [pwA,seval,-iQ0,heq];refine iteI (fun hlt=>?_) fun hge=>?_
 rotate_left
 ·refine hk true ⟨fun _=>List.ext_getElem? fun j=>?_,fun _=>rfl⟩
  rcases Nat.lt_or_ge j i with e|e
  ·exact he j e
  ·rw [List.getElem?_eq_none (by omega),List.getElem?_eq_none (by omega)]
 have hltx:i<x.length:=by omega
 have hlty:i<y.length:=by omega
 have wi1:IntKind.i64.wrap ((i:Int)+1)=((i+1:Nat):Int):=wrapS hlty (by omega)
 simp only [pwA,seval,-iQ0,pisAt hltx,pisAt hlty,hltx,hlty,wi1];refine iteI (fun hv=>?_) fun hv=>?_
 ·refine⟨_,by omega,i+1,by omega,rfl,rfl,fun j hj=>?_⟩
  rcases Nat.lt_or_ge j i with e|e
  ·exact he j e
  ·obtain rfl:j=i:=by omega
   rw [List.getElem?_eq_getElem hltx,List.getElem?_eq_getElem hlty,←at_eq hltx,←at_eq hlty,hv]
 ·refine hk false ⟨fun h=>(by cases h),fun h=>absurd ?_ hv⟩
  rw [h]
theorem zMg (hb:FB vC bs) (hk:∀t:Bool,(t=true↔4096<bs.length)→K (.bool t) σ):zA Tryz.prog 6 [vC] σ K:=by
 obtain⟨w,a,rfl⟩:=hb;refine zC mix Tryz.func6 ?_
 conv=>arg 2;cbv
 refine zF rfl ?_;simp only [pwA,seval,-iQ0];refine hk _ ?_;rw [decide_eq_true_eq];omega
end Go.Proofs
namespace Go.Grp
end Go.Grp
namespace Go.Proofs
open Go.Ab Go.Lie Go.Grp
variable {σ:PHeap} {K:PV→PHeap→Prop} {O:List Int} {P:List (List Int)} {C:List (List (List Int))} {vO vP vC vx vy vB:PV} {x y:List Int} {p:Int} {n:Nat} {W:List (List Int)} {B:List (List (List Int))} {sp s:Nat}
theorem zFp:isExp O x↔gS O x:=by
 constructor
 ·rintro ⟨h1,h2⟩
  exact⟨h1,fun j hj=>by have:=h2 j (by omega);omega,fun j hj=>by omega⟩
 ·intro h
  exact⟨h.len,fun j hj=>by have:=h.bd j (by rw [←h.len];exact hj);omega⟩
theorem zBw (hR:IsPr vO vP vC O P C) (szO:O.length≤1048576) (bO:∀o∈O,isP o) (hy:FI vy y) (hb:y.length≤1048576) (hk:∀t:Bool,(t=true↔isExp O y)→K (.bool t) σ):zA Tryz.prog 49 [.agg [vO,vP,vC],vy] σ K:=by
 have h0:=hR.O.one;have h1:=hR.P.one;have h2:=hR.C.one;refine zA.gh ?_;refine zC mix Tryz.func49 ?_
 conv=>arg 2;cbv
 refine zF rfl ?_;simp only [pwA,seval,-iQ0,h0,h1,h2];refine QI (t:=0) (by omega) (Nat.zero_le _) hR.O szO bO hy hb fun t ht=>?_
 simp only [pwA,seval,-iQ0];exact Gh.fin0 (zB σ _) trivial (hk _ (ht.trans ⟨fun h=>h.1,fun h=>⟨h,fun x hx=>by simp at hx⟩⟩))
end Go.Proofs
namespace Go.Grp
end Go.Grp
namespace Go.Proofs
open Go.Ab Go.Lie Go.Grp
variable {σ h h':PHeap} {K:PV→PHeap→Prop} {O x y a w:List Int} {P:List (List Int)} {C:List (List (List Int))} {vO vP vC vx vL v8 v9:PV} {L:List (List Int)} {s:BS} {bs r8 r9:List PV} {N j k:Nat}
theorem zFY {h:PHeap} {t i:Nat} {cs:List PV} {v:PV} (ho:h.obj t=some cs) (hi:i<cs.length) (hv:v.one=true):h.wr t i [v]=some (h.set t (cs.set i v)):=by
 unfold PHeap.wr;rw [ho];simp only [Option.bind_some,List.length_cons,List.length_nil,List.all_cons,List.all_nil,hv,Bool.and_self,and_true];rw [if_pos (by omega),List.set_eq_take_append_cons_drop,if_pos hi,List.append_assoc]
 rfl
end Go.Proofs
namespace Go.Grp
end Go.Grp
namespace Go.Proofs
open Go.Ab Go.Lie Go.Grp
variable {σ h:PHeap} {K:PV→PHeap→Prop} {O x:List Int} {P:List (List Int)} {C:List (List (List Int))} {vO vP vC vx vw v:PV} {sp t:Nat} {w u:List Nat}
theorem zJ4 {c:Nat} (hc:c≤8) (hk:K (.tup [.int .u64 0,.int .u64 c]) σ):zA Tryz.prog 207 [.int .u64 1,.int .u64 c] σ K:=by
 have e1:pbin .and .other (.int .u64 1) (.int .u64 4294967295)=some (.int .u64 1):=by rfl
 have e2:pbin .shr .other (.int .u64 1) (.int .u64 32)=some (.int .u64 0):=by rfl
 have e3:pbin .and .other (.int .u64 c) (.int .u64 4294967295)=some (.int .u64 c):=by
  obtain rfl|rfl|rfl|rfl|rfl|rfl|rfl|rfl|rfl:c=0∨c=1∨c=2∨c=3∨c=4∨c=5∨c=6∨c=7∨c=8:=by omega
  all_goals rfl
 have e4:pbin .shr .other (.int .u64 c) (.int .u64 32)=some (.int .u64 0):=by
  obtain rfl|rfl|rfl|rfl|rfl|rfl|rfl|rfl|rfl:c=0∨c=1∨c=2∨c=3∨c=4∨c=5∨c=6∨c=7∨c=8:=by omega
  all_goals rfl
 have e5:pbin .and .other (.int .u64 0) (.int .u64 4294967295)=some (.int .u64 0):=by rfl
 have e6:pbin .shr .other (.int .u64 0) (.int .u64 32)=some (.int .u64 0):=by rfl
 have w0:IntKind.u64.wrap 0=0:=by rfl
 have w1:IntKind.u64.wrap (c:Int)=(c:Int):=by
  obtain rfl|rfl|rfl|rfl|rfl|rfl|rfl|rfl|rfl:c=0∨c=1∨c=2∨c=3∨c=4∨c=5∨c=6∨c=7∨c=8:=by omega
  all_goals rfl
 have m0:∀k:Int,(0:Int)*k=0:=Int.zero_mul
 have m1:∀k:Int,(1:Int)*k=k:=Int.one_mul
 have m2:∀k:Int,k*(0:Int)=0:=Int.mul_zero
 have a0:(0:Int)+0=0:=rfl;refine zC mix Tryz.func207 ?_
 conv=>arg 2;cbv
 refine zF rfl ?_;simp only [pwA,seval,-iQ0,e1,e2,e3,e4,e5,e6,w0,w1,m0,m1,m2,a0];exact hk
theorem zMD {c:Nat} (hc:c≤8) (hk:K (.tup [.int .u64 0,.int .u64 c]) σ):zA Tryz.prog 159 [.int .u64 1,.int .u64 c] σ K:=by
 refine zC mix Tryz.func159 ?_
 conv=>arg 2;cbv
 refine zF rfl ?_;simp only [pwA,seval,-iQ0];refine zJ4 hc ?_;simp only [pwA,seval,-iQ0];exact hk
theorem zGC {l:Int} {c:Nat} (hc:c≤8) (hvx:FI vx [l]) (hk:∀o,K (.fz true (.sl o 0 c (.known c)) c (pis (List.replicate c l))) σ):zA Tryz.prog 93 [vx,.int .i64 c] σ K:=by
 obtain⟨wx,ax,rfl⟩:=hvx;refine zA.gh ?_;have h0:¬(c:Int)<0:=by omega
 have h1:¬(9223372036854775807:Int)<(c:Int):=by omega
 have w1:IntKind.u64.wrap (c:Int)=(c:Int):=by
  obtain rfl|rfl|rfl|rfl|rfl|rfl|rfl|rfl|rfl:c=0∨c=1∨c=2∨c=3∨c=4∨c=5∨c=6∨c=7∨c=8:=by omega
  all_goals rfl
 have w2:IntKind.i64.wrap (c:Int)=(c:Int):=wrap64 (by omega) (by omega)
 have w3:IntKind.u64.wrap 1=1:=by rfl
 refine zC mix Tryz.func93 ?_
 conv=>arg 2;cbv
 refine zF rfl ?_;simp only [pwA,seval,-iQ0,h0,w1,w3,List.length_cons,List.length_nil];refine zMD hc ?_;simp only [pwA,seval,-iQ0,h1,w2,List.length_replicate,zi,mk8 (n:=c) (by omega),mkL (n:=c) (by omega)]
 have hz:List.replicate c 0=rl l c 0:=by simp [rl]
 rw [hz,zIP];refine⟨_,rfl,?_⟩;simp only [pwA,seval,-iQ0];refine zG (fun m vs h'=>∃k:Nat,k≤c∧(k=0→c=0)∧m=c-k∧vs=[.sl σ.next 0 c (.known c),.int .i64 k]∧h'=σ.new (pis (rl l c k))) (c-min 1 c) ?_ ?_
 ·exact⟨min 1 c,by omega,fun h=>by omega,rfl,rfl,rfl⟩
 rintro m vs h' ⟨k,hkc,hk0,rfl,rfl,rfl⟩
 simp only [pwA,seval,-iQ0];refine iteI (fun hlt=>?_) fun hge=>?_
 rotate_left
 ·have hke:k=c:=by omega
  subst hke;have hre:rl l k k=List.replicate k l:=by simp [rl]
  rw [hre];exact Gh.finF (s:=σ.next) (zB σ _) (by simp only [pwA,seval,-iQ0]) (Nat.le_refl _) (zO _ _) (show capOK (.known k) k=true by simp [capOK]) fun o=>hk o
 have hlt':k<c:=by omega
 have hle:k≤c:=by omega
 have hleI:(k:Int)≤(c:Int):=by omega
 have hne:¬c=k:=by omega
 have hcn:=zJu (σ:=σ) (l:=l) (by omega:0<k) hlt'
 have hm:min k (c-k)≤c:=by omega
 have ew:IntKind.i64.wrap ((k:Int)+((min k (c-k):Nat):Int))=((k+min k (c-k):Nat):Int):=by rw [wrap64 (by omega) (by omega)];omega
 simp only [pwA,seval,-iQ0,hle,hleI,hne,hcn,ew,Nat.sub_zero,ite_self,Option.isSome_none,Option.isNone_none,Bool.false_eq_true,and_false];exact⟨_,by omega,k+min k (c-k),by omega,fun h=>by omega,rfl,rfl,rfl⟩
abbrev CW:=List Nat×List Nat×List Nat
def FI3w (a:PV×PV×PV) (b:CW):Prop:=FI a.1 (lw b.1)∧FI a.2.1 (lw b.2.1)∧FI a.2.2 (lw b.2.2)
def fl3w (rows:List (PV×PV×PV)):List PV:=rows.flatMap fun r=>[r.1,r.2.1,r.2.2]
theorem zJi (rows:List (PV×PV×PV)) (a b c:PV):fl3w (rows++[(a,b,c)])=fl3w rows++[a,b,c]:=by simp [fl3w]
theorem zK2 {rows:List (PV×PV×PV)} {L:List CW} (h:All2 FI3w rows L):Bels 0 (fl3w rows):=by
 refine zBV.2 fun c hc=>?_
 simp only [fl3w,List.mem_flatMap]at hc
 obtain⟨r,hr,hc⟩:=hc;obtain⟨k,hk,rfl⟩:=List.mem_iff_getElem.1 hr;have hk2:k<L.length:=by rw [←h.1];exact hk
 have:=h.2 k _ _ (List.getElem?_eq_getElem hk) (List.getElem?_eq_getElem hk2)
 simp only [List.mem_cons,List.not_mem_nil,or_false]at hc
 rcases hc with rfl|rfl|rfl
 ·exact this.1.bel 0
 ·exact this.2.1.bel 0
 ·exact this.2.2.bel 0
theorem zFt:∀{rows:List (PV×PV×PV)} {k:Nat} (hk:k<rows.length),((fl3w rows).drop (k*3)).take 3=[rows[k].1,rows[k].2.1,rows[k].2.2]
 | r::rows,0,_=>by simp [fl3w]
 | r::rows,k+1,hk=>by
  have:=zFt (rows:=rows) (k:=k) (by simpa using hk)
  have e:(k+1)*3=k*3+3:=by omega
  rw [e]
  simpa [fl3w]using this
def CPok (O:List Int) (P:List (List Int)) (C:List (List (List Int))) (q:CW):Prop:=∃t,In O 0 q.1∧red O q.1 0∧red O q.1 t∧q.2.1=stepf O P C q.1 0∧q.2.2=stepf O P C q.1 t∧q.2.1.length≤300∧q.2.2.length≤300
structure CS (σ:PHeap) (sp:Nat) (O:List Int) (P:List (List Int)) (C:List (List (List Int))) (L:List CW) (h:PHeap):Prop where
 keep:Keep σ h
 pb:h.obj σ.next=some [.ptr sp 0]
 st:∃v rows,h.obj (σ.next+1)=some [v]∧PAcc (σ.next+2) 3 h v L.length (fl3w rows)∧All2 FI3w rows L
 nx:σ.next+2≤h.next
 ok:∀q∈L,CPok O P C q
theorem CS.move {L:List CW} {h':PHeap} (c:CS σ sp O P C L h) (kk:Keep h h'):CS σ sp O P C L h':=by
 have hn:=c.nx;have hn':=kk.next;obtain⟨v,rows,o1,a,hall⟩:=c.st;exact⟨c.keep.trans kk,by rw [kk.obj _ (by omega)];exact c.pb,⟨v,rows,by rw [kk.obj _ (by omega)];exact o1,a.keep kk,hall⟩,by omega,c.ok⟩
theorem zEN (s:Shp O P C) (hw:In O 0 w) (hl:w.length≤10) (hr:red O w t):(stepf O P C w t).length≤300:=by
 have st:=ZJ s hw hr
 revert st
 generalize stepf O P C w t=z;intro st;cases st with
 | @conj pre rest a b hab=>
  have ha:=hw a (by simp)
  have:=Zj s (s.cj b a hab ha.2)
  simp only [List.length_append,List.length_cons]at hl ⊢
  omega
 | @pow pre rest a h0=>
  have ha:=hw a (List.mem_append_right _ (List.mem_append_left _ (List.mem_replicate.2 ⟨by omega,rfl⟩)))
  have:=Zj s (s.pw a ha.2)
  simp only [List.length_append]at hl ⊢
  omega
theorem Zw {l:Int} {c:Nat} (hc:c≤8) (hk:∀o,K (.fz true (.sl o 0 c (.known c)) c (pis (List.replicate c l))) σ):zA Tryz.prog 92 [.int .i64 l,.int .i64 c] σ K:=by
 refine zA.gh ?_;refine zC mix Tryz.func92 ?_
 conv=>arg 2;cbv
 refine zF rfl ?_;simp only [pwA,seval,-iQ0];have hcap1:capOK (.known 1) 1=true:=rfl;have e1:(c:Int)=(c:Int):=rfl;refine zA.frz (s:=σ.next) (cs:=pis [l]) (by simp only [pwA,seval,-iQ0];rfl) (zO _ _) fun o1=>?_
 simp only [sbs,sb,hcap1,and_self,if_true,nm_eq];refine zGC (l:=l) hc ⟨true,_,rfl⟩ fun o=>?_
 simp only [pwA,seval,-iQ0];exact Gh.fin0 ((zB σ _).kill (Nat.le_refl _)) trivial (hk o)
set_option maxHeartbeats 1600000 in
theorem zIN {L:List CW} (s:Shp O P C) (hs:PtrG σ sp vO vP vC) (hR:IsPr vO vP vC O P C) (c:CS σ sp O P C L h) (hL:L.length≤1000) (hw:In O 0 w) (hl:w.length≤10) (h0:red O w 0) (h1:red O w t) (hvw:FI vw (lw w))
  (hk:∀h',CS σ sp O P C (L++[(w,stepf O P C w 0,stepf O P C w t)]) h'→K (.tup []) h'):zA Tryz.prog 90 [vw,.int .i64 t,.ptr (σ.next+1) 0,.ptr σ.next 0] h K:=by
 have hn:=c.nx;have c0:=c;obtain⟨v,rows,o1,a,hall⟩:=c.st;have hs':=hs.keep c.keep;have e1:h.rd1 (σ.next+1) 0=some v:=by rw [zH o1];rfl
 have e2:h.rd1 σ.next 0=some (.ptr sp 0):=by rw [zH c.pb];rfl
 have z3:ofAVs (zeros [AV.nils,AV.nils,AV.nils] 1)=[.fz true .nils 0 [],.fz true .nils 0 [],.fz true .nils 0 []]:=rfl;have l0:=zEN s hw hl h0;have l1:=zEN s hw hl h1;refine zC mix Tryz.func90 ?_
 conv=>arg 2;cbv
 refine zF rfl ?_;simp only [pwA,seval,-iQ0,e1,e2,zK,zN];refine zBl (t:=0) s hs' hR hw (by omega) h0 hvw fun v1 hv1=>?_
 simp only [pwA,seval,-iQ0,e1,e2,zK,zN];refine zBl s hs' hR hw (by omega) h1 hvw fun v2 hv2=>?_
 have w1:=hvw.one;have w2:=hvw.cells;have n1:¬σ.next+1=h.next:=by omega
 have n2:¬σ.next=h.next:=by omega
 simp only [pwA,seval,-iQ0,e1,e2,zK,zN,w1,w2,hv1.one,hv1.cells,hv2.one,hv2.cells,n1,n2,z3,List.length_cons,List.length_nil,List.drop_succ_cons,List.drop_zero];refine PAcc.pushS (σb:=⟨σ.next+2,σ.top,fun t=>if t<σ.next+2 then h.obj t else none⟩) (bytes:=72) (news:=[vw,v1,v2]) ⟨hn,c.keep.top,fun t ht=>(if_pos ht).symm⟩ a rfl (by omega) (by omega) fun v' h2 k2 a2 o2 n2 l2=>?_
 have oo:h2.obj (σ.next+1)=some [v]:=by rw [o2 _ (by omega) (a.ne' (by omega))];exact o1
 have pp:h2.obj σ.next=some [.ptr sp 0]:=by rw [o2 _ (by omega) (a.ne' (by omega))];exact c.pb
 have wr:h2.wr (σ.next+1) 0 [v']=some (h2.set (σ.next+1) [v']):=zFY oo (by simp) a2.one
 simp only [pwA,seval,-iQ0,wr,a2.one,a2.cells,zK,zN];have k2':Keep σ h2:=⟨by have:=k2.next;have:(⟨σ.next+2,σ.top,fun t=>if t<σ.next+2 then h.obj t else none⟩:PHeap).next=σ.next+2:=rfl;omega,k2.top,fun q hq=>by rw [k2.obj q (by show q<σ.next+2;omega)];show(if q<σ.next+2 then h.obj q else none)=_;rw [if_pos (by omega),c.keep.obj q hq]⟩
 have nx2:σ.next+2≤h2.next:=k2.next;have a2':PSl (σ.next+2) 3 h2 v' (L.length+1) (fl3w rows++[vw,v1,v2]):=a2;refine hk _ ⟨k2'.set (by omega) _,by rw [zJ,if_neg (by omega)];exact pp,⟨v',rows++[(vw,v1,v2)],by rw [zJ,if_pos rfl],?_,hall.snoc ⟨hvw,hv1,hv2⟩⟩,nx2,fun q hq=>?_⟩
 ·rw [zJi,List.length_append]
  exact(a2'.setO (by omega) _).acc
 ·rcases List.mem_append.1 hq with hq | hq
  ·exact c.ok q hq
  ·rw [List.mem_singleton.1 hq]
   exact⟨t,hw,h0,h1,rfl,rfl,l0,l1⟩
theorem zFe {a n:Nat}:List.replicate n ((a:Int)+1)=lw (List.replicate n a):=by simp [lw]
theorem okFca:okF Tryz.prog 90=true:=by kernel_rfl
theorem okFcb:okF Tryz.prog 92=true:=by kernel_rfl
theorem zJz {o c m:Nat} {cs news:List PV} {x:PV} (hx:plen x=some m) (hm:m≠0) (hf:qf 1 h x m=some news) (hl:cs.length=c) (hb:c+m≤1000):
  zZ 1 8 h (.fz true (.sl o 0 c (.known c)) c cs) x=some (.sl h.next 0 (c+m) (.grown 1),h.new (cs++news)):=by
 rw [qL,hx];simp only [Option.bind_some];rw [if_neg hm,hf];simp only [Option.bind_some];simp only [pgrow];rw [if_pos ⟨by omega,.inl trivial,by omega,by omega,by omega⟩]
theorem zMh {s c:Nat} {cs cells:List PV} {w:Bool} {a:AV} (ho:h.obj s=some cs) (h1:cs.length=1) (hc:c≠0) (hl:cells.length=c) (hb:c≤1000):
  zZ 1 8 h (.sl s 0 1 (.known 1)) (.fz w a c cells)=some (.sl h.next 0 (1+c) (.grown 1),h.new (cs++cells)):=by
 rw [qL,QY];simp only [Option.bind_some];rw [if_neg hc,Zi,if_neg hc,if_pos ⟨Nat.le_refl _,by omega,by omega⟩]
 simp only [Option.bind_some];rw [Qe,if_neg (by omega),if_pos ⟨by omega,by omega⟩,zb ho,if_pos (by omega),List.drop_zero,List.take_of_length_le (by omega)]
 rw [Nat.mul_one,List.take_of_length_le (by omega)]
 rfl
abbrev prW (O:List Int) (P:List (List Int)) (C:List (List (List Int))) (w:List Nat) (t:Nat):CW:=(w,stepf O P C w 0,stepf O P C w t)
def T1 (O:List Int) (P:List (List Int)) (C:List (List (List Int))) (L:List CW) (i j k:Nat):Prop:=∀i' j' k',i'<j'→j'<k'→k'<O.length→(i'<i∨(i'=i∧(j'<j∨(j'=j∧k'<k))))→prW O P C [k',j',i'] 1∈L
def T2 (O:List Int) (P:List (List Int)) (C:List (List (List Int))) (L:List CW) (i j:Nat):Prop:=∀i' j',i'<j'→j'<O.length→(i'<i∨(i'=i∧j'<j))→prW O P C (List.replicate (nx O j') j'++[i']) (nx O j'-1)∈L
def T3 (O:List Int) (P:List (List Int)) (C:List (List (List Int))) (L:List CW) (i j:Nat):Prop:=∀i' j',i'<j'→j'<O.length→(i'<i∨(i'=i∧j'<j))→prW O P C (j'::List.replicate (nx O i') i') 1∈L
def T4 (O:List Int) (P:List (List Int)) (C:List (List (List Int))) (L:List CW) (i:Nat):Prop:=∀i',i'<O.length→i'<i→prW O P C (List.replicate (nx O i'+1) i') 1∈L
theorem zCR {L:List CW} {i:Nat} (s:Shp O P C) (hs:PtrG σ sp vO vP vC) (hR:IsPr vO vP vC O P C) (c:CS σ sp O P C L h) (hL:L.length≤1000) (hc:Crit O i w t) (hl:w.length≤10) (hvw:FI vw (lw w))
  (hk:∀h',CS σ sp O P C (L++[prW O P C w t]) h'→K (.tup []) h'):zA Tryz.prog 90 [vw,.int .i64 t,.ptr (σ.next+1) 0,.ptr σ.next 0] h K:=by
 obtain⟨h1,h2,h3⟩:=hc.ok s;exact zIN s hs hR c hL (h1.mono (Nat.zero_le _)) hl h2 h3 hvw hk
set_option maxHeartbeats 1600000 in
theorem zC7 (s:Shp O P C) (hs:PtrG σ sp vO vP vC) (hR:IsPr vO vP vC O P C)
  (hk:∀a L rows,All2 FI3w rows L→(∀q∈L,CPok O P C q)→(∀i w t,Crit O i w t→prW O P C w t∈L)→L.length≤1000→K (.fz true a L.length (fl3w rows)) σ):zA Tryz.prog 39 [.ptr sp 0] σ K:=by
 have h6:=s.le;have hR0:=hR;have hs0:=hs;obtain⟨wO,aO,rfl⟩:=hR.O;have e0:σ.rd1 sp 0=some (.fz wO aO O.length (pis O)):=by rw [zH hs.obj];rfl
 have hspl:=hs.lt;have gO:∀{a:Nat},a<O.length→(pis O)[a]? = some (.int .i64 ((nx O a:Nat):Int))∧2≤nx O a∧nx O a≤7:=fun {a} ha=>by
  have h3:=s.pr a ha;refine⟨?_,by show 2≤(at_ O a).toNat∧(at_ O a).toNat≤7;omega⟩
  rw [zM,gi ha];show some (PV.int .i64 O[a])=_;rw [←at_eq ha]
  congr 2
  show _=((at_ O a).toNat:Int);omega
 refine zA.pwf fun wf=>zA.gh ?_
 have hf1:=okFca;have hf2:=okFcb;refine zR mix Tryz.func39 cf39 rfl ?_;dsimp only [if39,qI,eI,qD,eD,mI0,kI0,lI0,fI0,xI0,bI0,cI0,sI0,pI0,mD0,lD0,fD0,xD0,pD0,I0,zI0,R0,S0];have n1:¬sp=σ.next:=by omega
 have n2:¬sp=σ.next+1:=by omega
 have n3:¬σ.next=σ.next+1:=by omega
 have z1:ofAVs [AV.nils]=[.fz true .nils 0 []]:=rfl;simp only [pwA,seval,-iQ0,e0,n1,n2,n3,z1];have c0:CS σ sp O P C [] ((σ.new [.ptr sp 0]).new [.fz true .nils 0 []]):=by
  refine⟨(zB σ _).new _,?_,⟨.fz true .nils 0 [],[],?_,PAcc.nil _ _ _,All2.nil _⟩,Nat.le_refl _,fun q hq=>by cases hq⟩
  ·rw [zD,if_neg (by show ¬σ.next=σ.next+1;omega),zD,if_pos rfl]
  ·rw [zD];exact if_pos rfl
 have wi:∀{a:Nat},a<10→IntKind.i64.wrap ((a:Int)+1+1)=((a+1:Nat):Int)+1:=fun {a} ha=>by rw [wrap64 (by omega) (by omega)];omega
 have hbox:∀{L:List CW} {g:PHeap},CS σ sp O P C L g→g.rd1 σ.next 0=some (.ptr sp 0)∧g.rd1 sp 0=some (.fz wO aO O.length (pis O))∧σ.next+2≤g.next:=fun {L g} c=>⟨by rw [zH c.pb];rfl,by rw [zH (hs0.keep c.keep).obj];rfl,c.nx⟩
 have wm1:∀{a:Nat},a<10→IntKind.i64.wrap ((a:Int)+1-1)=(a:Int):=fun {a} ha=>by rw [wrap64 (by omega) (by omega)];omega
 have wq1:∀{a:Nat},1≤a→a<10→IntKind.i64.wrap ((a:Int)-1)=((a-1:Nat):Int):=fun {a} h1 ha=>by rw [wrap64 (by omega) (by omega)];omega
 have wp1:∀{a:Nat},a<10→IntKind.i64.wrap ((a:Int)+1)=((a+1:Nat):Int):=fun {a} ha=>by rw [wrap64 (by omega) (by omega)];omega
 -- three letters
 have hbox:∀{L:List CW} {g:PHeap},CS σ sp O P C L g→g.rd1 σ.next 0=some (.ptr sp 0)∧g.rd1 sp 0=some (.fz wO aO O.length (pis O))∧σ.next+2≤g.next:=fun {L g} c=>⟨by rw [zH c.pb];rfl,by rw [zH (hs0.keep c.keep).obj];rfl,c.nx⟩
 have wm1:∀{a:Nat},a<10→IntKind.i64.wrap ((a:Int)+1-1)=(a:Int):=fun {a} ha=>by rw [wrap64 (by omega) (by omega)];omega
 have wq1:∀{a:Nat},1≤a→a<10→IntKind.i64.wrap ((a:Int)-1)=((a-1:Nat):Int):=fun {a} h1 ha=>by rw [wrap64 (by omega) (by omega)];omega
 have wp1:∀{a:Nat},a<10→IntKind.i64.wrap ((a:Int)+1)=((a+1:Nat):Int):=fun {a} ha=>by rw [wrap64 (by omega) (by omega)];omega
 -- three letters
 have hbox:∀{L:List CW} {g:PHeap},CS σ sp O P C L g→g.rd1 σ.next 0=some (.ptr sp 0)∧g.rd1 sp 0=some (.fz wO aO O.length (pis O))∧σ.next+2≤g.next:=fun {L g} c=>⟨by rw [zH c.pb];rfl,by rw [zH (hs0.keep c.keep).obj];rfl,c.nx⟩
 have wm1:∀{a:Nat},a<10→IntKind.i64.wrap ((a:Int)+1-1)=(a:Int):=fun {a} ha=>by rw [wrap64 (by omega) (by omega)];omega
 have wq1:∀{a:Nat},1≤a→a<10→IntKind.i64.wrap ((a:Int)-1)=((a-1:Nat):Int):=fun {a} h1 ha=>by rw [wrap64 (by omega) (by omega)];omega
 have wp1:∀{a:Nat},a<10→IntKind.i64.wrap ((a:Int)+1)=((a+1:Nat):Int):=fun {a} ha=>by rw [wrap64 (by omega) (by omega)];omega
 -- three letters
 have hbox:∀{L:List CW} {g:PHeap},CS σ sp O P C L g→g.rd1 σ.next 0=some (.ptr sp 0)∧g.rd1 sp 0=some (.fz wO aO O.length (pis O))∧σ.next+2≤g.next:=fun {L g} c=>⟨by rw [zH c.pb];rfl,by rw [zH (hs0.keep c.keep).obj];rfl,c.nx⟩
 have wm1:∀{a:Nat},a<10→IntKind.i64.wrap ((a:Int)+1-1)=(a:Int):=fun {a} ha=>by rw [wrap64 (by omega) (by omega)];omega
 have wq1:∀{a:Nat},1≤a→a<10→IntKind.i64.wrap ((a:Int)-1)=((a-1:Nat):Int):=fun {a} h1 ha=>by rw [wrap64 (by omega) (by omega)];omega
 have wp1:∀{a:Nat},a<10→IntKind.i64.wrap ((a:Int)+1)=((a+1:Nat):Int):=fun {a} ha=>by rw [wrap64 (by omega) (by omega)];omega
 -- three letters
 have hbox:∀{L:List CW} {g:PHeap},CS σ sp O P C L g→g.rd1 σ.next 0=some (.ptr sp 0)∧g.rd1 sp 0=some (.fz wO aO O.length (pis O))∧σ.next+2≤g.next:=fun {L g} c=>⟨by rw [zH c.pb];rfl,by rw [zH (hs0.keep c.keep).obj];rfl,c.nx⟩
 have wm1:∀{a:Nat},a<10→IntKind.i64.wrap ((a:Int)+1-1)=(a:Int):=fun {a} ha=>by rw [wrap64 (by omega) (by omega)];omega
 have wq1:∀{a:Nat},1≤a→a<10→IntKind.i64.wrap ((a:Int)-1)=((a-1:Nat):Int):=fun {a} h1 ha=>by rw [wrap64 (by omega) (by omega)];omega
 have wp1:∀{a:Nat},a<10→IntKind.i64.wrap ((a:Int)+1)=((a+1:Nat):Int):=fun {a} ha=>by rw [wrap64 (by omega) (by omega)];omega
 -- three letters
 have hbox:∀{L:List CW} {g:PHeap},CS σ sp O P C L g→g.rd1 σ.next 0=some (.ptr sp 0)∧g.rd1 sp 0=some (.fz wO aO O.length (pis O))∧σ.next+2≤g.next:=fun {L g} c=>⟨by rw [zH c.pb];rfl,by rw [zH (hs0.keep c.keep).obj];rfl,c.nx⟩
 have wm1:∀{a:Nat},a<10→IntKind.i64.wrap ((a:Int)+1-1)=(a:Int):=fun {a} ha=>by rw [wrap64 (by omega) (by omega)];omega
 have wq1:∀{a:Nat},1≤a→a<10→IntKind.i64.wrap ((a:Int)-1)=((a-1:Nat):Int):=fun {a} h1 ha=>by rw [wrap64 (by omega) (by omega)];omega
 have wp1:∀{a:Nat},a<10→IntKind.i64.wrap ((a:Int)+1)=((a+1:Nat):Int):=fun {a} ha=>by rw [wrap64 (by omega) (by omega)];omega
 -- three letters
 have hbox:∀{L:List CW} {g:PHeap},CS σ sp O P C L g→g.rd1 σ.next 0=some (.ptr sp 0)∧g.rd1 sp 0=some (.fz wO aO O.length (pis O))∧σ.next+2≤g.next:=fun {L g} c=>⟨by rw [zH c.pb];rfl,by rw [zH (hs0.keep c.keep).obj];rfl,c.nx⟩
 have wm1:∀{a:Nat},a<10→IntKind.i64.wrap ((a:Int)+1-1)=(a:Int):=fun {a} ha=>by rw [wrap64 (by omega) (by omega)];omega
 have wq1:∀{a:Nat},1≤a→a<10→IntKind.i64.wrap ((a:Int)-1)=((a-1:Nat):Int):=fun {a} h1 ha=>by rw [wrap64 (by omega) (by omega)];omega
 have wp1:∀{a:Nat},a<10→IntKind.i64.wrap ((a:Int)+1)=((a+1:Nat):Int):=fun {a} ha=>by rw [wrap64 (by omega) (by omega)];omega
 -- three letters
 refine zG (fun m us h'=>∃(i:Nat) (L:List CW),i≤O.length∧m=O.length-i∧us=[.ptr σ.next 0,.ptr (σ.next+1) 0,.clo 90 [] [.ptr (σ.next+1) 0,.ptr σ.next 0],.int .i64 O.length,.clo 92 [] [],.int .i64 ((i:Int)+1)]∧CS σ sp O P C L h'∧L.length≤36*i∧T1 O P C L i 0 0) O.length ?_ ?_
 ·exact⟨0,[],by omega,by omega,rfl,c0,by simp,fun i' j' k' h1 h2 h3 h4=>by omega⟩
 rintro m us h' ⟨i,L,hi,rfl,rfl,c,hL,ht⟩
 simp only [pwA,seval,-iQ0];refine iteI (fun hlt=>?_) fun hge=>?_
 ·have hi1:i<O.length:=by omega
  simp only [pwA,seval,-iQ0,wi (show i<10 by omega)]
  refine zG (fun m us h'=>∃(j:Nat) (L:List CW),j≤O.length∧m=O.length-j∧us=[.ptr σ.next 0,.ptr (σ.next+1) 0,.clo 90 [] [.ptr (σ.next+1) 0,.ptr σ.next 0],.int .i64 O.length,.clo 92 [] [],.int .i64 ((i:Int)+1),.int .i64 ((j:Int)+1)]∧CS σ sp O P C L h'∧L.length≤36*i+6*j∧i<j∧T1 O P C L i j 0) (O.length-(i+1)) ?_ ?_
  ·exact⟨i+1,L,by omega,by omega,rfl,c,by omega,by omega,fun i' j' k' h1 h2 h3 h4=>ht i' j' k' h1 h2 h3 (by omega)⟩
  clear hL ht c
  rintro m us h' ⟨j,L,hj,rfl,rfl,c,hL,hij,ht⟩
  simp only [pwA,seval,-iQ0];refine iteI (fun hlj=>?_) fun hgj=>?_
  ·have hj1:j<O.length:=by omega
   simp only [pwA,seval,-iQ0,wi (show j<10 by omega)]
   refine zG (fun m us h'=>∃(k:Nat) (L:List CW),k≤O.length∧m=O.length-k∧us=[.ptr σ.next 0,.ptr (σ.next+1) 0,.clo 90 [] [.ptr (σ.next+1) 0,.ptr σ.next 0],.int .i64 O.length,.clo 92 [] [],.int .i64 ((i:Int)+1),.int .i64 ((j:Int)+1),.int .i64 ((k:Int)+1)]∧CS σ sp O P C L h'∧L.length≤36*i+6*j+k∧j<k∧T1 O P C L i j k) (O.length-(j+1)) ?_ ?_
   ·exact⟨j+1,L,by omega,by omega,rfl,c,by omega,by omega,fun i' j' k' h1 h2 h3 h4=>ht i' j' k' h1 h2 h3 (by omega)⟩
   clear hL ht c
   rintro m us h' ⟨k,L,hk',rfl,rfl,c,hL,hjk,ht⟩
   simp only [pwA,seval,-iQ0];refine iteI (fun hlk=>?_) fun hgk=>?_
   ·have hk1:k<O.length:=by omega
    obtain⟨b1,b2,b3⟩:=hbox c;simp only [pwA,seval,-iQ0,hf1,hf2];have cap3:capOK (.known 3) 3=true:=rfl;have m1:¬σ.next+1=h'.next:=by omega
    have m2:¬σ.next=h'.next:=by omega
    refine zA.frz (s:=h'.next) (cs:=pis (lw [k,j,i])) (by rw [zD,if_pos rfl];rfl) (zO _ _) fun o=>?_
    simp only [sbs,sb,cap3,and_self,if_true,nm_eq,m1,m2,false_and,if_false];refine zCR (t:=1) s hs0 hR0 (c.move ((zB h' _).kill (Nat.le_refl _))) (by omega) (Crit.tri hij hjk hk1) (by simp) ⟨true,_,rfl⟩ fun h2 c2=>?_
    simp only [pwA,seval,-iQ0,wi (show k<10 by omega)]
    exact⟨_,by omega,k+1,_,by omega,rfl,rfl,c2,by simp only [List.length_append,List.length_cons,List.length_nil];omega,by omega,fun i' j' k' h1 h2 h3 h4=>by
     by_cases e:i'=i∧j'=j∧k'=k
     ·obtain⟨rfl,rfl,rfl⟩:=e
      exact List.mem_append_right _ (List.mem_singleton.2 rfl)
     ·exact List.mem_append_left _ (ht i' j' k' h1 h2 h3 (by omega))⟩
   ·obtain rfl:k=O.length:=by omega
    simp only [pwA,seval,-iQ0,wi (show j<10 by omega)]
    exact⟨_,by omega,j+1,L,by omega,rfl,rfl,c,by omega,by omega,fun i' j' k' h1 h2 h3 h4=>ht i' j' k' h1 h2 h3 (by omega)⟩
  ·obtain rfl:j=O.length:=by omega
   simp only [pwA,seval,-iQ0,wi (show i<10 by omega)]
   exact⟨_,by omega,i+1,L,by omega,rfl,rfl,c,by omega,fun i' j' k' h1 h2 h3 h4=>ht i' j' k' h1 h2 h3 (by omega)⟩
 obtain rfl:i=O.length:=by omega
 have hT1:∀i' j' k',i'<j'→j'<k'→k'<O.length→prW O P C [k',j',i'] 1∈L:=fun i' j' k' h1 h2 h3=>ht i' j' k' h1 h2 h3 (.inl (by omega))
 clear ht hge hi;simp only [pwA,seval,-iQ0]
 -- powers ahead of a letter
 refine zG (fun m us h'=>∃(i:Nat) (L:List CW),i≤O.length∧m=O.length-i∧us=[.ptr σ.next 0,.ptr (σ.next+1) 0,.clo 90 [] [.ptr (σ.next+1) 0,.ptr σ.next 0],.int .i64 O.length,.clo 92 [] [],.int .i64 ((i:Int)+1)]∧CS σ sp O P C L h'∧L.length≤216+6*i∧(∀i' j' k',i'<j'→j'<k'→k'<O.length→prW O P C [k',j',i'] 1∈L)∧T2 O P C L i 0) O.length ?_ ?_
 ·exact⟨0,L,by omega,by omega,rfl,c,by omega,hT1,fun i' j' h1 h2 h4=>by omega⟩
 clear hT1 hL c
 rintro m us h' ⟨i,L,hi,rfl,rfl,c,hL,hT1,ht⟩
 simp only [pwA,seval,-iQ0];refine iteI (fun hlt=>?_) fun hge=>?_
 ·have hi1:i<O.length:=by omega
  simp only [pwA,seval,-iQ0,wi (show i<10 by omega)]
  refine zG (fun m us h'=>∃(j:Nat) (L:List CW),j≤O.length∧m=O.length-j∧us=[.ptr σ.next 0,.ptr (σ.next+1) 0,.clo 90 [] [.ptr (σ.next+1) 0,.ptr σ.next 0],.int .i64 O.length,.clo 92 [] [],.int .i64 ((i:Int)+1),.int .i64 ((j:Int)+1)]∧CS σ sp O P C L h'∧L.length≤216+6*i+j∧i<j∧(∀i' j' k',i'<j'→j'<k'→k'<O.length→prW O P C [k',j',i'] 1∈L)∧T2 O P C L i j) (O.length-(i+1)) ?_ ?_
  ·exact⟨i+1,L,by omega,by omega,rfl,c,by omega,by omega,hT1,fun i' j' h1 h2 h4=>ht i' j' h1 h2 (by omega)⟩
  clear hL ht c hT1
  rintro m us h' ⟨j,L,hj,rfl,rfl,c,hL,hij,hT1,ht⟩
  simp only [pwA,seval,-iQ0];refine iteI (fun hlj=>?_) fun hgj=>?_
  ·have hj1:j<O.length:=by omega
   obtain⟨b1,b2,b3⟩:=hbox c;obtain⟨g1,g2,g3⟩:=gO hj1;have jI:(j:Int)<(O.length:Int):=by omega
   have m1:¬σ.next+1=h'.next:=by omega
   have m2:¬σ.next=h'.next:=by omega
   have m3:¬sp=h'.next:=by omega
   have m6:¬sp=h'.next+1:=by omega
   have m7:¬σ.next=h'.next+1:=by omega
   have fin:∀{K':PV→PHeap→Prop},(∀h2,CS σ sp O P C (L++[prW O P C (List.replicate (nx O j) j++[i]) (nx O j-1)]) h2→K' (.tup []) h2)→zA Tryz.prog 90 [.sl (h'.next+1) 0 (nx O j+1) (.grown 1),.int .i64 ((nx O j-1:Nat):Int),.ptr (σ.next+1) 0,.ptr σ.next 0] ((h'.new [PV.int .i64 ((i:Int)+1)]).new (pis (List.replicate (nx O j) ((j:Int)+1))++[PV.int .i64 ((i:Int)+1)])) K':=fun {K'} hk'=>by
    have kk:Keep h' ((h'.new [PV.int .i64 ((i:Int)+1)]).new (pis (List.replicate (nx O j) ((j:Int)+1))++[PV.int .i64 ((i:Int)+1)])):=(zB h' _).new _;have oo:((h'.new [PV.int .i64 ((i:Int)+1)]).new (pis (List.replicate (nx O j) ((j:Int)+1))++[PV.int .i64 ((i:Int)+1)])).obj (h'.next+1)=some (pis (lw (List.replicate (nx O j) j++[i]))):=by
     rw [zD];refine(if_pos rfl).trans ?_;rw [zBv,←zFe,←qP];rfl
    generalize (h'.new [PV.int .i64 ((i:Int)+1)]).new (pis (List.replicate (nx O j) ((j:Int)+1))++[PV.int .i64 ((i:Int)+1)])=H at *
    have capg:capOK (.grown 1) (nx O j+1)=true:=rfl;have m4:¬σ.next+1=h'.next+1:=by omega
    have m5:¬σ.next=h'.next+1:=by omega
    refine zA.frz oo (zO _ _) fun o=>?_
    simp only [sbs,sb,capg,and_self,if_true,nm_eq,m4,m5,false_and,if_false];refine zCR (t:=nx O j-1) s hs0 hR0 (c.move (kk.kill (Nat.le_succ _))) (by omega) (Crit.pow hij hj1) (by rw [List.length_append,List.length_replicate];show nx O j+1≤10;omega) ⟨true,.sl o 0 (nx O j+1) (.grown 1),by rw [zk,List.length_append,List.length_replicate];rfl⟩ hk'
   have hap:∀o,zZ 1 8 (h'.new [PV.int .i64 ((i:Int)+1)]) (.fz true (.sl o 0 (nx O j) (.known (nx O j))) (nx O j) (pis (List.replicate (nx O j) ((j:Int)+1)))) (.sl h'.next 0 1 (.known 1))=some (.sl (h'.next+1) 0 (nx O j+1) (.grown 1),(h'.new [PV.int .i64 ((i:Int)+1)]).new (pis (List.replicate (nx O j) ((j:Int)+1))++[PV.int .i64 ((i:Int)+1)])):=fun o=>
    zJz (m:=1) rfl (by omega) (by rw [qM,if_neg (by omega),if_pos (Nat.le_refl _),QX,if_pos rfl];rfl) (by rw [zI,List.length_replicate]) (by omega)
   have nxt:∀{h2:PHeap},CS σ sp O P C (L++[prW O P C (List.replicate (nx O j) j++[i]) (nx O j-1)]) h2→T2 O P C (L++[prW O P C (List.replicate (nx O j) j++[i]) (nx O j-1)]) i (j+1):=fun {h2} _ i' j' h1 h2 h4=>by
    by_cases e:i'=i∧j'=j
    ·obtain⟨rfl,rfl⟩:=e
     exact List.mem_append_right _ (List.mem_singleton.2 rfl)
    ·exact List.mem_append_left _ (ht i' j' h1 h2 (by omega))
   simp only [pwA,seval,-iQ0,hf1,hf2,b1,b2,m1,m2,m3,wm1 (show j<10 by omega),wq1 (show 1≤nx O j by omega) (show nx O j<10 by omega),hj1,jI,g1,qx,TVp_e,TVp_q,zt,zq,zK,zN]
   refine⟨?_,?_⟩
   ·refine Zw (by omega) fun o=>?_
    simp only [pwA,seval,-iQ0,hf1,hf2,b1,b2,m1,m2,m3,m6,m7,hj1,jI,g1,hap o,qx,TVp_e,TVp_q,zt,zq,zK,zN];refine fin fun h2 c2=>?_
    obtain⟨d1,d2,d3⟩:=hbox c2;simp only [pwA,seval,-iQ0,wi (show j<10 by omega),qx,TVp_e,TVp_q,zt,zq,zK,zN]
    exact⟨_,by omega,j+1,_,by omega,rfl,rfl,c2,by simp only [List.length_append,List.length_cons,List.length_nil];omega,by omega,fun i' j' k' h1 h2 h3=>List.mem_append_left _ (hT1 i' j' k' h1 h2 h3),nxt c2⟩
   ·refine Zw (by omega) fun o=>?_
    simp only [pwA,seval,-iQ0,hf1,hf2,b1,b2,m1,m2,m3,m6,m7,hj1,jI,g1,hap o,qx,TVp_e,TVp_q,zt,zq,zK,zN];refine fin fun h2 c2=>?_
    obtain⟨d1,d2,d3⟩:=hbox c2;simp only [pwA,seval,-iQ0,wi (show j<10 by omega),qx,TVp_e,TVp_q,zt,zq,zK,zN]
    exact⟨_,by omega,j+1,_,by omega,rfl,rfl,c2,by simp only [List.length_append,List.length_cons,List.length_nil];omega,by omega,fun i' j' k' h1 h2 h3=>List.mem_append_left _ (hT1 i' j' k' h1 h2 h3),nxt c2⟩
  ·obtain rfl:j=O.length:=by omega
   simp only [pwA,seval,-iQ0,wi (show i<10 by omega)]
   exact⟨_,by omega,i+1,L,by omega,rfl,rfl,c,by omega,hT1,fun i' j' h1 h2 h4=>ht i' j' h1 h2 (by omega)⟩
 obtain rfl:i=O.length:=by omega
 have hT2:∀i' j',i'<j'→j'<O.length→prW O P C (List.replicate (nx O j') j'++[i']) (nx O j'-1)∈L:=fun i' j' h1 h2=>ht i' j' h1 h2 (.inl (by omega))
 clear ht hge hi;simp only [pwA,seval,-iQ0]
 -- a letter ahead of a power
 refine zG (fun m us h'=>∃(i:Nat) (L:List CW),i≤O.length∧m=O.length-i∧us=[.ptr σ.next 0,.ptr (σ.next+1) 0,.clo 90 [] [.ptr (σ.next+1) 0,.ptr σ.next 0],.int .i64 O.length,.clo 92 [] [],.int .i64 ((i:Int)+1)]∧CS σ sp O P C L h'∧L.length≤252+6*i∧(∀i' j' k',i'<j'→j'<k'→k'<O.length→prW O P C [k',j',i'] 1∈L)∧(∀i' j',i'<j'→j'<O.length→prW O P C (List.replicate (nx O j') j'++[i']) (nx O j'-1)∈L)∧T3 O P C L i 0) O.length ?_ ?_
 ·exact⟨0,L,by omega,by omega,rfl,c,by omega,hT1,hT2,fun i' j' h1 h2 h4=>by omega⟩
 clear hT1 hT2 hL c
 rintro m us h' ⟨i,L,hi,rfl,rfl,c,hL,hT1,hT2,ht⟩
 simp only [pwA,seval,-iQ0];refine iteI (fun hlt=>?_) fun hge=>?_
 ·have hi1:i<O.length:=by omega
  simp only [pwA,seval,-iQ0,wi (show i<10 by omega)]
  refine zG (fun m us h'=>∃(j:Nat) (L:List CW),j≤O.length∧m=O.length-j∧us=[.ptr σ.next 0,.ptr (σ.next+1) 0,.clo 90 [] [.ptr (σ.next+1) 0,.ptr σ.next 0],.int .i64 O.length,.clo 92 [] [],.int .i64 ((i:Int)+1),.int .i64 ((j:Int)+1)]∧CS σ sp O P C L h'∧L.length≤252+6*i+j∧i<j∧(∀i' j' k',i'<j'→j'<k'→k'<O.length→prW O P C [k',j',i'] 1∈L)∧(∀i' j',i'<j'→j'<O.length→prW O P C (List.replicate (nx O j') j'++[i']) (nx O j'-1)∈L)∧T3 O P C L i j) (O.length-(i+1)) ?_ ?_
  ·exact⟨i+1,L,by omega,by omega,rfl,c,by omega,by omega,hT1,hT2,fun i' j' h1 h2 h4=>ht i' j' h1 h2 (by omega)⟩
  clear hL ht c hT1 hT2
  rintro m us h' ⟨j,L,hj,rfl,rfl,c,hL,hij,hT1,hT2,ht⟩
  simp only [pwA,seval,-iQ0];refine iteI (fun hlj=>?_) fun hgj=>?_
  ·have hj1:j<O.length:=by omega
   obtain⟨b1,b2,b3⟩:=hbox c;obtain⟨g1,g2,g3⟩:=gO hi1;have iI:(i:Int)<(O.length:Int):=by omega
   have m1:¬σ.next+1=h'.next:=by omega
   have m2:¬σ.next=h'.next:=by omega
   have m3:¬sp=h'.next:=by omega
   have m6:¬sp=h'.next+1:=by omega
   have m7:¬σ.next=h'.next+1:=by omega
   simp only [pwA,seval,-iQ0,hf1,hf2,b1,b2,m1,m2,m3,wm1 (show i<10 by omega),hi1,iI,g1]
   refine Zw (by omega) fun o=>?_
   have hap:=zMh (h:=h'.new [PV.int .i64 ((j:Int)+1)]) (s:=h'.next) (c:=nx O i) (cs:=[PV.int .i64 ((j:Int)+1)]) (cells:=pis (List.replicate (nx O i) ((i:Int)+1))) (w:=true) (a:=.sl o 0 (nx O i) (.known (nx O i))) (by rw [zD,if_pos rfl]) rfl (by omega) (by rw [zI,List.length_replicate]) (by omega)
   simp only [pwA,seval,-iQ0,hf1,hf2,m1,m2,m3,hap];have kk:Keep h' ((h'.new [PV.int .i64 ((j:Int)+1)]).new (PV.int .i64 ((j:Int)+1)::pis (List.replicate (nx O i) ((i:Int)+1)))):=(zB h' _).new _;have oo:((h'.new [PV.int .i64 ((j:Int)+1)]).new (PV.int .i64 ((j:Int)+1)::pis (List.replicate (nx O i) ((i:Int)+1)))).obj (h'.next+1)=some (pis (lw (j::List.replicate (nx O i) i))):=by
    rw [zD];refine(if_pos rfl).trans ?_;rw [show j::List.replicate (nx O i) i=[j]++List.replicate (nx O i) i from rfl,zBv,←zFe,←qP];rfl
   generalize (h'.new [PV.int .i64 ((j:Int)+1)]).new (PV.int .i64 ((j:Int)+1)::pis (List.replicate (nx O i) ((i:Int)+1)))=H at *
   have capg:capOK (.grown 1) (1+nx O i)=true:=rfl;have m4:¬σ.next+1=h'.next+1:=by omega
   have m5:¬σ.next=h'.next+1:=by omega
   refine zA.frz oo (zO _ _) fun o2=>?_
   simp only [sbs,sb,capg,and_self,if_true,nm_eq,m4,m5,false_and,if_false];refine zCR (t:=1) s hs0 hR0 (c.move (kk.kill (Nat.le_succ _))) (by omega) (Crit.inn hij hj1) (by rw [List.length_cons,List.length_replicate];omega) ⟨true,.sl o2 0 (1+nx O i) (.grown 1),by rw [zk,List.length_cons,List.length_replicate,Nat.add_comm 1]⟩ fun h2 c2=>?_
   simp only [pwA,seval,-iQ0,wi (show j<10 by omega)]
   exact⟨_,by omega,j+1,_,by omega,rfl,rfl,c2,by simp only [List.length_append,List.length_cons,List.length_nil];omega,by omega,fun i' j' k' h1 h2 h3=>List.mem_append_left _ (hT1 i' j' k' h1 h2 h3),fun i' j' h1 h2=>List.mem_append_left _ (hT2 i' j' h1 h2),fun i' j' h1 h2 h4=>by
    by_cases e:i'=i∧j'=j
    ·obtain⟨rfl,rfl⟩:=e
     exact List.mem_append_right _ (List.mem_singleton.2 rfl)
    ·exact List.mem_append_left _ (ht i' j' h1 h2 (by omega))⟩
  ·obtain rfl:j=O.length:=by omega
   simp only [pwA,seval,-iQ0,wi (show i<10 by omega)]
   exact⟨_,by omega,i+1,L,by omega,rfl,rfl,c,by omega,hT1,hT2,fun i' j' h1 h2 h4=>ht i' j' h1 h2 (by omega)⟩
 obtain rfl:i=O.length:=by omega
 have hT3:∀i' j',i'<j'→j'<O.length→prW O P C (j'::List.replicate (nx O i') i') 1∈L:=fun i' j' h1 h2=>ht i' j' h1 h2 (.inl (by omega))
 clear ht hge hi;simp only [pwA,seval,-iQ0]
 -- one letter more than a power
 refine zG (fun m us h'=>∃(i:Nat) (L:List CW),i≤O.length∧m=O.length-i∧us=[.ptr σ.next 0,.ptr (σ.next+1) 0,.clo 90 [] [.ptr (σ.next+1) 0,.ptr σ.next 0],.int .i64 O.length,.clo 92 [] [],.int .i64 ((i:Int)+1)]∧CS σ sp O P C L h'∧L.length≤288+i∧(∀i' j' k',i'<j'→j'<k'→k'<O.length→prW O P C [k',j',i'] 1∈L)∧(∀i' j',i'<j'→j'<O.length→prW O P C (List.replicate (nx O j') j'++[i']) (nx O j'-1)∈L)∧(∀i' j',i'<j'→j'<O.length→prW O P C (j'::List.replicate (nx O i') i') 1∈L)∧T4 O P C L i) O.length ?_ ?_
 ·exact⟨0,L,by omega,by omega,rfl,c,by omega,hT1,hT2,hT3,fun i' h1 h2=>by omega⟩
 clear hT1 hT2 hT3 hL c
 rintro m us h' ⟨i,L,hi,rfl,rfl,c,hL,hT1,hT2,hT3,ht⟩
 simp only [pwA,seval,-iQ0];refine iteI (fun hlt=>?_) fun hge=>?_
 ·have hi1:i<O.length:=by omega
  obtain⟨b1,b2,b3⟩:=hbox c;obtain⟨g1,g2,g3⟩:=gO hi1;have iI:(i:Int)<(O.length:Int):=by omega
  simp only [pwA,seval,-iQ0,hf1,hf2,b1,b2,wm1 (show i<10 by omega),wp1 (show nx O i<10 by omega),hi1,iI,g1]
  refine Zw (c:=nx O i+1) (by omega) fun o=>?_
  simp only [pwA,seval,-iQ0,hf1,hf2];refine zCR (t:=1) s hs0 hR0 c (by omega) (Crit.fix hi1) (by rw [List.length_replicate];omega) ⟨true,.sl o 0 (nx O i+1) (.known (nx O i+1)),by rw [zk,List.length_replicate,←zFe]⟩ fun h2 c2=>?_
  simp only [pwA,seval,-iQ0,wi (show i<10 by omega)]
  exact⟨_,by omega,i+1,_,by omega,rfl,rfl,c2,by simp only [List.length_append,List.length_cons,List.length_nil];omega,fun i' j' k' h1 h2 h3=>List.mem_append_left _ (hT1 i' j' k' h1 h2 h3),fun i' j' h1 h2=>List.mem_append_left _ (hT2 i' j' h1 h2),fun i' j' h1 h2=>List.mem_append_left _ (hT3 i' j' h1 h2),fun i' h1 h2=>by
   by_cases e:i'=i
   ·subst e
    exact List.mem_append_right _ (List.mem_singleton.2 rfl)
   ·exact List.mem_append_left _ (ht i' h1 (by omega))⟩
 obtain rfl:i=O.length:=by omega
 obtain⟨v,rows,o1,a,hall⟩:=c.st;have e1:h'.rd1 (σ.next+1) 0=some v:=by rw [zH o1];rfl
 simp only [pwA,seval,-iQ0,e1];refine(a.low (Nat.le_add_right _ _)).fin c.keep (zK2 hall) fun a=>hk a L rows hall c.ok (fun i w t hc=>?_) (by omega)
 cases hc with
 | tri h1 h2 h3=>exact hT1 _ _ _ h1 h2 h3
 | pow h1 h2=>exact hT2 _ _ h1 h2
 | inn h1 h2=>exact hT3 _ _ h1 h2
 | fix h1=>exact ht _ h1 (by omega)
end Go.Proofs
namespace Go.Grp
end Go.Grp
namespace Go.Proofs
open Go.Ab Go.Lie Go.Grp
variable {σ h:PHeap} {K:PV→PHeap→Prop} {O x:List Int} {P:List (List Int)} {C:List (List (List Int))} {vO vP vC vx vw v:PV} {sp t:Nat} {w u:List Int}
def rvx (x:List Int) (i:Nat):List Int:=(List.range x.length).map fun j=>if j<i∨x.length≤j+i then x.getD (x.length-1-j) 0 else x.getD j 0
theorem ZY (i:Nat):(rvx x i).length=x.length:=by simp [rvx]
theorem Q6 {i j:Nat} (hj:j<x.length):(rvx x i)[j]? = some (if j<i∨x.length≤j+i then x.getD (x.length-1-j) 0 else x.getD j 0):=by
 unfold rvx;rw [List.getElem?_map,List.getElem?_range hj];rfl
theorem zKD:rvx x 0=x:=by
 refine List.ext_getElem? fun j=>?_
 rcases Nat.lt_or_ge j x.length with h|h
 ·rw [Q6 h,if_neg (by omega),List.getD_eq_getElem?_getD,List.getElem?_eq_getElem h];rfl
 ·rw [List.getElem?_eq_none (by rw [ZY];exact h),List.getElem?_eq_none h]
theorem zLV {i:Nat} (h:x.length≤2*i+1):rvx x i=x.reverse:=by
 refine List.ext_getElem? fun j=>?_
 rcases Nat.lt_or_ge j x.length with h1|h1
 ·rw [Q6 h1,List.getElem?_reverse h1,List.getElem?_eq_getElem (by omega)]
  congr 1
  split
  ·rw [List.getD_eq_getElem?_getD,List.getElem?_eq_getElem (by omega)];rfl
  ·have e:x.length-1-j=j:=by omega
   simp only [e];rw [List.getD_eq_getElem?_getD,List.getElem?_eq_getElem h1];rfl
 ·rw [List.getElem?_eq_none (by rw [ZY];exact h1),List.getElem?_eq_none (by rw [List.length_reverse];exact h1)]
theorem zKE {i:Nat} (h:2*i+1<x.length):((rvx x i).set i (x.getD (x.length-1-i) 0)).set (x.length-1-i) (x.getD i 0)=rvx x (i+1):=by
 refine List.ext_getElem? fun j=>?_
 rcases Nat.lt_or_ge j x.length with h1|h1
 ·rw [Q6 h1,List.getElem?_set,List.getElem?_set,List.length_set,ZY]
  by_cases e1:x.length-1-i=j
  ·subst e1
   rw [if_pos rfl,if_pos h1,if_pos (by omega),show x.length-1-(x.length-1-i)=i by omega]
  ·rw [if_neg e1]
   by_cases e2:i=j
   ·subst e2
    rw [if_pos rfl,if_pos h1,if_pos (by omega)]
   ·rw [if_neg e2,Q6 h1]
    congr 1
    by_cases e3:j<i∨x.length≤j+i
    ·rw [if_pos e3,if_pos (by omega)]
    ·rw [if_neg e3,if_neg (by omega)]
 ·rw [List.getElem?_eq_none (by simp [ZY];exact h1),List.getElem?_eq_none (by rw [ZY];exact h1)]
theorem zIY {s n:Nat} {cap:Cap} (hs:σ.obj s=some (pis x)) (hn:n=x.length) (hb:x.length≤1000) (hk:K (.tup []) (σ.set s (pis x.reverse))):zA Tryz.prog 231 [.sl s 0 n cap] σ K:=by
 subst hn;have wl:IntKind.i64.wrap ((x.length:Int)-1)=(x.length:Int)-1:=wrap64 (by omega) (by omega)
 refine zC mix Tryz.func231 ?_
 conv=>arg 2;cbv
 refine zF rfl ?_;simp only [pwA,seval,-iQ0,wl];refine zG (fun m vs h'=>∃i:Nat,2*i≤x.length+1∧m=x.length-i∧vs=[.sl s 0 x.length cap,.int .i64 i,.int .i64 ((x.length:Int)-1-(i:Int))]∧h'=σ.set s (pis (rvx x i))) x.length ?_ ?_
 ·exact⟨0,by omega,by omega,by rw [show((x.length:Int)-1-((0:Nat):Int))=(x.length:Int)-1 by omega];rfl,by rw [zKD,QU hs]⟩
 rintro m vs h' ⟨i,hi,rfl,rfl,rfl⟩
 by_cases hlt:2*i+1<x.length
 rotate_left
 ·have hc:¬(i:Int)<(x.length:Int)-1-(i:Int):=by omega
  rw [zLV (by omega)]
  simp only [pwA,seval,-iQ0,hc];exact hk
 have hc:(i:Int)<(x.length:Int)-1-(i:Int):=by omega
 have ej:(x.length:Int)-1-(i:Int)=((x.length-1-i:Nat):Int):=by omega
 have hi1:i<x.length:=by omega
 have hj1:x.length-1-i<x.length:=by omega
 have gi1:(pis (rvx x i))[i]? = some (.int .i64 (x.getD i 0)):=by rw [zM,Q6 hi1,if_neg (by omega)];rfl
 have gj1:(pis (rvx x i))[x.length-1-i]? = some (.int .i64 (x.getD (x.length-1-i) 0)):=by rw [zM,Q6 hj1,if_neg (by omega)];rfl
 have hl1:i+1≤(rvx x i).length:=by rw [ZY];omega
 have hl2:x.length-1-i+1≤(rvx x i).length:=by rw [ZY];omega
 have wi:IntKind.i64.wrap ((i:Int)+1)=((i+1:Nat):Int):=wrapS hi1 (by omega)
 have wj:IntKind.i64.wrap (((x.length-1-i:Nat):Int)-1)=(x.length:Int)-1-((i+1:Nat):Int):=by rw [wrap64 (by omega) (by omega)];omega
 rw [ej]at hc ⊢
 have hjI:((x.length-1-i:Nat):Int)<(x.length:Int):=by omega
 have hiI:(i:Int)<(x.length:Int):=by omega
 have hA:List.take i (pis (rvx x i))++[PV.int .i64 (x.getD (x.length-1-i) 0)]++List.drop (i+1) (pis (rvx x i))=pis ((rvx x i).set i (x.getD (x.length-1-i) 0)):=za (by rw [ZY];exact hi1)
 have hB:List.take (x.length-1-i) (pis ((rvx x i).set i (x.getD (x.length-1-i) 0)))++[PV.int .i64 (x.getD i 0)]++List.drop (x.length-1-i+1) (pis ((rvx x i).set i (x.getD (x.length-1-i) 0)))=pis (rvx x (i+1)):=by
  rw [za (by rw [List.length_set,ZY];exact hj1),zKE hlt]
 have hl3:x.length-1-i+1≤((rvx x i).set i (x.getD (x.length-1-i) 0)).length:=by rw [List.length_set,ZY];omega
 simp only [pwA,seval,-iQ0,hc,hi1,hj1,hjI,hiI,gi1,gj1,hl1,hl2,hl3,hA,hB,zI,wi,wj,zK,zN];exact⟨_,by omega,i+1,by omega,rfl,rfl,rfl⟩
theorem zGv (hk:K (.tup []) σ):zA Tryz.prog 231 [.fz true .nils 0 []] σ K:=by
 have wl:IntKind.i64.wrap (((0:Nat):Int)-1)=-1:=rfl;have wl0:IntKind.i64.wrap ((0:Int)-1)=-1:=rfl;have n0:¬(0:Int) < -1:=by decide
 refine zC mix Tryz.func231 ?_
 conv=>arg 2;cbv
 refine zF rfl ?_;simp only [pwA,seval,-iQ0,wl,wl0];refine zG (fun m vs h'=>vs=[.fz true .nils 0 [],.int .i64 0,.int .i64 (-1)]∧h'=σ) 0 ⟨rfl,rfl⟩ ?_
 rintro m vs h' ⟨rfl,rfl⟩
 simp only [pwA,seval,-iQ0,n0];exact hk
theorem zBd (hl:w.length≤900) (hb:∀l∈w,-1000≤l∧l≤1000) (hv:FI vw w) (hk:∀v,FI v (winv w)→K v σ):zA Tryz.prog 208 [vw] σ K:=by
 obtain⟨w0,a0,rfl⟩:=hv;refine zA.gh ?_;refine zC mix Tryz.func208 ?_
 conv=>arg 2;cbv
 refine zF rfl ?_;simp only [pwA,seval,-iQ0];refine zG (fun m vs h'=>∃(i:Nat) (vL:PV),i≤w.length∧m=w.length-i∧vs=[vL,.fz w0 a0 w.length (pis w),.int .i64 w.length,.int .i64 i]∧Keep σ h'∧PAcc σ.next 1 h' vL i (pis ((w.take i).map fun l=>-l))) w.length ?_ ?_
 ·exact⟨0,_,by omega,by omega,rfl,Keep.refl σ,PAcc.nil _ _ _⟩
 rintro m vs h' ⟨i,vL,hi,rfl,rfl,hkp,ha⟩
 simp only [pwA,seval,-iQ0];refine iteI (fun hlt=>?_) fun hge=>?_
 ·have b1:=hb _ (List.getElem_mem hlt)
  have wn:IntKind.i64.wrap (0-w[i])=-w[i]:=by rw [wrap64 (by omega) (by omega)];omega
  simp only [pwA,seval,-iQ0,hlt,gi hlt,zM,wn];refine PAcc.push (bytes:=8) hkp ha (by omega) (by omega) fun v' h2 k2 a2=>?_
  simp only [pwA,seval,-iQ0,wrapS hlt (by omega:w.length≤4611686018427387904)]
  refine⟨_,by omega,i+1,v',by omega,rfl,rfl,k2,?_⟩
  rw [List.take_succ_eq_append_getElem hlt,List.map_append,←qP];exact a2.acc
 have hie:i=w.length:=by omega
 subst hie;rw [List.take_length]at ha
 rcases ha with ⟨rfl,h1,h2⟩|⟨t,cap,rfl,hcp,q2,q3,q4,q5⟩
 ·have h0:w=[]:=List.eq_nil_of_length_eq_zero h1
  subst h0;simp only [pwA,seval,-iQ0];refine zGv ?_;simp only [pwA,seval,-iQ0];exact Gh.fin0 hkp trivial (hk _ ⟨_,_,rfl⟩)
 ·simp only [pwA,seval,-iQ0]
  refine zIY q2 (by rw [List.length_map]) (by rw [List.length_map];omega) ?_
  simp only [pwA,seval,-iQ0];have e:(List.map (fun l=>-l) w).reverse.length=w.length:=by simp
  exact Gh.finF (s:=t) (hkp.set q4 _) (by rw [zJ,if_pos rfl]) q4 (zO _ _) hcp.ok fun o=>hk _ ⟨true,.sl o 0 w.length cap,by unfold winv;rw [e]⟩
end Go.Proofs
namespace Go.Grp
end Go.Grp
namespace Go.Proofs
open Go.Ab Go.Lie Go.Grp
variable {σ σ0 h h':PHeap} {K:PV→PHeap→Prop} {b s t n k:Nat} {L L':Nat→Nat} {Q Q':Nat→Prop} {len:Nat→Nat} {v vO vP vC c:PV} {x O:List Int} {cs:List PV}
theorem zJV {v:PV} (h:leafy v) (n:Nat):Bel n v:=by
 cases v<;>simp only [leafy]at h<;>trivial
mutual
theorem q9:∀{t:TR},t.ok h b→t.okF h b
 | .leaf v,a=>zJV a 0
 | .nil,_=>trivial
 | .lst s cap kids,a=>⟨a.1,zCI a.2⟩
 | .cut _ _ _ _ _,a=>a.elim
 | .agg kids,a=>zCI (ts:=kids) a
 | .tup kids,a=>zCI (ts:=kids) a
theorem zCI:∀{ts:List TR},TR.oks h b ts→TR.okFs h b ts
 | [],_=>trivial
 | t::ts,a=>⟨q9 a.1,zCI a.2⟩
end
mutual
theorem zAy {b':Nat} (hb:b'≤b):∀{t:TR},t.okF h b→t.okF h b'
 | .leaf v,a=>a
 | .nil,_=>trivial
 | .lst s cap kids,a=>⟨⟨a.1.1,a.1.2.1,Nat.le_trans hb a.1.2.2.1,a.1.2.2.2⟩,zAx hb a.2⟩
 | .cut s off l cap kids,a=>⟨⟨a.1.1,a.1.2.1,Nat.le_trans hb a.1.2.2.1,a.1.2.2.2⟩,zAx hb a.2⟩
 | .agg kids,a=>zAx (ts:=kids) hb a
 | .tup kids,a=>zAx (ts:=kids) hb a
theorem zAx {b':Nat} (hb:b'≤b):∀{ts:List TR},TR.okFs h b ts→TR.okFs h b' ts
 | [],_=>trivial
 | t::ts,a=>⟨zAy hb a.1,zAx hb a.2⟩
end
def RowX (L:Nat→Nat) (h:PHeap) (b k:Nat) (x:List Int) (v:PV):Prop:=∃s cap,v=.sl s 0 x.length cap∧full 1 cap x.length∧h.obj s=some (pis x)∧b≤s∧s<h.next∧L s=k
def RowAt (L:Nat→Nat) (h:PHeap) (b:Nat) (Q:Nat→Prop) (v:PV):Prop:=∃x,Q x.length∧RowX L h b 1 x v
def MatAt (L:Nat→Nat) (h:PHeap) (b:Nat) (Q:Nat→Prop) (k n:Nat) (v:PV):Prop:=∃s cap cs,v=.sl s 0 n cap∧full 1 cap n∧h.obj s=some cs∧cs.length=n∧b≤s∧s<h.next∧L s=k∧∀c∈cs,RowAt L h b Q c
def TenAt (L:Nat→Nat) (h:PHeap) (b:Nat) (Q:Nat→Prop) (n:Nat) (len:Nat→Nat) (v:PV):Prop:=∃s cap cs,v=.sl s 0 n cap∧full 1 cap n∧h.obj s=some cs∧cs.length=n∧b≤s∧s<h.next∧L s=4∧∀i c,cs[i]? = some c→MatAt L h b Q 3 (len i) c
def MatO (L:Nat→Nat) (h:PHeap) (b:Nat) (Q:Nat→Prop) (n:Nat) (v:PV):Prop:=(n=0∧v=.fz true .nils 0 [])∨MatAt L h b Q 2 n v
def TenO (L:Nat→Nat) (h:PHeap) (b:Nat) (Q:Nat→Prop) (n:Nat) (len:Nat→Nat) (v:PV):Prop:=(n=0∧v=.fz true .nils 0 [])∨TenAt L h b Q n len v
theorem RowX.one (a:RowX L h b k x v):v.one=true:=by obtain⟨s,cap,rfl,_⟩:=a;rfl
theorem RowX.cells (a:RowX L h b k x v):v.cells=[v]:=by obtain⟨s,cap,rfl,_⟩:=a;rfl
theorem RowAt.one (a:RowAt L h b Q v):v.one=true:=by obtain⟨x,_,a⟩:=a;exact a.one
theorem MatAt.one (a:MatAt L h b Q k n v):v.one=true:=by obtain⟨s,cap,cs,rfl,_⟩:=a;rfl
theorem MatAt.cells (a:MatAt L h b Q k n v):v.cells=[v]:=by obtain⟨s,cap,cs,rfl,_⟩:=a;rfl
theorem MatO.one (a:MatO L h b Q n v):v.one=true:=by rcases a with ⟨_,rfl⟩ | a;rfl;exact a.one
theorem MatO.cells (a:MatO L h b Q n v):v.cells=[v]:=by rcases a with ⟨_,rfl⟩ | a;rfl;exact a.cells
theorem TenO.one (a:TenO L h b Q n len v):v.one=true:=by rcases a with ⟨_,rfl⟩ | ⟨s,cap,cs,rfl,_⟩<;>rfl
theorem TenO.cells (a:TenO L h b Q n len v):v.cells=[v]:=by rcases a with ⟨_,rfl⟩ | ⟨s,cap,cs,rfl,_⟩<;>rfl
theorem MatO.pLen (a:MatO L h b Q n v):pLen v=some (.int .i64 n):=by rcases a with ⟨rfl,rfl⟩ | ⟨s,cap,cs,rfl,_⟩<;>rfl
theorem TenO.pLen (a:TenO L h b Q n len v):pLen v=some (.int .i64 n):=by rcases a with ⟨rfl,rfl⟩ | ⟨s,cap,cs,rfl,_⟩<;>rfl
theorem RowX.keep (a:RowX L h b k x v) (hn:h.next≤h'.next) (ho:∀t,b≤t→t<h.next→h'.obj t=h.obj t) (hL:∀t,t<h.next→L' t=L t):RowX L' h' b k x v:=by
 obtain⟨s,cap,rfl,h1,h2,h3,h4,h5⟩:=a;exact⟨s,cap,rfl,h1,by rw [ho s h3 h4];exact h2,h3,by omega,by rw [hL s h4];exact h5⟩
theorem RowAt.keep (a:RowAt L h b Q v) (hn:h.next≤h'.next) (ho:∀t,b≤t→t<h.next→h'.obj t=h.obj t) (hL:∀t,t<h.next→L' t=L t):RowAt L' h' b Q v:=by
 obtain⟨x,h1,a⟩:=a;exact⟨x,h1,a.keep hn ho hL⟩
theorem MatAt.keep (a:MatAt L h b Q k n v) (hn:h.next≤h'.next) (ho:∀t,b≤t→t<h.next→h'.obj t=h.obj t) (hL:∀t,t<h.next→L' t=L t):MatAt L' h' b Q k n v:=by
 obtain⟨s,cap,cs,rfl,h1,h2,h3,h4,h5,h6,h7⟩:=a;exact⟨s,cap,cs,rfl,h1,by rw [ho s h4 h5];exact h2,h3,h4,by omega,by rw [hL s h5];exact h6,fun c hc=>(h7 c hc).keep hn ho hL⟩
theorem TenAt.keep (a:TenAt L h b Q n len v) (hn:h.next≤h'.next) (ho:∀t,b≤t→t<h.next→h'.obj t=h.obj t) (hL:∀t,t<h.next→L' t=L t):TenAt L' h' b Q n len v:=by
 obtain⟨s,cap,cs,rfl,h1,h2,h3,h4,h5,h6,h7⟩:=a;exact⟨s,cap,cs,rfl,h1,by rw [ho s h4 h5];exact h2,h3,h4,by omega,by rw [hL s h5];exact h6,fun i c hc=>(h7 i c hc).keep hn ho hL⟩
structure PW (L:Nat→Nat) (b:Nat) (h:PHeap) (Q:Nat→Prop) (O:List Int) (nP nC:Nat) (len:Nat→Nat) (vO vP vC:PV):Prop where
 hO:RowX L h b 5 O vO
 hP:MatO L h b Q nP vP
 hC:TenO L h b Q nC len vC
variable {nP nC:Nat}
theorem PW.keepL (a:PW L b h Q O nP nC len vO vP vC) (hn:h.next≤h'.next) (ho:∀t,b≤t→t<h.next→h'.obj t=h.obj t) (hL:∀t,t<h.next→L' t=L t):PW L' b h' Q O nP nC len vO vP vC:=
 ⟨a.hO.keep hn ho hL,a.hP.imp id fun a=>a.keep hn ho hL,a.hC.imp id fun a=>a.keep hn ho hL⟩
theorem PW.mv (a:PW L b h Q O nP nC len vO vP vC) (hs:s<b) (m:Mv h s h'):PW L b h' Q O nP nC len vO vP vC:=a.keepL (by rw [m.next];exact Nat.le_refl _) (fun t hb _=>m.obj (by omega)) fun _ _=>rfl
theorem PW.set (a:PW L b h Q O nP nC len vO vP vC) (hs:s<b) (ds:List PV):PW L b (h.set s ds) Q O nP nC len vO vP vC:=a.keepL (Nat.le_refl _) (fun t hb _=>by rw [zJ,if_neg (by omega)]) fun _ _=>rfl
theorem RowX.tree (a:RowX L h b k x v):∃t:TR,t.ok h b∧t.pv=v∧∀aa,FI (t.fz aa) x:=by
 obtain⟨s,cap,rfl,h1,h2,h3,h4,h5⟩:=a;exact⟨TR.row s cap x,TR.row_ok h1 h2 h3 h4,TR.row_pv,fun aa=>TR.row_FI⟩
theorem trees {α:Type} {R:PV→α→Prop}:∀{cs:List PV},(∀c∈cs,∃(t:TR) (x:α),t.ok h b∧t.pv=c∧∀aa,R (t.fz aa) x)→∃(ts:List TR) (xs:List α),TR.oks h b ts∧TR.pvs ts=cs∧∀aa,All2 R (TR.fzs aa ts) xs
 | [],_=>⟨[],[],trivial,rfl,fun _=>All2.nil _⟩
 | c::cs,hc=>by
  obtain⟨t,x,h1,h2,h3⟩:=hc c (List.mem_cons_self ..);obtain⟨ts,xs,g1,g2,g3⟩:=trees fun c' h'=>hc c' (List.mem_cons_of_mem _ h')
  refine⟨t::ts,x::xs,⟨h1,g1⟩,by simp only [TR.pvs,h2,g2],fun aa=>?_⟩
  have k1:=h3 aa;have k2:=g3 aa;refine⟨by simp only [TR.fzs,List.length_cons,k2.1],fun i v y hv hy=>?_⟩
  cases i with
  | zero=>simp only [TR.fzs,List.getElem?_cons_zero,Option.some.injEq]at hv hy;rw [←hv,←hy];exact k1
  | succ i=>simp only [TR.fzs,List.getElem?_cons_succ]at hv hy;exact k2.2 i v y hv hy
theorem zBH:∀ts:List TR,(TR.pvs ts).length=ts.length
 | []=>rfl
 | t::ts=>by simp only [TR.pvs,List.length_cons,zBH ts]
def RowQ (Q:Nat→Prop) (v:PV) (x:List Int):Prop:=FI v x∧Q x.length
def MatQ (Q:Nat→Prop) (v:PV) (M:List (List Int)):Prop:=FII v M∧∀r∈M,Q r.length
theorem zMi {cs:List PV} {xs:List (List Int)} (a:All2 (RowQ Q) cs xs):All2 FI cs xs∧∀r∈xs,Q r.length:=by
 refine⟨⟨a.1,fun i v y hv hy=>(a.2 i v y hv hy).1⟩,fun r hr=>?_⟩
 obtain⟨i,hi,rfl⟩:=List.mem_iff_getElem.1 hr;exact(a.2 i _ _ (List.getElem?_eq_getElem (by rw [a.1];exact hi)) (List.getElem?_eq_getElem hi)).2
theorem MatAt.tree (a:MatAt L h b Q k n v):∃(t:TR) (M:List (List Int)),(t.ok h b∧t.pv=v∧∀aa,MatQ Q (t.fz aa) M)∧M.length=n:=by
 obtain⟨s,cap,cs,rfl,h1,h2,h3,h4,h5,h6,h7⟩:=a;obtain⟨ts,xs,g1,g2,g3⟩:=trees (R:=RowQ Q) (cs:=cs) (h:=h) (b:=b) fun c hc=>by
  obtain⟨x,q,a⟩:=h7 c hc;obtain⟨t,k1,k2,k3⟩:=a.tree;exact⟨t,x,k1,k2,fun aa=>⟨k3 aa,q⟩⟩
 have e1:ts.length=n:=by rw [←h3,←g2,zBH]
 have e2:xs.length=n:=by
  have:=(g3 fun _=>0).1
  rw [TR.fzs_length]at this
  omega
 refine⟨.lst s cap ts,xs,⟨⟨⟨by rw [e1];exact h1,by rw [g2];exact h2,h4,h5⟩,g1⟩,by simp only [TR.pv,e1],fun aa=>?_⟩,e2⟩
 obtain⟨q1,q2⟩:=zMi (g3 aa);exact⟨⟨true,.sl (aa s) 0 ts.length cap,TR.fzs aa ts,by simp only [TR.fz,e1,e2],q1⟩,q2⟩
structure PQ3 (Q:Nat→Prop) (P:List (List Int)) (C:List (List (List Int))) (nP nC:Nat) (len:Nat→Nat):Prop where
 pl:P.length=nP
 cl:C.length=nC
 pq:∀r∈P,Q r.length
 row:∀i,i<nC→(C.getD i []).length=len i
 cq:∀q∈C,∀r∈q,Q r.length
theorem MatO.tree (a:MatO L h b Q n v):∃(t:TR) (M:List (List Int)),(t.ok h b∧t.pv=v∧∀aa,MatQ Q (t.fz aa) M)∧M.length=n:=by
 rcases a with ⟨rfl,rfl⟩|a
 ·exact⟨.nil,[],⟨trivial,rfl,fun aa=>⟨⟨true,.nils,[],rfl,All2.nil _⟩,fun r hr=>by cases hr⟩⟩,rfl⟩
 ·exact a.tree
theorem TenO.tree (a:TenO L h b Q n len v):∃(t:TR) (C:List (List (List Int))),(t.ok h b∧t.pv=v∧∀aa,FIII (t.fz aa) C)∧C.length=n∧(∀i,i<n→(C.getD i []).length=len i)∧∀q∈C,∀r∈q,Q r.length:=by
 rcases a with ⟨rfl,rfl⟩|⟨s,cap,cs,rfl,h1,h2,h3,h4,h5,h6,h7⟩
 ·exact⟨.nil,[],⟨trivial,rfl,fun aa=>⟨true,.nils,[],rfl,All2.nil _⟩⟩,rfl,fun i hi=>by omega,fun q hq=>by cases hq⟩
 ·have key:∀(m:Nat) (ds:List PV),(∀i c,ds[i]? = some c→MatAt L h b Q 3 (len (m+i)) c)→∃(ts:List TR) (xs:List (List (List Int))),TR.oks h b ts∧TR.pvs ts=ds∧(∀aa,All2 FII (TR.fzs aa ts) xs)∧(∀i,i<xs.length→(xs.getD i []).length=len (m+i))∧∀q∈xs,∀r∈q,Q r.length:=by
   intro m ds
   induction ds generalizing m with
   | nil=>exact fun _=>⟨[],[],trivial,rfl,fun _=>All2.nil _,fun i hi=>(by simp at hi),fun q hq=>by cases hq⟩
   | cons d ds ih=>
    intro hd;obtain⟨t,M,⟨k1,k2,k3⟩,k4⟩:=(hd 0 d rfl).tree;obtain⟨ts,xs,g1,g2,g3,g4,g5⟩:=ih (m+1) fun i c hc=>by
     have:=hd (i+1) c (by simpa using hc)
     rw [show m+1+i=m+(i+1) by omega];exact this
    refine⟨t::ts,M::xs,⟨k1,g1⟩,by simp only [TR.pvs,k2,g2],fun aa=>⟨by simp only [TR.fzs,List.length_cons,(g3 aa).1],fun i w y hw hy=>?_⟩,fun i hi=>?_,fun q hq r hr=>?_⟩
    ·cases i with
     | zero=>simp only [TR.fzs,List.getElem?_cons_zero,Option.some.injEq]at hw hy;rw [←hw,←hy];exact(k3 aa).1
     | succ i=>simp only [TR.fzs,List.getElem?_cons_succ]at hw hy;exact(g3 aa).2 i w y hw hy
    ·cases i with
     | zero=>simpa using k4
     | succ i=>
      have:=g4 i (by simpa using hi)
      rw [show m+1+i=m+(i+1) by omega]at this
      simpa using this
    ·rcases List.mem_cons.1 hq with rfl | hq
     ·exact(k3 fun _=>0).2 r hr
     ·exact g5 q hq r hr
  obtain⟨ts,xs,g1,g2,g3,g4,g5⟩:=key 0 cs fun i c hc=>by rw [Nat.zero_add];exact h7 i c hc
  have e1:ts.length=n:=by rw [←h3,←g2,zBH]
  have e2:xs.length=n:=by
   have:=(g3 fun _=>0).1
   rw [TR.fzs_length]at this
   omega
  exact⟨.lst s cap ts,xs,⟨⟨⟨by rw [e1];exact h1,by rw [g2];exact h2,h4,h5⟩,g1⟩,by simp only [TR.pv,e1],fun aa=>⟨true,.sl (aa s) 0 ts.length cap,TR.fzs aa ts,by simp only [TR.fz,e1,e2],g3 aa⟩⟩,e2,fun i hi=>by have:=g4 i (by omega);rw [Nat.zero_add]at this;exact this,g5⟩
theorem PW.fin (a:PW L b h Q O nP nC len vO vP vC) (hk:Keep σ h) (hb:σ.next≤b) (k:∀wO wP wC P C,IsPr wO wP wC O P C→PQ3 Q P C nP nC len→K (.agg [wO,wP,wC]) σ):Gh σ K (.agg [vO,vP,vC]) h:=by
 obtain⟨t1,a1,rfl,a3⟩:=a.hO.tree;obtain⟨t2,P,⟨b1,rfl,b3⟩,b4⟩:=a.hP.tree;obtain⟨t3,C,⟨c1,rfl,c3⟩,c4,c5,c6⟩:=a.hC.tree;have et:(TR.agg [t1,t2,t3]).pv=.agg [t1.pv,t2.pv,t3.pv]:=by simp only [TR.pv,TR.pvs]
 rw [←et];refine Gh.treeF hk ⟨zAy hb (q9 a1),zAy hb (q9 b1),zAy hb (q9 c1),trivial⟩ fun aa=>?_
 have:=k (t1.fz aa) (t2.fz aa) (t3.fz aa) P C ⟨a3 aa,(b3 aa).1,c3 aa⟩ ⟨b4,c4,(b3 aa).2,c5,c6⟩
 simpa only [TR.fz,TR.fzs]using this
def mkM (L:Nat→Nat) (s k:Nat):Nat→Nat:=fun t=>if t=s then k else L t
theorem zDD {i:Nat} {y:Int} (ho:h.obj s=some (pis x)) (hi:i<x.length):h.wr s i [.int .i64 y]=some (h.set s (pis (x.set i y))):=by
 rw [zX ho,if_pos ⟨by rw [zI];simp;omega,rfl⟩]
 congr 2
 exact za hi
theorem RowX.wr {y:List Int} {j:Nat} (a:RowX L h b j y v) (hL:L s=k) (hj:j≠k):RowX L (h.set s cs) b j y v:=by
 obtain⟨s',cap,rfl,h1,h2,h3,h4,h5⟩:=a;have hne:s'≠s:=fun e=>hj (by rw [←h5,e,hL])
 exact⟨s',cap,rfl,h1,by rw [zJ,if_neg hne];exact h2,h3,h4,h5⟩
theorem RowAt.wrR {y:List Int} (a:RowAt L h b Q v) (ho:h.obj s=some (pis x)) (hl:y.length=x.length):RowAt L (h.set s (pis y)) b Q v:=by
 obtain⟨z,hq,s',cap,rfl,h1,h2,h3,h4,h5⟩:=a
 by_cases e:s'=s
 ·subst e
  rw [ho]at h2
  have hz:x.length=z.length:=by rw [←zI x,←zI z];exact congrArg List.length (Option.some.inj h2)
  have hz':y.length=z.length:=hl.trans hz;exact⟨y,by rw [hz'];exact hq,s',cap,by rw [hz'],by rw [hz'];exact h1,by rw [zJ,if_pos rfl],h3,h4,h5⟩
 ·exact⟨z,hq,s',cap,rfl,h1,by rw [zJ,if_neg e];exact h2,h3,h4,h5⟩
theorem RowAt.wrN (a:RowAt L h b Q v) (hL:L s≠1):RowAt L (h.set s cs) b Q v:=by
 obtain⟨z,hq,a⟩:=a;exact⟨z,hq,a.wr rfl (Ne.symm hL)⟩
theorem MatAt.wrR {y:List Int} (a:MatAt L h b Q k n v) (ho:h.obj s=some (pis x)) (hl:y.length=x.length) (hL:L s=1) (hk:k≠1):MatAt L (h.set s (pis y)) b Q k n v:=by
 obtain⟨s',cap,cs,rfl,h1,h2,h3,h4,h5,h6,h7⟩:=a;have hne:s'≠s:=fun e=>hk (by rw [←h6,e,hL])
 exact⟨s',cap,cs,rfl,h1,by rw [zJ,if_neg hne];exact h2,h3,h4,h5,h6,fun c hc=>(h7 c hc).wrR ho hl⟩
theorem PW.setRow (a:PW L b h Q O nP nC len vO vP vC) {i:Nat} {y:Int} (ho:h.obj s=some (pis x)) (hi:i<x.length) (hL:L s=1):
  h.wr s i [.int .i64 y]=some (h.set s (pis (x.set i y)))∧PW L b (h.set s (pis (x.set i y))) Q O nP nC len vO vP vC:=by
 refine⟨zDD ho hi,a.hO.wr hL (by decide),a.hP.imp id fun a=>a.wrR ho (List.length_set ..) hL (by decide),a.hC.imp id fun a=>?_⟩
 obtain⟨s',cap,cs,rfl,h1,h2,h3,h4,h5,h6,h7⟩:=a;have hne:s'≠s:=fun e=>by rw [e,hL]at h6;cases h6
 exact⟨s',cap,cs,rfl,h1,by rw [zJ,if_neg hne];exact h2,h3,h4,h5,h6,fun j c hc=>(h7 j c hc).wrR ho (List.length_set ..) hL (by decide)⟩
theorem MatAt.wrL {i:Nat} (a:MatAt L h b Q k n v) {j:Nat} (ho:h.obj s=some cs) (hL:L s=j) (hj:j≠1) (hc:RowAt L h b Q c):MatAt L (h.set s (cs.set i c)) b Q k n v:=by
 obtain⟨s',cap,ds,rfl,h1,h2,h3,h4,h5,h6,h7⟩:=a;have hL1:L s≠1:=by rw [hL];exact hj
 by_cases e:s'=s
 ·subst e
  rw [ho]at h2
  cases h2;refine⟨s',cap,cs.set i c,rfl,h1,by rw [zJ,if_pos rfl],by rw [List.length_set];exact h3,h4,h5,h6,fun d hd=>?_⟩
  rcases List.mem_or_eq_of_mem_set hd with hd|rfl
  ·exact(h7 d hd).wrN hL1
  ·exact hc.wrN hL1
 ·exact⟨s',cap,ds,rfl,h1,by rw [zJ,if_neg e];exact h2,h3,h4,h5,h6,fun d hd=>(h7 d hd).wrN hL1⟩
theorem PW.putRow (a:PW L b h Q O nP nC len vO vP vC) {i:Nat} (ho:h.obj s=some cs) (hi:i<cs.length) (hL:L s=2∨L s=3) (hc:RowAt L h b Q c):
  h.wr s i [c]=some (h.set s (cs.set i c))∧PW L b (h.set s (cs.set i c)) Q O nP nC len vO vP vC:=by
 have hj:L s≠1:=by omega
 refine⟨zE0 ho hi hc.one,a.hO.wr rfl (by omega),a.hP.imp id fun a=>a.wrL ho rfl hj hc,a.hC.imp id fun a=>?_⟩
 obtain⟨s',cap,ds,rfl,h1,h2,h3,h4,h5,h6,h7⟩:=a;have hne:s'≠s:=fun e=>by rw [e]at h6;omega
 exact⟨s',cap,ds,rfl,h1,by rw [zJ,if_neg hne];exact h2,h3,h4,h5,h6,fun j d hd=>(h7 j d hd).wrL ho rfl hj hc⟩
theorem PW.powers (a:PW L b h Q O nP nC len vO vP vC) (hn:0<nP):∃s cap cs,vP=.sl s 0 nP cap∧h.obj s=some cs∧cs.length=nP∧L s=2∧b≤s∧s<h.next∧∀c∈cs,RowAt L h b Q c:=by
 rcases a.hP with ⟨e,_⟩|⟨s,cap,cs,rfl,h1,h2,h3,h4,h5,h6,h7⟩
 ·omega
 ·exact⟨s,cap,cs,rfl,h2,h3,h6,h4,h5,h7⟩
theorem PW.conj (a:PW L b h Q O nP nC len vO vP vC) {i:Nat} (hi:i<nC):∃s cap t cap',vC=.sl s 0 nC cap∧h.rd1 s i=some (.sl t 0 (len i) cap')∧b≤s∧s<h.next∧∃cs,h.obj t=some cs∧cs.length=len i∧L t=3∧b≤t∧t<h.next∧∀c∈cs,RowAt L h b Q c:=by
 rcases a.hC with ⟨e,_⟩|⟨s,cap,cs,rfl,h1,h2,h3,h4,h5,h6,h7⟩
 ·omega
 ·obtain⟨t,cap',ds,e,g1,g2,g3,g4,g5,g6,g7⟩:=h7 i _ (List.getElem?_eq_getElem (by omega))
  exact⟨s,cap,t,cap',rfl,by rw [zH h2,List.getElem?_eq_getElem (by omega),e],h4,h5,ds,g2,g3,g6,g4,g5,g7⟩
end Go.Proofs
namespace Go.Grp
end Go.Grp
set_option linter.unusedSimpArgs false
set_option linter.unusedVariables false
set_option linter.unusedSectionVars false
namespace Go.Proofs
open Go.Ab Go.Lie Go.Grp
variable {σ σ0 h h':PHeap} {K:PV→PHeap→Prop} {b s t n k nP nC:Nat} {L L':Nat→Nat} {Q Q':Nat→Prop} {len:Nat→Nat} {v vO vP vC c vX:PV} {x O xs:List Int} {P M:List (List Int)} {C:List (List (List Int))} {cs:List PV}
theorem qG (hs:h.next≤s):∀t,t<h.next→mkM L s k t=L t:=fun t ht=>if_neg (by omega)
theorem ZW:mkM L s k s=k:=if_pos rfl
theorem RowX.keepK {j:Nat} (a:RowX L h b j x v) (hj:j≠k) (hn:h.next≤h'.next) (ho:∀t,b≤t→t<h.next→L t≠k→h'.obj t=h.obj t) (hL:∀t,t<h.next→L t≠k→L' t=L t):RowX L' h' b j x v:=by
 obtain⟨s,cap,rfl,h1,h2,h3,h4,h5⟩:=a;have hne:L s≠k:=by rw [h5];exact hj
 exact⟨s,cap,rfl,h1,by rw [ho s h3 h4 hne];exact h2,h3,by omega,by rw [hL s h4 hne];exact h5⟩
theorem RowAt.keepK (a:RowAt L h b Q v) (hj:1≠k) (hn:h.next≤h'.next) (ho:∀t,b≤t→t<h.next→L t≠k→h'.obj t=h.obj t) (hL:∀t,t<h.next→L t≠k→L' t=L t):RowAt L' h' b Q v:=by
 obtain⟨x,h1,a⟩:=a;exact⟨x,h1,a.keepK hj hn ho hL⟩
theorem MatAt.keepK {j:Nat} (a:MatAt L h b Q j n v) (hj:j≠k) (h1k:1≠k) (hn:h.next≤h'.next) (ho:∀t,b≤t→t<h.next→L t≠k→h'.obj t=h.obj t) (hL:∀t,t<h.next→L t≠k→L' t=L t):MatAt L' h' b Q j n v:=by
 obtain⟨s,cap,cs,rfl,h1,h2,h3,h4,h5,h6,h7⟩:=a;have hne:L s≠k:=by rw [h6];exact hj
 exact⟨s,cap,cs,rfl,h1,by rw [ho s h4 h5 hne];exact h2,h3,h4,by omega,by rw [hL s h5 hne];exact h6,fun c hc=>(h7 c hc).keepK h1k hn ho hL⟩
theorem TenAt.keepK (a:TenAt L h b Q n len v) (h1k:1≠k) (h3k:3≠k) (h4k:4≠k) (hn:h.next≤h'.next) (ho:∀t,b≤t→t<h.next→L t≠k→h'.obj t=h.obj t) (hL:∀t,t<h.next→L t≠k→L' t=L t):TenAt L' h' b Q n len v:=by
 obtain⟨s,cap,cs,rfl,h1,h2,h3,h4,h5,h6,h7⟩:=a;have hne:L s≠k:=by rw [h6];exact h4k
 exact⟨s,cap,cs,rfl,h1,by rw [ho s h4 h5 hne];exact h2,h3,h4,by omega,by rw [hL s h5 hne];exact h6,fun i c hc=>(h7 i c hc).keepK h3k h1k hn ho hL⟩
theorem PW.keepK (a:PW L b h Q O nP nC len vO vP vC) (hk:6≤k) (hn:h.next≤h'.next) (ho:∀t,b≤t→t<h.next→L t≠k→h'.obj t=h.obj t) (hL:∀t,t<h.next→L t≠k→L' t=L t):PW L' b h' Q O nP nC len vO vP vC:=
 ⟨a.hO.keepK (by omega) hn ho hL,a.hP.imp id fun a=>a.keepK (by omega) (by omega) hn ho hL,a.hC.imp id fun a=>a.keepK (by omega) (by omega) (by omega) hn ho hL⟩
def MatN (L:Nat→Nat) (h:PHeap) (b:Nat) (Q:Nat→Prop) (k n:Nat) (v:PV):Prop:=(n=0∧v=.fz true .nils 0 [])∨MatAt L h b Q k n v
theorem MatN.acc (a:MatN L h b Q k n v):∃cs,PAcc b 1 h v n cs∧(∀c∈cs,RowAt L h b Q c)∧∀t off l c,v=.sl t off l c→L t=k:=by
 rcases a with ⟨rfl,rfl⟩|⟨s,cap,cs,rfl,h1,h2,h3,h4,h5,h6,h7⟩
 ·exact⟨[],PAcc.nil _ _ _,fun c hc=>(by cases hc),fun t off l c e=>by cases e⟩
 ·exact⟨cs,.inr ⟨s,cap,rfl,h1,h2,by omega,h4,h5⟩,h7,fun t off l c e=>by simp only [PV.sl.injEq]at e;rw [←e.1];exact h6⟩
theorem MatN.push {KA:PV×PHeap→Prop} (a:MatN L h b Q k n v) (hk1:k≠1) (hc:RowAt L h b Q c) (hk:Keep σ h) (hb:σ.next≤b) (hbn:b≤h.next) (hn:n≤1048576)
  (kk:∀v' h' L',Keep σ h'→MatAt L' h' b Q k (n+1) v'→h.next<h'.next→(∀t,t<h.next→L' t=L t)→(∀t,t<h.next→L t≠k→h'.obj t=h.obj t)→(∀t,t<b→h'.obj t=h.obj t)→KA (v',h')):optK (zZ 1 24 (h.new [c]) v (.sl h.next 0 1 (.known 1))) KA:=by
 obtain⟨cs,acc,hcs,hL⟩:=a.acc;refine PAcc.pushS hk (acc.low hb) rfl (by omega) (by omega) fun v' h' k1 a1 o1 n1 l1=>?_
 obtain⟨s',cap',rfl,g1,g2,g3,g4,g5⟩:=a1;have hs':h.next≤s':=by
  rcases Nat.lt_or_ge s' h.next with q|q
  ·exact absurd rfl (n1 s' q 0 _ cap')
  ·exact q
 have ob:∀t,t<h.next→L t≠k→h'.obj t=h.obj t:=fun t ht hne=>o1 t ht fun off l c e=>hne (hL t off l c e)
 have hnx:h.next≤h'.next:=by omega
 have keepR:∀{d:PV},RowAt L h b Q d→RowAt (mkM L s' k) h' b Q d:=fun {d} hd=>hd.keepK (k:=k) (Ne.symm hk1) hnx (fun t _ ht hne=>ob t ht hne) fun t ht _=>qG hs' t ht
 refine kk _ h' (mkM L s' k) k1 ⟨s',cap',cs++[c],rfl,g1,g2,by simpa using g3,by omega,g5,ZW,fun d hd=>?_⟩ l1 (qG hs') ob fun t ht=>?_
 ·rcases List.mem_append.1 hd with hd | hd
  ·exact keepR (hcs d hd)
  ·rw [List.mem_singleton.1 hd];exact keepR hc
 ·refine o1 t (by omega) fun off l c e=>?_
  rcases acc with ⟨rfl,_,_⟩|⟨s,cap,rfl,q1,q2,q3,q4,q5⟩
  ·cases e
  ·simp only [PV.sl.injEq]at e;omega
theorem PW.pushP {KA:PV×PHeap→Prop} (a:PW L b h Q O nP nC len vO vP vC) (hc:RowAt L h b Q c) (hk:Keep σ h) (hb:σ.next≤b) (hbn:b≤h.next) (hn:nP≤1048576)
  (kk:∀v' h' L',Keep σ h'→PW L' b h' Q O (nP+1) nC len vO v' vC→h.next<h'.next→(∀t,t<b→h'.obj t=h.obj t)→(∀t,t<h.next→7≤L t→h'.obj t=h.obj t∧L' t=L t)→KA (v',h')):optK (zZ 1 24 (h.new [c]) vP (.sl h.next 0 1 (.known 1))) KA:=by
 refine MatN.push (k:=2) a.hP (by decide) hc hk hb hbn hn fun v' h' L' k1 m1 l1 hL ho hlo=>kk v' h' L' k1 ⟨?_,.inr m1,?_⟩ l1 hlo fun t ht h7=>⟨ho t ht (by omega),hL t ht⟩
 ·exact a.hO.keepK (k:=2) (by decide) (by omega) (fun t _ ht hne=>ho t ht hne) fun t ht _=>hL t ht
 ·exact a.hC.imp id fun a=>a.keepK (k:=2) (by decide) (by decide) (by decide) (by omega) (fun t _ ht hne=>ho t ht hne) fun t ht _=>hL t ht
theorem PW.pushC {KA:PV×PHeap→Prop} {m:Nat} (a:PW L b h Q O nP nC len vO vP vC) (hc:MatAt L h b Q 6 m c) (hm:len nC=m) (hk:Keep σ h) (hb:σ.next≤b) (hbn:b≤h.next) (hn:nC≤1048576)
  (kk:∀v' h' L',Keep σ h'→PW L' b h' Q O nP (nC+1) len vO vP v'→h.next<h'.next→(∀t,t<b→h'.obj t=h.obj t)→(∀t,t<h.next→7≤L t→h'.obj t=h.obj t∧L' t=L t)→KA (v',h')):optK (zZ 1 24 (h.new [c]) vC (.sl h.next 0 1 (.known 1))) KA:=by
 obtain⟨s0,cap0,cs0,rfl,z1,z2,z3,z4,z5,z6,z7⟩:=hc;have acc:∃cs,PAcc b 1 h vC nC cs∧(∀i c,cs[i]? = some c→MatAt L h b Q 3 (len i) c)∧∀t off l c,vC=.sl t off l c→L t=4:=by
  rcases a.hC with ⟨rfl,rfl⟩|⟨s,cap,cs,rfl,h1,h2,h3,h4,h5,h6,h7⟩
  ·exact⟨[],PAcc.nil _ _ _,fun i c hc=>(by simp at hc),fun t off l c e=>by cases e⟩
  ·exact⟨cs,.inr ⟨s,cap,rfl,h1,h2,by omega,h4,h5⟩,h7,fun t off l c e=>by simp only [PV.sl.injEq]at e;rw [←e.1];exact h6⟩
 obtain⟨cs,acc,hcs,hL⟩:=acc;have csl:cs.length=nC:=by
  rcases acc with ⟨_,h1,h2⟩|⟨_,_,_,_,_,h,_⟩
  ·rw [h1,h2];rfl
  ·omega
 refine PAcc.pushS hk (acc.low hb) rfl (by omega) (by omega) fun v' h' k1 a1 o1 n1 l1=>?_
 obtain⟨s',cap',rfl,g1,g2,g3,g4,g5⟩:=a1;have hs':h.next≤s':=by
  rcases Nat.lt_or_ge s' h.next with q|q
  ·exact absurd rfl (n1 s' q 0 _ cap')
  ·exact q
 have ob:∀t,t<h.next→L t≠4→h'.obj t=h.obj t:=fun t ht hne=>o1 t ht fun off l c e=>hne (hL t off l c e)
 have hnx:h.next≤h'.next:=by omega
 -- the marks: the list's slot bears 4, the new matrix 3
 have e1:∀t,t<h.next→L t≠6→mkM (mkM L s' 4) s0 3 t=L t:=fun t ht hne=>by
  unfold mkM;rw [if_neg (fun e=>hne (by rw [e];exact z6)),if_neg (by omega)]
 have ob6:∀t,b≤t→t<h.next→L t≠4→h'.obj t=h.obj t:=fun t _ ht hne=>ob t ht hne
 have kR:∀{d:PV},RowAt L h b Q d→RowAt (mkM (mkM L s' 4) s0 3) h' b Q d:=fun {d} ⟨x,q,s,cap,e,r1,r2,r3,r4,r5⟩=>
  ⟨x,q,s,cap,e,r1,by rw [ob s r4 (by rw [r5];decide)];exact r2,r3,by omega,by rw [e1 s r4 (by rw [r5];decide)];exact r5⟩
 have kM:∀{j m:Nat} {d:PV},j≠4→j≠6→MatAt L h b Q j m d→MatAt (mkM (mkM L s' 4) s0 3) h' b Q j m d:=fun {j m d} hj4 hj6 ⟨s,cap,cs,e,r1,r2,r3,r4,r5,r6,r7⟩=>
  ⟨s,cap,cs,e,r1,by rw [ob s r5 (by rw [r6];exact hj4)];exact r2,r3,r4,by omega,by rw [e1 s r5 (by rw [r6];exact hj6)];exact r6,fun c hc=>kR (r7 c hc)⟩
 refine kk _ h' (mkM (mkM L s' 4) s0 3) k1 ⟨?_,a.hP.imp id (kM (by decide) (by decide)),.inr ⟨s',cap',cs++[_],rfl,g1,g2,by simpa using g3,by omega,g5,?_,fun i d hd=>?_⟩⟩ l1 (fun t ht=>?_) fun t ht h7=>⟨ob t ht (by omega),e1 t ht (by omega)⟩
 ·obtain⟨s,cap,e,r1,r2,r3,r4,r5⟩:=a.hO
  exact⟨s,cap,e,r1,by rw [ob s r4 (by rw [r5];decide)];exact r2,r3,by omega,by rw [e1 s r4 (by rw [r5];decide)];exact r5⟩
 ·unfold mkM
  rw [if_neg (by omega),if_pos rfl]
 ·rcases Nat.lt_or_ge i cs.length with hi | hi
  ·rw [List.getElem?_append_left hi]at hd
   exact kM (by decide) (by decide) (hcs i d hd)
  ·rw [List.getElem?_append_right hi]at hd
   obtain rfl:i=cs.length:=by
    rcases Nat.lt_or_ge (i-cs.length) 1 with q|q
    ·omega
    ·rw [List.getElem?_eq_none (by simpa using q)]at hd;cases hd
   rw [Nat.sub_self,List.getElem?_cons_zero]at hd
   cases hd;rw [csl,hm];exact⟨s0,cap0,cs0,rfl,z1,by rw [ob s0 z5 (by rw [z6];decide)];exact z2,z3,z4,by omega,ZW,fun c hc=>kR (z7 c hc)⟩
 ·refine o1 t (by omega) fun off l c e=>?_
  rcases acc with ⟨rfl,_,_⟩|⟨s,cap,rfl,q1,q2,q3,q4,q5⟩
  ·cases e
  ·simp only [PV.sl.injEq]at e;omega
theorem PW.set7 (a:PW L b h Q O nP nC len vO vP vC) (hL:7≤L s) (cs:List PV):PW L b (h.set s cs) Q O nP nC len vO vP vC:=
 a.keepK (k:=L s) (by omega) (Nat.le_refl _) (fun t _ _ hne=>by rw [zJ,if_neg (fun e=>hne (by rw [e]))]) fun _ _ _=>rfl
theorem RowAt.fresh {cap:Cap} (hb:b≤h.next) (hq:Q x.length) (hc:full 1 cap x.length):RowAt (mkM L h.next 1) (h.new (pis x)) b Q (.sl h.next 0 x.length cap):=
 ⟨x,hq,h.next,cap,rfl,hc,by rw [zD,if_pos rfl],hb,Nat.lt_succ_self _,ZW⟩
theorem PW.fresh (a:PW L b h Q O nP nC len vO vP vC) (cs:List PV) (k:Nat):PW (mkM L h.next k) b (h.new cs) Q O nP nC len vO vP vC:=a.keepL (Nat.le_succ _) (fun t _ ht=>by rw [zD,if_neg (by omega)]) (qG (Nat.le_refl _))
theorem zIg {vS:PV} {bs:List Int} {σ':PHeap} (q:Keep σ' h) (so:So h s vS bs) (hs:s<σ'.next):So σ' s vS bs:=by
 obtain⟨a,sd,S⟩:=so;exact⟨a,sd,by rw [←q.obj s hs];exact S.obj,hs,S.fb,S.byt,S.le,S.sd⟩
theorem kmSo {vS:PV} {bs:List Int} (km:KM σ s h) (so:So h s vS bs) (hs:s<σ.next):∃σ',Mv σ s σ'∧So σ' s vS bs∧Keep σ' h∧σ'.next=σ.next:=by
 obtain⟨σ',m,q⟩:=km;exact⟨σ',m,zIg q so (by rw [m.next];exact hs),q,m.next⟩
theorem QZ {vS:PV} {bs:List Int} {cap:Cap} (so:So σ s vS bs) (hst:s≠t) (ho:σ.obj t=some (pis xs)) (hn:0<xs.length∧xs.length≤1000) (hk:∀x h,x∈xs→Mv σ s h→So h s vS bs→K (.int .i64 x) h):zA Tryz.prog 108 [.ptr s 0,.sl t 0 xs.length cap] σ K:=by
 refine zC mix Tryz.func108 ?_
 conv=>arg 2;cbv
 refine zF rfl ?_;simp only [pwA,seval,-iQ0];refine zl so (by omega) fun x h hx m so1=>?_
 obtain⟨i,rfl⟩:∃i:Nat,x=(i:Int):=⟨x.toNat,by have:=hx.1;omega⟩
 have hlt:i<xs.length:=by have:=hx.lt (by omega);omega
 have r1:h.rd1 t i=some (.int .i64 xs[i]):=by rw [zH (by rw [m.obj (Ne.symm hst)];exact ho),zM,gi hlt];rfl
 simp only [pwA,seval,-iQ0,hlt,r1];exact hk _ h (List.getElem_mem hlt) m so1
theorem zA6 {cap:Cap} (ho:σ.obj s=some (pis xs)) (hs:s<σ.next) (hb:xs.length≤1048576) (hk:∀cap,full 1 cap xs.length→K (.sl σ.next 0 xs.length cap) (σ.new (pis xs))):zA Tryz.prog 63 [.sl s 0 xs.length cap] σ K:=by
 refine zA.gh ?_;have hne:¬s=σ.next:=Nat.ne_of_lt hs;refine zC mix Tryz.func63 ?_
 conv=>arg 2;cbv
 refine zF rfl ?_;simp only [pwA,seval,-iQ0];refine PSl.app (b:=0) (news:=pis xs) (m:=xs.length) (zB σ _) (Nat.zero_le _) (PSl.new _ 1 rfl (Nat.le_refl _)) rfl (fun h0=>?_) (by rw [zI,Nat.mul_one]) (by omega) (by omega) fun v' h' k1 k2=>?_
 ·rw [qM]
  simp only [h0,if_false,Nat.le_refl,if_true,Nat.mul_one,QX,hne];rw [zb ho,if_pos (by rw [zI];omega),List.drop_zero,List.take_of_length_le (by rw [zI];exact Nat.le_refl _)]
 ·simp only [pwA,seval,-iQ0]at k2 ⊢
  exact k2.out k1 (zO _ _) hk
theorem Qy {n k:Nat} (hn:n≤1048576) (hkn:k<n) (hk:∀cap,full 1 cap n→K (.sl σ.next 0 n cap) (σ.new (pis (unitL n k)))):zA Tryz.prog 230 [.int .i64 n,.int .i64 k] σ K:=by
 refine zA.gh ?_;refine zC mix Tryz.func230 ?_
 conv=>arg 2;cbv
 refine zF rfl ?_;simp only [pwA,seval,-iQ0,hkn,zI,List.length_replicate,zi,mk8 (n:=n) (by omega),Go.Ab.mkL (n:=n) (by omega),Nat.succ_le_of_lt hkn]
 rw [za (by simpa using hkn)]
 exact Gh.finS (s:=σ.next) (cs:=pis (unitL n k)) (zB σ _) (by simp only [pwA,seval,-iQ0];rfl) (Nat.le_refl _) (zO _ _) (hk _ (.inr rfl))
end Go.Proofs
