/- A list of bytes that a law is handed, laid as a frozen value. -/
import Derived.Test.YtfoidnlodahfjaaGreatBP42
import Derived.Test.YtfoidnlodahfjaaGreatBP44
import Derived.Test.YtfoidnlodahfjaaGreatBP29
import Derived.Test.YtfoidnlodahfjaaGreatBP32
import Derived.Test.YtfoidnlodahfjaaGreatBP28
import Derived.Test.YtfoidnlodahfjaaGreatBAbPn
import Derived.Test.YtfoidnlodahfjaaGreatBAbPz
import Derived.Test.YtfoidnlodahfjaaGreatBP35
open Int renaming reduceNatCast'→iQ0
set_option maxRecDepth 100000
namespace Go.Grp
end Go.Grp
set_option linter.unusedSimpArgs false
set_option linter.unusedVariables false
set_option linter.unusedSectionVars false
namespace Go.Proofs
open Go.Ab Go.Lie Go.Grp
variable {σ h:PHeap} {K:PV→PHeap→Prop} {O x a b:List Int} {P:List (List Int)} {C:List (List (List Int))} {vO vP vC vx vw v va vb vL:PV} {sp t:Nat} {w u:List Int} {l:Int}
theorem PSl.fin2c {i:Nat} {e vW:PV} {rows:List PV} {M:List (List Int)} {σb:PHeap} (hb:σ.next≤σb.next) (hk0:Keep σ h) (a:PAcc σb.next 1 h vW i rows) (hall:All2 FI rows M) (he:∀b,Bel b e) (hs:∀b o m,sb b o m e=e) (hk:∀v,FII v M→K (.tup [v,e]) σ):Gh σ K (.tup [vW,e]) h:=by
 have hlen:=hall.1;rcases a with ⟨rfl,h1,h2⟩|⟨s,cap,rfl,hc,q2,q3,q4,q5⟩
 ·subst h2
  have:M=[]:=List.eq_nil_of_length_eq_zero hlen.symm
  subst this;exact Gh.fin0 hk0 ⟨trivial,he _,trivial⟩ (hk _ ⟨true,.nils,[],rfl,All2.nil _⟩)
 ·refine Gh.freeze (s:=s) (cs:=rows) q2 (by omega) (hall.bI 0) fun o g1 g2 g3=>?_
  simp only [sb,sbs,hc.ok,and_self,if_true,hs];refine Gh.fin0 ((hk0.kill (by omega)).up (by simp only [PHeap.kill];omega)) ⟨trivial,he _,trivial⟩ (hk _ ⟨true,.sl o 0 i cap,rows,?_,hall⟩)
  rw [←hlen,q3,Nat.mul_one]
theorem PWF.newF {cs:List PV} (w:PWF σ) (hb:Bels 0 cs):PWF (σ.new cs):=by
 have hn:(σ.new cs).next=σ.next+1:=rfl;refine⟨fun s hs=>?_,fun s ds hd=>?_⟩
 ·rw [zD,if_neg (by omega)]
  exact w.wf s (by omega)
 ·rw [zD]at hd
  split at hd
  ·cases hd
   exact Bels.up (Nat.zero_le _) hb
  ·exact Bels.up (Nat.le_succ _) (w.bel s ds hd)
def RelOK (O:List Int) (P:List (List Int)) (C:List (List (List Int))) (r:List Int):Prop:=(∃i,i<O.length∧r=relW O P i)∨∃i k,i+(1+k)<O.length∧r=conW C i k
theorem zBE:(winv w).length=w.length:=by simp [winv]
theorem RelOK.facts (s:Shp O P C) {r:List Int} (h:RelOK O P C r):Lts O.length r∧r.length≤60:=by
 have nl:∀{i:Nat} {c:List Int},TT O i c→(Mx.nw c).length≤42:=fun hc=>by
  have:=Zj s hc
  rw [ZN hc.len,List.length_map];exact this
 rcases h with ⟨i,hi,rfl⟩|⟨i,k,hi,rfl⟩
 ·refine⟨zKH s hi,?_⟩
  have h1:=nl (s.pw i hi);have h2:=s.pr i hi;unfold relW;rw [List.length_append,List.length_replicate,zBE]
  have:nx O i≤7:=by show(at_ O i).toNat≤7;omega
  omega
 ·refine⟨zK9 s hi,?_⟩
  have h1:=nl (s.cj i (i+(1+k)) (by omega) hi)
  unfold conW;rw [List.length_append,zBE];simp only [List.length_cons,List.length_nil];omega
set_option maxHeartbeats 1600000 in
theorem zAR (hp:zQ O P C) (sz:SzP O P C) (hR:IsPr vO vP vC O P C) (hk:∀v R,FII v R→(∀r∈R,RelOK O P C r)→R.length≤100→K (.tup [v,.int .i64 0]) σ):
  zA Tryz.prog 164 [.agg [vO,vP,vC]] σ K:=by
 have s:=hp.shp;have h6:=s.le;have g1:=hR.O.one;have g2:=hR.P.one;have g3:=hR.C.one;have hR0:=hR;refine zA.pwf fun wf=>zA.gh ?_
 refine zC mix Tryz.func164 ?_
 conv=>arg 2;cbv
 refine zF rfl ?_;simp only [pwA,seval,-iQ0,g1,g2,g3];refine qV hR sz fun t ht=>?_
 obtain rfl:t=true:=ht.2 hp;obtain⟨⟨w0,a0,rfl⟩,⟨w1,a1,rP,rfl,hP⟩,⟨w3,a3,rC,rfl,hC⟩⟩:=hR;have ob:(σ.new [.fz w0 a0 O.length (pis O),.fz w1 a1 P.length rP,.fz w3 a3 C.length rC]).obj σ.next=some [.fz w0 a0 O.length (pis O),.fz w1 a1 P.length rP,.fz w3 a3 C.length rC]:=by rw [zD,if_pos rfl]
 have hwf:PWF (σ.new [PV.fz w0 a0 O.length (pis O),.fz w1 a1 P.length rP,.fz w3 a3 C.length rC]):=PWF.newF wf ⟨trivial,trivial,trivial,trivial⟩;have k1:=zB σ [PV.fz w0 a0 O.length (pis O),.fz w1 a1 P.length rP,.fz w3 a3 C.length rC];simp only [pwA,seval,-iQ0];have hn1:(σ.new [PV.fz w0 a0 O.length (pis O),.fz w1 a1 P.length rP,.fz w3 a3 C.length rC]).next=σ.next+1:=rfl;generalize σ.new [PV.fz w0 a0 O.length (pis O),.fz w1 a1 P.length rP,.fz w3 a3 C.length rC]=H at *
 refine QS (fun m us h'=>∃(i:Nat) (vL:PV) (R:List (List Int)) (rows:List PV),i≤O.length∧m=O.length-i∧us=[.ptr σ.next 0,vL,.fz w0 a0 O.length (pis O),.int .i64 O.length,.int .i64 i]∧Keep H h'∧PAcc H.next 1 h' vL R.length rows∧All2 FI rows R∧R.length=i∧∀r∈R,RelOK O P C r) O.length ?_ ?_
 ·exact .here ⟨0,_,[],[],by omega,by omega,rfl,Keep.refl H,PAcc.nil _ _ _,All2.nil _,rfl,fun r hr=>by cases hr⟩
 rintro m us h' ⟨i,vL,R,rows,hi,rfl,rfl,hkp,ha,hall,hRl,hok⟩
 have hnx:=hkp.next;have hob:h'.obj σ.next=some [.fz w0 a0 O.length (pis O),.fz w1 a1 P.length rP,.fz w3 a3 C.length rC]:=by rw [hkp.obj _ (by omega)];exact ob
 have e1:h'.rd1 σ.next 1=some (.fz w1 a1 P.length rP):=by rw [zH hob];rfl
 have e2:h'.rd1 σ.next 2=some (.fz w3 a3 C.length rC):=by rw [zH hob];rfl
 have e0:h'.rd1 σ.next 0=some (.fz w0 a0 O.length (pis O)):=by rw [zH hob];rfl
 simp only [pwA,seval,-iQ0];refine iteI (fun hlt=>?_) fun hge=>?_
 ·have bO:=s.pr i hlt
  rw [at_eq hlt]at bO
  have hnO:((nx O i:Nat):Int)=O[i]:=by unfold nx;rw [at_eq hlt];omega
  have hiP:i<P.length:=by rw [s.pl];exact hlt
  obtain⟨w5,a5,hpr⟩:=hP.rowI hiP;have hpv:=s.pw i hlt;have gP:P.getD i []=P[i]:=zo hiP;rw [show pvec P i=P[i] from gP]at hpv
  have ew:IntKind.i64.wrap ((i:Int)+1)=(i:Int)+1:=wrap64 (by omega) (by omega)
  have hsn:¬σ.next=h'.next:=by omega
  have hnx':=TT.nw_hyp s hpv;have hnl:=Zj s hpv;simp only [pwA,seval,-iQ0,hlt,gi hlt,zM,e1,hiP,hpr,ew,hsn,zK,zN];rw [←hnO];have hcap1:capOK (.known 1) 1=true:=rfl;refine zA.frz (s:=h'.next) (cs:=pis [(i:Int)+1]) (by simp only [pwA,seval,-iQ0];rfl) (zO _ _) fun o1=>?_
  simp only [sbs,sb,hcap1,and_self,if_true,nm_eq];refine zGC (l:=(i:Int)+1) (by show(at_ O i).toNat≤8;rw [at_eq hlt];omega) ⟨true,_,rfl⟩ fun o=>?_
  simp only [pwA,seval,-iQ0,e1,hsn,hiP,hpr,zK,zN];refine ZV hnx'.1 hnx'.2 ⟨w5,a5,rfl⟩ fun v2 hv2=>?_
  simp only [pwA,seval,-iQ0,e1,hsn,hiP,hpr,zK,zN];refine zBd (by rw [ZN hpv.len,List.length_map];omega) (fun q hq=>by have:=QB hpv (by omega) q hq;omega) hv2 fun v3 hv3=>?_
  have hv30:=hv3;obtain⟨w6,a6,rfl⟩:=hv3;have hrl:(winv (Mx.nw P[i])).length≤42:=by rw [zBE,ZN hpv.len,List.length_map];exact hnl
  have hrel:relW O P i=List.replicate (nx O i) ((i:Int)+1)++winv (Mx.nw P[i]):=by unfold relW;rw [show pvec P i=P[i] from gP]
  have hxo:nx O i≤7:=by show(at_ O i).toNat≤7;rw [at_eq hlt];omega
  have hokr:∀r∈R++[relW O P i],RelOK O P C r:=fun r hr=>by
   rcases List.mem_append.1 hr with h|h
   ·exact hok r h
   ·rw [List.mem_singleton.1 h];exact .inl ⟨i,hlt,rfl⟩
  have kG:Keep h' ((h'.new [PV.int .i64 ((i:Int)+1)]).kill h'.next):=(zB h' _).kill (Nat.le_refl _);have gn:h'.next<((h'.new [PV.int .i64 ((i:Int)+1)]).kill h'.next).next:=Nat.lt_succ_self _;generalize (h'.new [PV.int .i64 ((i:Int)+1)]).kill h'.next=G at *
  have kHG:=hkp.trans kG;have aG:=ha.keep kG
  by_cases hz:(winv (Mx.nw P[i])).length=0
  ·have hnil:winv (Mx.nw P[i])=[]:=List.eq_nil_of_length_eq_zero hz
   have hap:zZ 1 8 G (.fz true (.sl o 0 (nx O i) (.known (nx O i))) (nx O i) (pis (List.replicate (nx O i) ((i:Int)+1)))) (.fz w6 a6 (winv (Mx.nw P[i])).length (pis (winv (Mx.nw P[i]))))=some (.fz true (.sl o 0 (nx O i) (.known (nx O i))) (nx O i) (pis (List.replicate (nx O i) ((i:Int)+1))),G):=by
    rw [qL,QY,Option.bind_some,if_pos hz];rfl
   simp only [pwA,seval,-iQ0,hap,zK,zN];refine PAcc.push (σb:=H) (bytes:=24) kHG aG (by omega) (by omega) fun v' h2 k2 a2=>?_
   simp only [pwA,seval,-iQ0,wrapS hlt (by omega:O.length≤4611686018427387904),zK,zN]
   refine⟨_,by omega,.here ⟨i+1,v',R++[relW O P i],_,by omega,rfl,rfl,k2,by rw [List.length_append];exact a2.acc,hall.snoc ⟨true,.sl o 0 (nx O i) (.known (nx O i)),?_⟩,by simp [hRl],hokr⟩⟩
   rw [hrel,hnil,List.append_nil,List.length_replicate]
  ·have hap:=zJz (h:=G) (o:=o) (c:=nx O i) (m:=(winv (Mx.nw P[i])).length) (cs:=pis (List.replicate (nx O i) ((i:Int)+1))) (news:=pis (winv (Mx.nw P[i]))) (x:=.fz w6 a6 (winv (Mx.nw P[i])).length (pis (winv (Mx.nw P[i])))) rfl hz (by rw [Zi,if_neg hz,if_pos ⟨Nat.le_refl _,by rw [zI];omega,by omega⟩,List.take_of_length_le (by rw [zI];omega)]) (by rw [zI,List.length_replicate]) (by omega)
   rw [qP,←hrel]at hap
   have hrell:(relW O P i).length=nx O i+(winv (Mx.nw P[i])).length:=by rw [hrel,List.length_append,List.length_replicate]
   have oG:(G.new (pis (relW O P i))).obj G.next=some (pis (relW O P i)):=by rw [zD,if_pos rfl]
   have kG2:=kHG.new (pis (relW O P i));have aG2:=aG.keep (zB G (pis (relW O P i)));have gn2:(G.new (pis (relW O P i))).next=G.next+1:=rfl;simp only [pwA,seval,-iQ0,hap,zK,zN];generalize G.new (pis (relW O P i))=G2 at *
   rw [←gn2];refine PAcc.pushS (σb:=H) (bytes:=24) (news:=[.sl G.next 0 (nx O i+(winv (Mx.nw P[i])).length) (.grown 1)]) kG2 aG2 rfl (by omega) (by omega) fun v' h2 k2 a2 o2 n2 l2=>?_
   simp only [pwA,seval,-iQ0,wrapS hlt (by omega:O.length≤4611686018427387904),zK,zN]
   have og:h2.obj G.next=some (pis (relW O P i)):=by rw [o2 _ (by omega) (aG.ne (Nat.le_refl _))];exact oG
   have hHn:=kHG.next;refine⟨O.length-(i+1),by omega,.fzh G.next _ og (zO _ _) fun o3=>?_⟩
   obtain⟨f1,f2,f3⟩:=PSl.fzr hwf k2 a2 (s:=G.next) (cs:=pis (relW O P i)) (by omega) (n2 _ (by omega)) o3
   have capg:capOK (.grown 1) (nx O i+(winv (Mx.nw P[i])).length)=true:=rfl;rw [zG2 (hall.bI 0) capg]at f2
   refine .here ⟨i+1,v',R++[relW O P i],_,by omega,rfl,?_,f1,by rw [List.length_append];exact f2.acc,hall.snoc ⟨true,.sl o3 0 (nx O i+(winv (Mx.nw P[i])).length) (.grown 1),by rw [hrell]⟩,by simp [hRl],hokr⟩
   show sbs G.next o3 (pis (relW O P i)) [PV.ptr σ.next 0,v',.fz w0 a0 O.length (pis O),.int .i64 O.length,.int .i64 ((i+1:Nat):Int)]=_;simp only [sbs,sb,f3]
 obtain rfl:i=O.length:=by omega
 simp only [pwA,seval,-iQ0,e0];refine zG (fun m us h'=>∃(i:Nat) (vL:PV) (R:List (List Int)) (rows:List PV),i≤O.length∧m=O.length-i∧us=[.ptr σ.next 0,vL,.int .i64 O.length,.int .i64 i]∧Keep H h'∧PAcc H.next 1 h' vL R.length rows∧All2 FI rows R∧R.length≤6+6*i∧∀r∈R,RelOK O P C r) O.length ?_ ?_
 ·exact⟨0,vL,R,rows,by omega,by omega,rfl,hkp,ha,hall,by omega,hok⟩
 clear ha hall hok hkp hob e0 e1 e2 hnx hRl hge hi
 rintro m us h' ⟨i,vL,R,rows,hi,rfl,rfl,hkp,ha,hall,hRl,hok⟩
 have hnx:=hkp.next;have hob:h'.obj σ.next=some [.fz w0 a0 O.length (pis O),.fz w1 a1 P.length rP,.fz w3 a3 C.length rC]:=by rw [hkp.obj _ (by omega)];exact ob
 have e2:h'.rd1 σ.next 2=some (.fz w3 a3 C.length rC):=by rw [zH hob];rfl
 simp only [pwA,seval,-iQ0];refine iteI (fun hlt=>?_) fun hge=>?_
 rotate_left
 ·exact PSl.fin2c (σb:=H) (by omega) (k1.trans hkp) ha hall (fun _=>trivial) (fun _ _ _=>rfl) fun v hv=>hk v R hv hok (by omega)
 have hiC:i<C.length:=by rw [s.cl];exact hlt
 obtain⟨w5,a5,rs,hrb,hrs⟩:=cvRow s hC hlt;simp only [pwA,seval,-iQ0,e2,hiC,hrb,hlt];refine QS (fun m us h'=>∃(k:Nat) (vL:PV) (R:List (List Int)) (rows:List PV),k≤O.length-1-i∧m=O.length-1-i-k∧us=[.ptr σ.next 0,vL,.int .i64 i,.int .i64 O.length,.int .i64 i,.fz w5 a5 (O.length-1-i) rs,.int .i64 (O.length-1-i:Nat),.int .i64 k]∧Keep H h'∧PAcc H.next 1 h' vL R.length rows∧All2 FI rows R∧R.length≤6+6*i+k∧∀r∈R,RelOK O P C r) (O.length-1-i) ?_ ?_
 ·exact .here ⟨0,vL,R,rows,by omega,by omega,rfl,hkp,ha,hall,by omega,hok⟩
 clear ha hall hok hkp hob e2 hnx hRl
 rintro m us h' ⟨k,vL,R,rows,hk',rfl,rfl,hkp,ha,hall,hRl,hok⟩
 simp only [pwA,seval,-iQ0];refine iteI (fun hlk=>?_) fun hgk=>?_
 rotate_left
 ·simp only [pwA,seval,-iQ0,wrapS hlt (by omega:O.length≤4611686018427387904)]
  exact⟨_,by omega,i+1,vL,R,rows,by omega,rfl,rfl,hkp,ha,hall,by omega,hok⟩
 have hnx:=hkp.next;obtain⟨w7,a7,hrk⟩:=hrs k hlk;have hcv:=s.cj i (i+(1+k)) (by omega) (by omega)
 have hcon:conW C i k=[-((i:Int)+1),((i+k:Nat):Int)+2,(i:Int)+1]++winv (Mx.nw (cvec C i (i+(1+k)))):=rfl;generalize hc:cvec C i (i+(1+k))=c at *
 have hnx':=TT.nw_hyp s hcv;have hnl:=Zj s hcv;have hcl:=hcv.len;have hlps:=QB hcv (by omega)
 have hnwl:(Mx.nw c).length≤42:=by rw [ZN hcl,List.length_map];exact hnl
 have hokr:∀r∈R++[conW C i k],RelOK O P C r:=fun r hr=>by
  rcases List.mem_append.1 hr with h|h
  ·exact hok r h
  ·rw [List.mem_singleton.1 h];exact .inr ⟨i,k,by omega,rfl⟩
 have ew1:IntKind.i64.wrap ((i:Int)+1)=(i:Int)+1:=wrap64 (by omega) (by omega)
 have ew2:IntKind.i64.wrap ((i:Int)+(k:Int))=((i+k:Nat):Int):=by rw [wrap64 (by omega) (by omega)];omega
 have ew3:IntKind.i64.wrap (((i+k:Nat):Int)+2)=((i+k:Nat):Int)+2:=wrap64 (by omega) (by omega)
 have ew5:IntKind.i64.wrap (0-((i:Int)+1))=-((i:Int)+1):=by rw [wrap64 (by omega) (by omega)];omega
 simp only [pwA,seval,-iQ0,hlk,hrk,ew1,ew2,ew3,ew5];clear ew1 ew2 ew3 ew5;refine ZV hnx'.1 hnx'.2 ⟨w7,a7,by rw [hcl]⟩ fun v2 hv2=>?_
 simp only [pwA,seval,-iQ0];refine zBd (by omega) (fun q hq=>by have:=hlps q hq;omega) hv2 fun v3 hv3=>?_
 obtain⟨w6,a6,rfl⟩:=hv3;have hwl:=zBE (w:=Mx.nw c);generalize hrest:winv (Mx.nw c)=rest at *
 simp only [pwA,seval,-iQ0];refine PSl.cat (bytes:=8) (σb:=h') (n:=3) (cs:=pis [-((i:Int)+1),((i+k:Nat):Int)+2,(i:Int)+1]) (zB _ _) (PSl.new _ 1 rfl (Nat.le_refl _)) (by rw [zI]) (by omega) (by omega) fun v4 h4 k4 a4=>?_
 obtain⟨s2,cap2,rfl,hc2,q2,q3,q4,q5⟩:=a4;rw [qP,←hcon]at q2
 have hcll:(conW C i k).length=3+rest.length:=by rw [hcon];simp;omega
 have k5:=hkp.trans k4;have a5':=ha.keep k4;simp only [pwA,seval,-iQ0];refine PAcc.pushS (σb:=H) (bytes:=24) (news:=[.sl s2 0 (3+rest.length) cap2]) k5 a5' rfl (by omega) (by omega) fun v' h2 k6 a6' o2 n2 l2=>?_
 simp only [pwA,seval,-iQ0,wrapS hlk (by omega:O.length-1-i≤4611686018427387904)]
 have og:h2.obj s2=some (pis (conW C i k)):=by rw [o2 _ q5 (ha.ne q4)];exact q2
 refine⟨O.length-1-i-(k+1),by omega,.fzh s2 _ og (zO _ _) fun o3=>?_⟩
 obtain⟨f1,f2,f3⟩:=PSl.fzr hwf k6 a6' (s:=s2) (cs:=pis (conW C i k)) (by omega) (n2 _ q5) o3
 rw [zG2 (hall.bI 0) hc2.ok]at f2
 refine .here ⟨k+1,v',R++[conW C i k],_,by omega,rfl,?_,f1,by rw [List.length_append];exact f2.acc,hall.snoc ⟨true,.sl o3 0 (3+rest.length) cap2,by rw [hcll]⟩,by simp;omega,hokr⟩
 show sbs s2 o3 (pis (conW C i k)) [PV.ptr σ.next 0,v',.int .i64 i,.int .i64 O.length,.int .i64 i,.fz w5 a5 (O.length-1-i) rs,.int .i64 (O.length-1-i:Nat),.int .i64 ((k+1:Nat):Int)]=_;simp only [sbs,sb,f3]
end Go.Proofs
namespace Go.Grp
end Go.Grp
namespace Go.Proofs
open Go.Ab Go.Lie Go.Grp
variable {σ h:PHeap} {K:PV→PHeap→Prop} {O x a b xs:List Int} {P:List (List Int)} {C:List (List (List Int))} {vO vP vC vx vw v va vb vL:PV} {sp t:Nat} {w u:List Int} {l k:Int}
theorem zME {s n:Nat} {cap:Cap} (ho:σ.obj s=some (pis xs)) (hn:n=xs.length) (hb:xs.length≤1048576) (hk:∀r:Int,(0≤r↔k∈xs)→K (.int .i64 r) σ):zA Tryz.prog 212 [.sl s 0 n cap,.int .i64 k] σ K:=by
 subst hn;have rd:∀{i:Nat} (hi:i<xs.length),σ.rd1 s i=some (.int .i64 xs[i]):=fun {i} hi=>by rw [zH ho,zM,gi hi];rfl
 refine zC mix Tryz.func212 ?_
 conv=>arg 2;cbv
 refine zF rfl ?_;simp only [pwA,seval,-iQ0];refine zG (fun m us h=>∃i:Nat,i≤xs.length∧m=xs.length-i∧us=[.sl s 0 xs.length cap,.int .i64 k,.int .i64 xs.length,.int .i64 i]∧σ=h∧∀j (h:j<xs.length),j<i→xs[j]≠k) xs.length ⟨0,by omega,by omega,rfl,rfl,fun j h hj=>by omega⟩ ?_
 rintro m us h ⟨i,hi,rfl,rfl,rfl,hall⟩
 simp only [pwA,seval,-iQ0];refine iteI (fun hlt=>?_) fun hge=>?_
 rotate_left
 ·refine hk _ ⟨fun h=>by omega,fun h=>?_⟩
  obtain⟨j,hj,e⟩:=List.mem_iff_getElem.1 h;exact absurd e (hall j hj (by omega))
 by_cases he:k=xs[i]
 ·simp only [pwA,seval,-iQ0,hlt,rd hlt,he,eq_true he]
  exact hk _ ⟨fun _=>by rw [he];exact List.getElem_mem hlt,fun _=>by omega⟩
 ·simp only [pwA,seval,-iQ0,hlt,rd hlt,he,wrapS hlt (by omega:xs.length≤4611686018427387904)]
  refine⟨_,by omega,i+1,by omega,rfl,rfl,fun j h hj e=>?_⟩
  by_cases e2:j=i
  ·subst e2;exact he e.symm
  ·exact hall j h (by omega) e
theorem zIa {s n:Nat} {cap:Cap} (ho:σ.obj s=some (pis xs)) (hn:n=xs.length) (hb:xs.length≤1048576) (hk:∀t:Bool,(t=true↔k∈xs)→K (.bool t) σ):zA Tryz.prog 166 [.sl s 0 n cap,.int .i64 k] σ K:=by
 refine zC mix Tryz.func166 ?_
 conv=>arg 2;cbv
 refine zF rfl ?_;simp only [pwA,seval,-iQ0];refine zME ho hn hb fun r hr=>?_
 simp only [pwA,seval,-iQ0];exact hk _ (by rw [decide_eq_true_eq];exact hr)
def nums (O:List Int) (L:List (List Int)):List Int:=L.map fun y=>numF O y O.length
set_option maxHeartbeats 1600000 in
theorem zDA (hp:zQ O P C) (hc:Cons O P C) (sz:SzP O P C) (hR:IsPr vO vP vC O P C) (hN:ordF O O.length≤128) (hvL:FII vL (regul O P C)) (hk:K (.tup [.bool true,.int .i64 0]) σ):
  zA Tryz.prog 99 [.agg [vO,vP,vC],vL] σ K:=by
 have s:=hp.shp;have F:Full O P C O.length:=Cons.full s hc;have h6:=s.le;have hnE:=zA5 s;have hN':nEl O≤128:=by omega
 have g1:=hR.O.one;have g2:=hR.P.one;have g3:=hR.C.one;have hvL0:=hvL;obtain⟨wL,aL,rL,rfl,hrL⟩:=hvL;have hrl:(regul O P C).length=O.length:=by simp [regul]
 have hrow:∀j (hj:j<(regul O P C).length),(regul O P C)[j]=bl O P C ((j:Int)+1):=fun j hj=>by rw [←zAW];simp [regul]
 refine zA.gh ?_;refine zC mix Tryz.func99 ?_
 conv=>arg 2;cbv
 refine zF rfl ?_;simp only [pwA,seval,-iQ0,g1,g2,g3];refine qV hR sz fun t ht=>?_
 obtain rfl:t=true:=ht.2 hp;simp only [pwA,seval,-iQ0];have ob:(σ.new [vO,vP,vC]).obj σ.next=some [vO,vP,vC]:=by rw [zD,if_pos rfl]
 have hs:PtrG (σ.new [vO,vP,vC]) σ.next vO vP vC:=⟨ob,Nat.lt_succ_self _⟩;have k1:=zB σ [vO,vP,vC];have hn1:(σ.new [vO,vP,vC]).next=σ.next+1:=rfl;generalize σ.new [vO,vP,vC]=H at *
 refine zAa s hs hR.O ?_;rw [hnE.1];have hN128:¬(128:Int)<(nEl O:Int):=by omega
 have r0:H.rd1 σ.next 0=some vO:=by rw [zH ob];rfl
 have r3:H.rd σ.next 0 3=some [vO,vP,vC]:=by rw [zb ob];rfl
 have pl:pLen vO=some (.int .i64 O.length):=by obtain⟨w,a,rfl⟩:=hR.O;rfl
 have leq:((regul O P C).length:Int)=(O.length:Int):=by omega
 simp only [pwA,seval,-iQ0,hN128,r0,r3,pl,leq,g1];refine zG (fun m us h'=>∃i:Nat,i≤(regul O P C).length∧m=(regul O P C).length-i∧us=[.fz wL aL (regul O P C).length rL,.ptr σ.next 0,.int .i64 (nEl O),.fz wL aL (regul O P C).length rL,.int .i64 (regul O P C).length,.int .i64 i]∧H=h') (regul O P C).length ?_ ?_
 ·exact⟨0,by omega,by omega,by rw [hrl];rfl,rfl⟩
 rintro m us h' ⟨i,hi,rfl,rfl,rfl⟩
 simp only [pwA,seval,-iQ0];refine iteI (fun hlt=>?_) fun hge=>?_
 ·obtain⟨w5,a5,hr5⟩:=hrL.rowI hlt
  have hr:=hrow i hlt;have hll:((regul O P C)[i].length:Int)=(nEl O:Int):=by rw [hr,qz]
  simp only [pwA,seval,-iQ0,hlt,hr5,hll];refine zEF (l:=(regul O P C)[i]) (by rw [hr,qz];omega) (fun x hx=>by rw [hr]at hx ⊢;rw [qz];exact bl_bd s F (by omega) x hx) (by rw [hr];exact zLD s F (by omega)) (by first | exact⟨w5,a5,rfl⟩ | exact⟨w5,a5,by rw [hr,qz]⟩) ?_
  simp only [pwA,seval,-iQ0,wrapS hlt (by omega:(regul O P C).length≤4611686018427387904)]
  exact⟨_,by omega,i+1,by omega,rfl,rfl⟩
 simp only [pwA,seval,-iQ0,r3,g1,g2,g3];refine zAR hp sz hR fun vR R hvR hRok hRl=>?_
 obtain⟨wR,aR,rR,rfl,hrR⟩:=hvR;simp only [pwA,seval,-iQ0];refine zG (fun m us h'=>∃i:Nat,i≤R.length∧m=R.length-i∧us=[.fz wL aL (regul O P C).length rL,.int .i64 (nEl O),.fz wR aR R.length rR,.int .i64 R.length,.int .i64 i]∧H=h') R.length ?_ ?_
 ·exact⟨0,by omega,by omega,rfl,rfl⟩
 clear hge hi
 rintro m us h' ⟨i,hi,rfl,rfl,rfl⟩
 simp only [pwA,seval,-iQ0];refine iteI (fun hlt=>?_) fun hge=>?_
 ·obtain⟨w5,a5,hr5⟩:=hrR.rowI hlt
  have hok:=hRok _ (List.getElem_mem hlt);obtain⟨q1,q2⟩:=hok.facts s;have hid:cw O P C R[i]=cw O P C []:=by
   unfold cw;refine List.map_congr_left fun t _=>?_
   congr 1
   show acW O P C (dgs O O.length t) R[i]=dgs O O.length t;rcases hok with ⟨j,hj,e⟩|⟨j,k,hj,e⟩
   ·rw [e];exact zLX s F hj (qX s t)
   ·rw [e];exact zL7 s F hj (qX s t)
  simp only [pwA,seval,-iQ0,hlt,hr5];refine zEJ s F hN' q1 (by omega) ⟨w5,a5,rfl⟩ hvL0 fun vo hvo=>?_
  rw [hid,zJs s F]at hvo
  obtain⟨w6,a6,rfl⟩:=hvo;rw [List.length_map,List.length_range];simp only [pwA,seval,-iQ0];refine zG (fun m us h2=>∃q:Nat,q≤nEl O∧m=nEl O-q∧us=[.fz wL aL (regul O P C).length rL,.int .i64 (nEl O),.fz wR aR R.length rR,.int .i64 R.length,.int .i64 i,.fz w6 a6 (nEl O) (pis ((List.range (nEl O)).map fun(t:Nat)=>(t:Int))),.int .i64 (nEl O),.int .i64 q]∧H=h2) (nEl O) ?_ ?_
  ·exact⟨0,by omega,by omega,rfl,rfl⟩
  rintro m us h2 ⟨q,hq,rfl,rfl,rfl⟩
  simp only [pwA,seval,-iQ0];refine iteI (fun hlq=>?_) fun hgq=>?_
  ·have gq:(pis ((List.range (nEl O)).map fun(t:Nat)=>(t:Int)))[q]? = some (.int .i64 q):=by
    rw [zM,List.getElem?_map,List.getElem?_range hlq];rfl
   simp only [pwA,seval,-iQ0,hlq,gq,wrapS hlq (by omega:nEl O≤4611686018427387904)]
   exact⟨_,by omega,q+1,by omega,rfl,rfl⟩
  ·simp only [pwA,seval,-iQ0,wrapS hlt (by omega:R.length≤4611686018427387904)]
   exact⟨_,by omega,i+1,by omega,rfl,rfl⟩
 clear hge hi hrR hRok hRl;have hLs:=Qf (O:=O) (P:=P) (C:=C) s;have hLl:(zP O).length=O.length:=by simp [zP]
 have n0:nums O [zv O]=[0]:=by
  show [numF O (zv O) O.length]=[0]
  congr 1
  have e:numF O (dgs O O.length 0) O.length=0:=zAK s (by omega)
  have:zv O=dgs O O.length 0:=by
   refine(zAL s (qX s 0) (s.zv 0) ?_).symm;rw [e];have key:∀c,numF O (zv O) c=0:=by
    intro c
    induction c with
    | zero=>rfl
    | succ c ih=>rw [numF,ih,ZI];omega
   exact(key _).symm
  rw [this];exact e
 simp only [pwA,seval,-iQ0];refine zG (fun m us h'=>∃(k:Nat) (v:PV),m=nEl O-k∧us=[.fz wL aL (regul O P C).length rL,.int .i64 (nEl O),v,.int .i64 k]∧Keep H h'∧PSl H.next 1 h' v (stt O P C (zP O) k).1.length (pis (nums O (stt O P C (zP O) k).1))∧(∀i,i<k→i<(stt O P C (zP O) i).1.length)) (nEl O) ?_ ?_
 ·refine⟨0,_,rfl,rfl,zB H _,?_,fun i hi=>by omega⟩
  have:=PSl.new (h:=H) H.next 1 (n:=1) (cs:=pis [0]) rfl (Nat.le_refl _)
  show PSl H.next 1 _ _ 1 (pis (nums O [zv O]));rw [n0];exact this
 rintro m us h' ⟨k,v,rfl,rfl,hkp,hv,hlt⟩
 have ok:=OkS.stt s F hLs hlt;have bd:=ok.bound s F hLs;rw [hnE.1]at bd
 have lk:=ok.len;simp only [pwA,seval,-iQ0,hv.acc.pLen];refine iteI (fun hcc=>?_) fun hge=>?_
 rotate_left
 ·have hall:=zIm s F hlt (by omega)
  have leq2:(((stt O P C (zP O) k).1.length:Nat):Int)=(nEl O:Int):=by omega
  simp only [pwA,seval,-iQ0,hv.acc.pLen,leq2];exact Gh.fin0 (k1.trans hkp) ⟨trivial,trivial,trivial⟩ hk
 have hc':k<(stt O P C (zP O) k).1.length:=by omega
 have hc9:k<(stt O P C (zP O) k).2.length:=by omega
 have hnx:stt O P C (zP O) (k+1)=nxt O P C (zP O) ((stt O P C (zP O) k).1[k]) ((stt O P C (zP O) k).2[k]) (zP O).length (stt O P C (zP O) k):=by
  rw [stt,List.getD_eq_getElem?_getD,List.getD_eq_getElem?_getD,List.getElem?_eq_getElem hc',List.getElem?_eq_getElem hc9];rfl
 have aG:GC O P C (zP O) (stt O P C (zP O) k).1[k]:=ok.mem _ (List.getElem_mem hc');have aS:gS O (stt O P C (zP O) k).1[k]:=(GC.sub F hLs).inS aG;have ga8:(stt O P C (zP O) k).1[k]? = some (stt O P C (zP O) k).1[k]:=List.getElem?_eq_getElem hc';have wl9:=ok.ws k hc9;have hlt':∀i,i<k+1→i<(stt O P C (zP O) i).1.length:=fun i hi=>by
  rcases Nat.lt_or_ge i k with z|z
  ·exact hlt i z
  ·have:i=k:=by omega
   subst this;exact hc'
 generalize (stt O P C (zP O) k).1[k]=a at *
 generalize (stt O P C (zP O) k).2[k]=w at *
 refine zG (fun m us h3=>∃(j:Nat) (v:PV),j≤O.length∧m=O.length-j∧us=[.fz wL aL (regul O P C).length rL,.int .i64 (nEl O),v,.int .i64 k,.fz wL aL (regul O P C).length rL,.int .i64 (regul O P C).length,.int .i64 j]∧Keep H h3∧PSl H.next 1 h3 v (nxt O P C (zP O) a w j (stt O P C (zP O) k)).1.length (pis (nums O (nxt O P C (zP O) a w j (stt O P C (zP O) k)).1))) O.length ?_ ?_
 ·exact⟨0,v,by omega,by omega,rfl,hkp,hv⟩
 clear hv hkp
 rintro m us h3 ⟨j,v,hj,rfl,rfl,hkp,hv⟩
 have okj:=ok.nxt F hLs aG (by omega:w.length+1≤(stt O P C (zP O) k).1.length) (j:=j) (by omega)
 have pr:=zDZ (O:=O) (P:=P) (C:=C) (L:=zP O) a w (stt O P C (zP O) k) j;have gj8:=zG8 pr.1 ga8;have bdj:=okj.bound s F hLs;rw [hnE.1]at bdj
 simp only [pwA,seval,-iQ0];refine iteI (fun hlj=>?_) fun hgj=>?_
 rotate_left
 ·obtain rfl:j=O.length:=by omega
  have wk:IntKind.i64.wrap ((k:Int)+1)=((k+1:Nat):Int):=wrapS hc' (by omega)
  simp only [pwA,seval,-iQ0,wk];refine⟨_,by omega,k+1,v,rfl,rfl,hkp,?_,hlt'⟩
  rw [hnx,hLl];exact hv
 have hjO:j<O.length:=by omega
 have hjr:j<(regul O P C).length:=by omega
 obtain⟨w5,a5,hr5⟩:=hrL.rowI hjr;have hr:=hrow j hjr;have hNa:=zAJ s aS;have hu:gS O (Grp.unit O j):=s.unit hjO (Nat.zero_le _);have hy:gS O (gm O P C a (Grp.unit O j)):=F.g.cl aS hu;have gd:(zP O).getD j []=Grp.unit O j:=by
  rw [List.getD_eq_getElem?_getD,List.getElem?_eq_getElem (by rw [hLl];exact hjO)]
  simp [zP]
 have hstep:nxt O P C (zP O) a w (j+1) (stt O P C (zP O) k)=vst (nxt O P C (zP O) a w j (stt O P C (zP O) k)) (gm O P C a (Grp.unit O j)) (w++[(j:Int)+1]):=by
  rw [←gd];rfl
 generalize hsj:nxt O P C (zP O) a w j (stt O P C (zP O) k)=sj at *
 obtain⟨t0,cap,rfl,q1,q2,q3,q4,q5⟩:=hv;have hsl:(nums O sj.1).length=sj.1.length:=by simp [nums]
 have hkj:k<sj.1.length:=by
  rcases Nat.lt_or_ge k sj.1.length with z|z
  ·exact z
  ·rw [List.getElem?_eq_none z]at gj8;cases gj8
 have e8:h3.rd1 t0 k=some (.int .i64 (((numF O a O.length).toNat:Nat):Int)):=by
  rw [zH q2,zM];unfold nums;rw [List.getElem?_map,gj8,hNa.2];rfl
 have gb:(pis (regul O P C)[j])[(numF O a O.length).toNat]? = some (.int .i64 (numF O (gm O P C a (Grp.unit O j)) O.length)):=by
  rw [hr,zM,gi (by rw [qz];exact hNa.1),zJw,zDt s aS,QQ];rfl
 have hlr:(regul O P C)[j].length=nEl O:=by rw [hr,qz]
 have nI:(((numF O a O.length).toNat:Nat):Int)<((regul O P C)[j].length:Int):=by omega
 have nI2:(numF O a O.length).toNat<(regul O P C)[j].length:=by omega
 have kI:(k:Int)<(sj.1.length:Int):=by omega
 have jI:(j:Int)<((regul O P C).length:Int):=by omega
 have mem_iff:numF O (gm O P C a (Grp.unit O j)) O.length∈nums O sj.1↔gm O P C a (Grp.unit O j)∈sj.1:=by
  unfold nums;rw [List.mem_map];refine⟨fun⟨z,hz,e⟩=>?_,fun h=>⟨_,h,rfl⟩⟩
  rw [←zAL s ((GC.sub F hLs).inS (okj.mem _ hz)) hy e];exact hz
 have wj:IntKind.i64.wrap ((j:Int)+1)=((j+1:Nat):Int):=wrapS hjO (by omega)
 simp only [pwA,seval,-iQ0,hjr,jI,hr5,hkj,kI,e8,nI,nI2,gb];refine zIa q2 hsl.symm (by omega) fun t ht=>?_
 cases t with
 | true=>
  have hin:=mem_iff.1 (ht.1 rfl);simp only [pwA,seval,-iQ0,wj];refine⟨_,by omega,j+1,_,by omega,rfl,rfl,hkp,?_⟩
  rw [hstep];unfold vst;rw [if_pos hin];exact⟨t0,cap,rfl,q1,q2,q3,q4,q5⟩
 | false=>
  have hnin:¬gm O P C a (Grp.unit O j)∈sj.1:=fun h=>by have:=ht.2 (mem_iff.2 h);cases this
  simp only [pwA,seval,-iQ0,hkj,kI,e8,nI,nI2,gb,hr5];refine PSl.push (σb:=H) (bytes:=8) hkp ⟨t0,cap,rfl,q1,q2,q3,q4,q5⟩ (by omega) (by omega) fun v' h4 k4 a4=>?_
  simp only [pwA,seval,-iQ0,wj];refine⟨_,by omega,j+1,v',by omega,rfl,rfl,k4,?_⟩
  rw [hstep];unfold vst;rw [if_neg hnin];show PSl H.next 1 h4 v' (sj.1++[_]).length (pis (nums O (sj.1++[_])));have e:pis (nums O (sj.1++[gm O P C a (Grp.unit O j)]))=pis (nums O sj.1)++[.int .i64 (numF O (gm O P C a (Grp.unit O j)) O.length)]:=by simp [nums,pis]
  rw [e,List.length_append];exact a4
end Go.Proofs
namespace Go.Proofs
open Go.Ab Go.Lie
variable {σ σ0 h h':PHeap} {K:PV→PHeap→Prop} {vC vP vB:PV} {bs:List Int} {s b n r0:Nat} {p:Int} {W:List (List Int)} {B:List (List (List Int))}
abbrev diC (vC:PV) (i:Nat) (hh:Int):List PV:=[vC,.int .i64 (i:Int),.int .u64 hh]
structure Di (σ:PHeap) (s:Nat) (vC:PV) (bs:List Int):Prop where
 ex:∃i hh,σ.obj s=some (diC vC i hh)∧i≤bs.length
 lt:s<σ.next
 fb:FB vC bs
 byt:Byt bs
theorem zMN (a:Int):pbin .shr .other (.int .u64 a) (.int .u64 33)=some (.int .u64 (a.fdiv 8589934592)):=rfl
theorem zJ8 (a:Int):∃r:Int,pbin .and .other (.int .u64 a) (.int .u64 16777215)=some (.int .u64 r)∧0≤r∧r≤16777215:=by
 have h1:(BitVec.ofInt 64 a &&& BitVec.ofInt 64 16777215).toNat≤16777215:=by
  rw [BitVec.toNat_and];exact Nat.le_trans Nat.and_le_right (by decide)
 refine⟨_,rfl,?_⟩
 have:∀m:Nat,m≤16777215→IntKind.u64.wrap (m:Int)=(m:Int):=fun m hm=>by
  show(m:Int) % _=_
  exact Int.emod_eq_of_lt (by omega) (by show(m:Int)<18446744073709551616;omega)
 rw [show IntKind.u64.bits=64 from rfl,this _ h1]
 omega
theorem Di.keep (a:Di σ s vC bs) (k:Keep σ h):Di h s vC bs:=by
 obtain⟨i,hh,e,hi⟩:=a.ex;exact⟨⟨i,hh,by rw [k.obj _ a.lt];exact e,hi⟩,Nat.lt_of_lt_of_le a.lt k.next,a.fb,a.byt⟩
theorem zLW {sd:Int} (hb:FB vC bs) (hB:Byt bs) (hk:∀h,Keep σ h→Di h σ.next vC bs→h.next=σ.next+1→K (.ptr σ.next 0) h):zA Tryz.prog 15 [vC,.int .u64 sd] σ K:=by
 have hb0:=hb;obtain⟨w,av,rfl⟩:=hb;have hl:=hB.len;refine zC mix Tryz.func15 ?_
 conv=>arg 2;cbv
 refine zF rfl ?_;simp only [pwA,seval,-iQ0];generalize hC:(PV.fz w av bs.length (bs.map (.int .u8)))=vC at *
 refine zG (fun m vs h'=>∃(i:Nat) (hh:Int),i≤bs.length∧m=bs.length-i∧vs=[vC,.ptr σ.next 0,.int .i64 i]∧σ.new (diC vC 0 hh)=h') bs.length ?_ ?_
 ·exact⟨0,_,by omega,by omega,rfl,rfl⟩
 rintro m vs h' ⟨i,hh,hi,rfl,rfl,rfl⟩
 have hlen:pLen vC=some (.int .i64 bs.length):=by rw [←hC];rfl
 have wi1:IntKind.i64.wrap ((i:Int)+1)=((i+1:Nat):Int):=by rw [wrap64 (by omega) (by omega)];omega
 simp only [pwA,seval,-iQ0,hlen]
 by_cases hlt:i<bs.length
 rotate_left
 ·simp only [pwA,seval,-iQ0,hlt,decide_false]
  exact hk _ (zB _ _) ⟨⟨0,hh,by rw [zD,if_pos rfl],Nat.zero_le _⟩,Nat.lt_succ_self _,hb0,hB⟩ rfl
 obtain⟨b1,b2,b3⟩:=zDy hB hlt;generalize bs.getD i 0=b at b1 b2 b3
 subst hC;simp only [pwA,seval,-iQ0,hlt,decide_true,b1,wi1];exact⟨_,by omega,i+1,_,by omega,rfl,rfl,rfl⟩
theorem zLE {n:Int} (D:Di σ s vC bs) (hn:1≤n) (hk:∀x h,0≤x→x<n→Mv σ s h→Di h s vC bs→K (.int .i64 x) h):zA Tryz.prog 48 [.ptr s 0,.int .i64 n] σ K:=by
 obtain⟨i,hh,ob,hi⟩:=D.ex;have hl:=D.byt.len;have hlt:=D.lt;have fb:=D.fb;obtain⟨w,av,rfl⟩:=D.fb;have q2:σ.rd1 s 2=some (.int .u64 hh):=by rw [zH ob];rfl
 have w2:∀y,σ.wr s 2 [.int .u64 y]=some (σ.set s (diC (.fz w av bs.length (bs.map (.int .u8))) i y)):=fun y=>by rw [zX ob,if_pos ⟨by simp,rfl⟩];rfl
 refine zC mix Tryz.func48 ?_
 conv=>arg 2;cbv
 refine zF rfl ?_;simp only [pwA,seval,-iQ0,q2,w2];generalize IntKind.u64.wrap (IntKind.u64.wrap (hh*6364136223846793005)+1442695040888963407)=hh1;have bel:∀(j:Nat) (y:Int),Bels 0 (diC (.fz w av bs.length (bs.map (.int .u8))) j y):=fun j y=>⟨trivial,trivial,trivial,trivial⟩
 have ob1:(σ.set s (diC (.fz w av bs.length (bs.map (.int .u8))) i hh1)).obj s=some (diC (.fz w av bs.length (bs.map (.int .u8))) i hh1):=by rw [zJ,if_pos rfl]
 have fin:∀(j:Nat) (y x:Int),j≤bs.length→0≤x→K (.int .i64 (x.tmod n)) (σ.set s (diC (.fz w av bs.length (bs.map (.int .u8))) j y)):=fun j y x hj hx=>by
  rw [Int.tmod_eq_emod_of_nonneg hx];exact hk _ _ (Int.emod_nonneg x (by omega)) (Int.emod_lt_of_pos x (by omega)) ⟨_,_,ob,bel _ _,rfl⟩ ⟨⟨j,y,by rw [zJ,if_pos rfl],hj⟩,hlt,fb,D.byt⟩
 have hset:∀(j:Nat) (y:Int),(σ.set s (diC (.fz w av bs.length (bs.map (.int .u8))) i hh1)).set s (diC (.fz w av bs.length (bs.map (.int .u8))) j y)=σ.set s (diC (.fz w av bs.length (bs.map (.int .u8))) j y):=fun j y=>zEP _ _ _ _
 have finI:=fin i hh1;have p0:(σ.set s (diC (.fz w av bs.length (bs.map (.int .u8))) i hh1)).rd1 s 0=some (.fz w av bs.length (bs.map (.int .u8))):=by rw [zH ob1];rfl
 have p1:(σ.set s (diC (.fz w av bs.length (bs.map (.int .u8))) i hh1)).rd1 s 1=some (.int .i64 i):=by rw [zH ob1];rfl
 have p2:(σ.set s (diC (.fz w av bs.length (bs.map (.int .u8))) i hh1)).rd1 s 2=some (.int .u64 hh1):=by rw [zH ob1];rfl
 have w1:(σ.set s (diC (.fz w av bs.length (bs.map (.int .u8))) i hh1)).wr s 1 [.int .i64 ((i+1:Nat):Int)]=some (σ.set s (diC (.fz w av bs.length (bs.map (.int .u8))) (i+1) hh1)):=by
  rw [zX ob1,if_pos ⟨by simp,rfl⟩,←hset (i+1) hh1];rfl
 generalize σ.set s (diC (.fz w av bs.length (bs.map (.int .u8))) i hh1)=σ1 at *
 obtain⟨x,hm,x0,x1⟩:=zJ8 (hh1.fdiv 8589934592);have wx:IntKind.i64.wrap x=x:=wrap64 (by omega) (by omega)
 have hn0:n≠0:=by omega
 simp only [pwA,seval,-iQ0,p2,zMN,hm,wx]
 by_cases hlt':i<bs.length
 rotate_left
 ·simp only [pwA,seval,-iQ0,p0,p1,hlt',decide_false,hn0]
  exact finI x (by omega) x0
 obtain⟨b1,b2,b3⟩:=zDy D.byt hlt';generalize bs.getD i 0=b at b1 b2 b3
 have e6:IntKind.i64.wrap b=b:=wrap64 (by omega) (by omega)
 have e7:IntKind.i64.wrap (x+b)=x+b:=wrap64 (by omega) (by omega)
 have wi1:IntKind.i64.wrap ((i:Int)+1)=((i+1:Nat):Int):=by rw [wrap64 (by omega) (by omega)];omega
 simp only [pwA,seval,-iQ0,p0,p1,hlt',decide_true,b1,e6,e7,wi1,w1,hn0];exact fin (i+1) hh1 _ (by omega) (by omega)
end Go.Proofs
namespace Go.Grp
end Go.Grp
namespace Go.Proofs
open Go.Ab Go.Lie Go.Grp
variable {σ h:PHeap} {K:PV→PHeap→Prop} {O x y a b bs:List Int} {P:List (List Int)} {C:List (List (List Int))} {vO vP vC vx vy vw v va vb vL vS vZ vG:PV} {sp t s0:Nat}
theorem zDY:∀{i:Nat},i≤O.length→ordF O i=prodL (O.take i)
 | 0,_=>by simp [ordF,prodL]
 | i+1,hi=>by rw [ordF,zDY (by omega),QF (by omega),at_eq (by omega)]
theorem zFi (hp:zQ O P C) (hO:FI vO O) (hk:K (.int .i64 (ordF O O.length)) σ):zA Tryz.prog 36 [vO] σ K:=by
 have s:=hp.shp;have h6:=s.le;obtain⟨wo,ao,rfl⟩:=hO;have h729:∀i,i≤O.length→1≤ordF O i∧ordF O i≤729:=fun i hi=>by
  rw [zDY hi];refine⟨Z9 fun o ho=>hp.2.2.2.1 o (List.mem_of_mem_take ho),Int.le_trans (zDT hp.2.2.2.1 i) hp.2.2.2.2.1⟩
 refine zC mix Tryz.func36 ?_
 conv=>arg 2;cbv
 refine zF rfl ?_;simp only [pwA,seval,-iQ0];refine zG (fun m vs h'=>∃(i:Nat),i≤O.length∧m=O.length-i∧vs=[.fz wo ao O.length (pis O),.int .i64 (ordF O i),.int .i64 i]∧σ=h') O.length ?_ ?_
 ·exact⟨0,by omega,by omega,rfl,rfl⟩
 rintro m vs h' ⟨i,hi,rfl,rfl,rfl⟩
 simp only [pwA,seval,-iQ0];refine iteI (fun hlt=>?_) fun hge=>?_
 rotate_left
 ·obtain rfl:i=O.length:=by omega
  exact hk
 have hs:=h729 i (by omega)
 have hs1:=h729 (i+1) (by omega)
 have hle:ordF O i≤729:=hs.2;have e:ordF O i*O[i]=ordF O (i+1):=by rw [ordF,at_eq hlt]
 have hw:IntKind.i64.wrap (ordF O (i+1))=ordF O (i+1):=wrap64 (by omega) (by omega)
 simp only [pwA,seval,-iQ0,hle,hlt,gi hlt,zM,e,hw,wrapS hlt (by omega:O.length≤4611686018427387904)]
 exact⟨_,by omega,i+1,by omega,rfl,rfl⟩
theorem zE9 (hp:zQ O P C) (sz:SzP O P C) (hR:IsPr vO vP vC O P C) (hk:K (.int .i64 (ordF O O.length)) σ):zA Tryz.prog 13 [.agg [vO,vP,vC]] σ K:=by
 have g1:=hR.O.one;have g2:=hR.P.one;have g3:=hR.C.one;refine zA.gh ?_;refine zC mix Tryz.func13 ?_
 conv=>arg 2;cbv
 refine zF rfl ?_;simp only [pwA,seval,-iQ0,g1,g2,g3];have k1:=zB σ [vO,vP,vC];generalize hH:σ.new [vO,vP,vC]=H at *
 have c:∀{K':PV→PHeap→Prop},K' (.tup [.int .i64 (ordF O O.length),.int .i64 0]) H→zA Tryz.prog 45 [.agg [vO,vP,vC]] H K':=fun {K'} hk'=>by
  refine zA.gh ?_;refine zC mix Tryz.func45 ?_
  conv=>arg 2;cbv
  refine zF rfl ?_;simp only [pwA,seval,-iQ0,g1,g2,g3];refine zm hR sz fun t ht=>?_
  obtain rfl:t=true:=ht.2 hp;simp only [pwA,seval,-iQ0];refine zFi hp hR.O ?_;simp only [pwA,seval,-iQ0];exact Gh.fin0 (zB H _) ⟨trivial,trivial,trivial⟩ hk'
 refine c ?_;simp only [pwA,seval,-iQ0];exact Gh.fin0 k1 trivial hk
theorem Ze (sz:SzP O P C) (hR:IsPr vO vP vC O P C) (hk:∀t:Bool,(t=true↔zQ O P C∧Cons O P C)→K (.bool t) σ):zA Tryz.prog 8 [.agg [vO,vP,vC]] σ K:=by
 have g1:=hR.O.one;have g2:=hR.P.one;have g3:=hR.C.one;refine zA.gh ?_;refine zC mix Tryz.func8 ?_
 conv=>arg 2;cbv
 refine zF rfl ?_;simp only [pwA,seval,-iQ0,g1,g2,g3];refine zCi hR sz fun t ht=>?_
 simp only [pwA,seval,-iQ0];exact Gh.fin0 (zB σ _) trivial (hk t ht)
theorem zDH (hp:zQ O P C) (hc:Cons O P C) (sz:SzP O P C) (hR:IsPr vO vP vC O P C) (hx:gS O x) (hy:gS O y) (hvx:FI vx x) (hvy:FI vy y) (hk:∀v,FI v (gm O P C x y)→K (.tup [v,.int .i64 0]) σ):zA Tryz.prog 17 [.agg [vO,vP,vC],vx,vy] σ K:=by
 have s:=hp.shp;have h6:=s.le;have g1:=hR.O.one;have g2:=hR.P.one;have g3:=hR.C.one;have x1:=hvx.one;have y1:=hvy.one;have lx:=hx.len;have ly:=hy.len;refine zA.gh ?_;refine zC mix Tryz.func17 ?_
 conv=>arg 2;cbv
 refine zF rfl ?_;simp only [pwA,seval,-iQ0,g1,g2,g3,x1,y1];refine zCi hR sz fun t ht=>?_
 obtain rfl:t=true:=ht.2 ⟨hp,hc⟩;simp only [pwA,seval,-iQ0,x1,y1];refine zBw hR (by omega) hp.2.2.2.1 hvx (by omega) fun t ht=>?_
 obtain rfl:t=true:=ht.2 (zFp.2 hx);simp only [pwA,seval,-iQ0,x1,y1];refine zBw hR (by omega) hp.2.2.2.1 hvy (by omega) fun t ht=>?_
 obtain rfl:t=true:=ht.2 (zFp.2 hy);simp only [pwA,seval,-iQ0,x1,y1];refine zJX s hR hx hy hvx hvy fun v hv=>?_
 simp only [pwA,seval,-iQ0,hv.one];exact Gh.fin0 (zB σ _) ⟨hv.bel _,trivial,trivial⟩ (hk v hv)
theorem zBC {n:Nat} {vs:List PV} {xs:List (List Int)} (hp:zQ O P C) (hc:Cons O P C) (sz:SzP O P C) (hs:PtrG σ sp vO vP vC) (hR:IsPr vO vP vC O P C) (hn:n=xs.length) (hl:xs.length≤100) (hvs:All2 FI vs xs) (hx:∀x∈xs,gS O x) (hk:∀g,Keep σ g→K (.bool true) g):
  zA Tryz.prog 54 [.ptr sp 0,.sl σ.next 0 n (.known n)] (σ.new vs) K:=by
 subst hn;have o1:(σ.new vs).obj σ.next=some vs:=by rw [zD,if_pos rfl]
 have kk:=(zB σ vs).kill (Nat.le_refl σ.next);have cap1:capOK (.known xs.length) xs.length=true:=by simp [capOK]
 have hlt:=hs.lt;have ne:¬sp=σ.next:=by omega
 refine zA.frz o1 (hvs.bI 0) fun o=>?_
 simp only [sbs,sb,cap1,and_self,if_true,nm_eq];refine zEK (xs:=xs) (hs.keep kk) hR sz ⟨true,_,vs,rfl,hvs⟩ ⟨by omega,fun x hxx=>by have:=(hx x hxx).len;have:=hp.shp.le;omega⟩ fun t ht=>?_
 obtain rfl:t=true:=ht.2 ⟨⟨hp,hc⟩,fun x hxx=>zFp.2 (hx x hxx)⟩
 exact hk _ kk
theorem Zu (hp:zQ O P C) (hc:Cons O P C) (sz:SzP O P C) (hR:IsPr vO vP vC O P C) (hx:gS O x) (hy:gS O y) (hvx:FI vx x) (hvy:FI vy y) (hk:∀v,FI v (gm O P C x y)→K v σ):zA Tryz.prog 19 [.agg [vO,vP,vC],vx,vy] σ K:=by
 have s:=hp.shp;have F:Full O P C O.length:=Cons.full s hc;have g1:=hR.O.one;have g2:=hR.P.one;have g3:=hR.C.one;have x1:=hvx.one;have y1:=hvy.one;have xc:vx.cells=[vx]:=hvx.cells;have yc:vy.cells=[vy]:=hvy.cells;refine zA.gh ?_;refine zC mix Tryz.func19 ?_
 conv=>arg 2;cbv
 refine zF rfl ?_;simp only [pwA,seval,-iQ0,g1,g2,g3,x1,y1];have k1:=zB σ [vO,vP,vC];generalize hH:σ.new [vO,vP,vC]=H at *
 have c:∀{K':PV→PHeap→Prop},(∀v,FI v (gm O P C x y)→K' (.tup [v,.int .i64 0]) H)→zA Tryz.prog 51 [.agg [vO,vP,vC],vx,vy] H K':=fun {K'} hk'=>by
  refine zA.gh ?_;have ob:(H.new [vO,vP,vC]).obj H.next=some [vO,vP,vC]:=by rw [zD,if_pos rfl]
  have hs:PtrG (H.new [vO,vP,vC]) H.next vO vP vC:=⟨ob,Nat.lt_succ_self _⟩;have k2:=zB H [vO,vP,vC];refine zC mix Tryz.func51 ?_
  conv=>arg 2;cbv
  refine zF rfl ?_;simp only [pwA,seval,-iQ0,g1,g2,g3,x1,y1,xc,yc];have hn:(H.new [vO,vP,vC]).next=H.next+1:=rfl;generalize H.new [vO,vP,vC]=H2 at *
  rw [←hn];refine zBC (n:=2) (xs:=[x,y]) hp hc sz hs hR rfl (by simp) (((All2.nil FI).snoc hvx).snoc hvy) (fun z hz=>by
   simp only [List.mem_cons,List.not_mem_nil,or_false]at hz
   rcases hz with rfl|rfl
   ·exact hx
   ·exact hy) fun g kg=>?_
  simp only [pwA,seval,-iQ0,x1,y1];refine zCg s F (hs.keep kg) hR (up_ hx) (up_ hy) hvx hvy fun v hv=>?_
  simp only [pwA,seval,-iQ0,hv.one];exact Gh.fin0 (k2.trans kg) ⟨hv.bel _,trivial,trivial⟩ (hk' v hv)
 refine c fun v hv=>?_
 simp only [pwA,seval,-iQ0,hv.one];exact Gh.fin0 k1 (hv.bel _) (hk v hv)
theorem zHF (hp:zQ O P C) (hc:Cons O P C) (sz:SzP O P C) (hR:IsPr vO vP vC O P C) (hx:gS O x) (hvx:FI vx x) (hk:∀v z,gS O z→gm O P C x z=zv O→FI v z→K v σ):zA Tryz.prog 20 [.agg [vO,vP,vC],vx] σ K:=by
 have s:=hp.shp;have F:Full O P C O.length:=Cons.full s hc;have g1:=hR.O.one;have g2:=hR.P.one;have g3:=hR.C.one;have x1:=hvx.one;have xc:vx.cells=[vx]:=hvx.cells;refine zA.gh ?_;refine zC mix Tryz.func20 ?_
 conv=>arg 2;cbv
 refine zF rfl ?_;simp only [pwA,seval,-iQ0,g1,g2,g3,x1];have k1:=zB σ [vO,vP,vC];generalize hH:σ.new [vO,vP,vC]=H at *
 have c:∀{K':PV→PHeap→Prop},(∀v z,gS O z→gm O P C x z=zv O→FI v z→K' (.tup [v,.int .i64 0]) H)→zA Tryz.prog 52 [.agg [vO,vP,vC],vx] H K':=fun {K'} hk'=>by
  refine zA.gh ?_;have ob:(H.new [vO,vP,vC]).obj H.next=some [vO,vP,vC]:=by rw [zD,if_pos rfl]
  have hs:PtrG (H.new [vO,vP,vC]) H.next vO vP vC:=⟨ob,Nat.lt_succ_self _⟩;have k2:=zB H [vO,vP,vC];refine zC mix Tryz.func52 ?_
  conv=>arg 2;cbv
  refine zF rfl ?_;simp only [pwA,seval,-iQ0,g1,g2,g3,x1,xc];have hn:(H.new [vO,vP,vC]).next=H.next+1:=rfl;generalize H.new [vO,vP,vC]=H2 at *
  rw [←hn];refine zBC (n:=1) (xs:=[x]) hp hc sz hs hR rfl (by simp) ((All2.nil FI).snoc hvx) (fun z hz=>by rw [List.mem_singleton.1 hz];exact hx) fun g kg=>?_
  simp only [pwA,seval,-iQ0,x1];refine zEc s F (hs.keep kg) hR (up_ hx) hvx fun v z hz hzm hv=>?_
  simp only [pwA,seval,-iQ0,hv.one];exact Gh.fin0 (k2.trans kg) ⟨hv.bel _,trivial,trivial⟩ (hk' v z (by rw [Nat.sub_self]at hz;exact hz) hzm hv)
 refine c fun v z hz hzm hv=>?_
 simp only [pwA,seval,-iQ0,hv.one];exact Gh.fin0 k1 (hv.bel _) (hk v z hz hzm hv)
theorem zCH (hp:zQ O P C) (hc:Cons O P C) (sz:SzP O P C) (hN:ordF O O.length≤128) (hG:FG vG [(O,P,C)]) (hZ:FII vZ (regul O P C)) (hk:K (.tup [.bool true,.int .i64 0]) σ):zA Tryz.prog 14 [.agg [.int .i64 1,vG,vZ]] σ K:=by
 have s:=hp.shp;have h6:=s.le;have F:Full O P C O.length:=Cons.full s hc;have hnE:=zA5 s;have zone:=hZ.one;have gone:=hG.one;have gcells:=hG.cells;have zcells:vZ.cells=[vZ]:=by obtain⟨w,a,r,rfl,_⟩:=hZ;rfl
 have rl:∀l∈regul O P C,l.length=nEl O∧∀x∈l,0≤x∧x<(nEl O:Int):=fun l hl=>by
  obtain⟨j,hj,rfl⟩:=List.mem_map.1 hl;rw [zAW];exact⟨qz,bl_bd s F (by have:=List.mem_range.1 hj;omega)⟩
 have rll:(regul O P C).length=O.length:=by simp [regul]
 have szZ:SzL (regul O P C):=⟨by omega,fun l hl=>by have:=(rl l hl).1;omega⟩
 have szG:SzG [(O,P,C)]:=⟨by simp,fun g hg=>by rw [List.mem_singleton.1 hg];exact sz⟩
 refine zA.gh ?_;refine zC mix Tryz.func14 ?_
 conv=>arg 2;cbv
 refine zF rfl ?_;simp only [pwA,seval,-iQ0,zone,gone,zcells,gcells];have ob:(σ.new [PV.int .i64 1,vG,vZ]).obj σ.next=some [.int .i64 1,vG,vZ]:=by rw [zD,if_pos rfl]
 have kH:=zB σ [PV.int .i64 1,vG,vZ];generalize σ.new [PV.int .i64 1,vG,vZ]=H at *
 refine zC0 ob hG szG hZ szZ fun t ht=>?_
 obtain rfl:t=true:=ht.2 ⟨rfl,by omega,fun g hg=>by rw [List.mem_singleton.1 hg];exact hp,fun l hl=>⟨by have:=(rl l hl).1;omega,fun x hx=>by have:=(rl l hl).2 x hx;omega⟩⟩
 obtain⟨wg,ag,rg,rfl,hrg⟩:=hG;obtain⟨q,rfl⟩:∃q,rg=[q]:=by
  have:=hrg.1
  match rg,this with
  | [q],_=>exact⟨q,rfl⟩
 have hq:IsPr q.1 q.2.1 q.2.2 O P C:=hrg.2 0 _ _ rfl rfl;have r0:H.rd1 σ.next 0=some (.int .i64 1):=by rw [zH ob];rfl
 have r1:H.rd1 σ.next 1=some (.fz wg ag [(O,P,C)].length (fl3 [q])):=by rw [zH ob];rfl
 have r2:H.rd1 σ.next 2=some vZ:=by rw [zH ob];rfl
 have fl:fl3 [q]=[q.1,q.2.1,q.2.2]:=by simp [fl3]
 have o11:(0:Int)<((1:Nat):Int):=by decide
 simp only [pwA,seval,-iQ0];have c:∀{K':PV→PHeap→Prop},K' (.tup [.bool true,.int .i64 0]) H→zA Tryz.prog 47 [.ptr σ.next 0] H K':=fun {K'} hk'=>by
  refine zR mix Tryz.func47 cf47 rfl ?_;dsimp only [if47,qI,eI,qD,eD,mI0,kI0,tI0,lI0,LI0,fI0,bI0,cI0,nI0,sI0,pI0,C1,C2,mD0,lD0,fD0,pD0,I0,G0,gm0,oI0,aI0,vI0,R0,S0];simp only [pwA,seval,-iQ0,r0,r1,r2,fl,o11,List.length_cons,List.length_nil,hq.O.one,hq.P.one,hq.C.one,zone,zK,zN];refine zDA hp hc sz hq hN hZ ?_;simp only [pwA,seval,-iQ0,zK,zN];exact hk'
 refine c ?_;simp only [pwA,seval,-iQ0];exact Gh.fin0 kH ⟨trivial,trivial,trivial⟩ hk
end Go.Proofs
namespace Go.Grp
end Go.Grp
namespace Go.Proofs
open Go.Ab Go.Lie Go.Grp
variable {σ h:PHeap} {K:PV→PHeap→Prop} {O x:List Int} {P:List (List Int)} {C:List (List (List Int))} {vO vP vC vx vw v:PV} {sp t:Nat} {w u:List Nat}
theorem CPok.in0 (s:Shp O P C) {q:CW} (h:CPok O P C q):In O 0 q.2.1∧In O 0 q.2.2:=by
 obtain⟨t,h1,h2,h3,e1,e2,_⟩:=h;rw [e1,e2];exact⟨Stp.inW s h1 (ZJ s h1 h2),Stp.inW s h1 (ZJ s h1 h3)⟩
theorem zCl:∀rows:List (PV×PV×PV),(fl3w rows).length=3*rows.length
 | []=>rfl
 | r::rows=>by
  have:=zCl rows
  simp only [fl3w,List.flatMap_cons,List.length_append,List.length_cons,List.length_nil]at this ⊢
  omega
theorem QR (hp:zQ O P C) (sz:SzP O P C) (hR:IsPr vO vP vC O P C) (hk:∀k c:Int,(c=3∨(c=0∧(k=-1↔Cons O P C)))→K (.tup [.int .i64 k,.int .i64 c]) σ):
  zA Tryz.prog 11 [.agg [vO,vP,vC],.int .i64 2000] σ K:=by
 have s:=hp.shp;have g1:=hR.O.one;have g2:=hR.P.one;have g3:=hR.C.one;refine zA.gh ?_;refine zC mix Tryz.func11 ?_
 conv=>arg 2;cbv
 refine zF rfl ?_;simp only [pwA,seval,-iQ0,g1,g2,g3];refine qV hR sz fun t ht=>?_
 obtain rfl:t=true:=ht.2 hp;simp only [pwA,seval,-iQ0];refine Qn ?_;simp only [pwA,seval,-iQ0];have ob:(σ.new [vO,vP,vC]).obj σ.next=some [vO,vP,vC]:=by rw [zD,if_pos rfl]
 have hs:PtrG (σ.new [vO,vP,vC]) σ.next vO vP vC:=⟨ob,Nat.lt_succ_self _⟩;have k1:=zB σ [vO,vP,vC];generalize σ.new [vO,vP,vC]=H at *
 refine zC7 s hs hR fun a L rows hall hok hmem hL=>?_
 have z3:ofAVs [AV.nils,AV.nils,AV.nils]=[.fz true .nils 0 [],.fz true .nils 0 [],.fz true .nils 0 []]:=rfl;simp only [pwA,seval,-iQ0];refine zG (fun m us h'=>∃i:Nat,i≤L.length∧m=L.length-i∧us=[.int .i64 2000,.ptr σ.next 0,.fz true a L.length (fl3w rows),.int .i64 L.length,.int .i64 i]∧Keep H h'∧∀q (hq:q<L.length),q<i→∃x,Col O P C L[q].2.1 x∧Col O P C L[q].2.2 x) L.length ?_ ?_
 ·exact⟨0,by omega,by omega,rfl,Keep.refl H,fun q hq h=>by omega⟩
 rintro m us h' ⟨i,hi,rfl,rfl,hkp,hj⟩
 have k2:=k1.trans hkp;have fin:∀{k c:Int} {g:PHeap},Keep σ g→(c=3∨(c=0∧(k=-1↔Cons O P C)))→Gh σ K (.tup [.int .i64 k,.int .i64 c]) g:=fun kg hc=>Gh.fin0 kg ⟨trivial,trivial,trivial⟩ (hk _ _ hc)
 simp only [pwA,seval,-iQ0];refine iteI (fun hlt=>?_) fun hge=>?_
 rotate_left
 ·refine fin k2 (.inr ⟨rfl,fun _=>zF1 s fun i' w t hc=>?_,fun _=>rfl⟩)
  obtain⟨q,hq,e⟩:=List.mem_iff_getElem.1 (hmem i' w t hc);obtain⟨x,c1,c2⟩:=hj q hq (by omega)
  rw [e]at c1 c2
  exact⟨x,c1,c2⟩
 have hkr:i<rows.length:=by rw [hall.1];exact hlt
 have hget:=zFt hkr;obtain⟨q1,q2,q3⟩:=hall.2 i _ _ (List.getElem?_eq_getElem hkr) (List.getElem?_eq_getElem hlt);have hfl:=zCl rows;have hk3:3≤(fl3w rows).length-i*3:=by omega
 have ci:=hok _ (List.getElem_mem hlt);obtain⟨in1,in2⟩:=ci.in0 s;have ci0:=ci;obtain⟨tt,y1,y2,y3,y4,y5,y6,y7⟩:=ci;have hs':=(hs.keep hkp).new [rows[i].1,rows[i].2.1,rows[i].2.2];have nx:=hkp.next;have m1:¬σ.next=h'.next:=by have:=hs.lt;omega
 have kk:Keep σ (h'.new [rows[i].1,rows[i].2.1,rows[i].2.2]):=k2.new _;have kH:Keep H (h'.new [rows[i].1,rows[i].2.1,rows[i].2.2]):=hkp.new _;have f1:(h'.new [rows[i].1,rows[i].2.1,rows[i].2.2]).rd1 h'.next 1=some rows[i].2.1:=by rw [zH (by rw [zD,if_pos rfl])];rfl
 have f2:(h'.new [rows[i].1,rows[i].2.1,rows[i].2.2]).rd1 h'.next 2=some rows[i].2.2:=by rw [zH (by rw [zD,if_pos rfl])];rfl
 simp only [pwA,seval,-iQ0,hlt,hget,hk3,q1.one,q2.one,q3.one,q1.cells,q2.cells,q3.cells,List.length_drop,z3,Qi];refine zDv s hs' hR in1 y6 q2 (fun v1 x1 n1 hv1 hx1 hc1=>?_) ?_
 rotate_left
 ·simp only [pwA,seval,-iQ0]
  exact fin kk (.inl rfl)
 have v1o:=hv1.one;simp only [pwA,seval,-iQ0,v1o,f2];refine zDv s hs' hR in2 y7 q3 (fun v2 x2 n2 hv2 hx2 hc2=>?_) ?_
 rotate_left
 ·simp only [pwA,seval,-iQ0]
  exact fin kk (.inl rfl)
 have v2o:=hv2.one;obtain⟨wa,aa,rfl⟩:=hv1;obtain⟨wb,ab,rfl⟩:=hv2;simp only [pwA,seval,-iQ0];refine zAQ rfl rfl (by omega) ?_
 by_cases he:x1=x2
 ·subst he
  simp only [pwA,seval,-iQ0,wrapS hlt (by omega:L.length≤4611686018427387904)]
  refine⟨_,by omega,i+1,by omega,rfl,rfl,kH,fun q hq hqi=>?_⟩
  rcases Nat.lt_or_ge q i with g|g
  ·exact hj q hq g
  ·obtain rfl:q=i:=by omega
   exact⟨_,hc1,hc2⟩
 ·simp only [pwA,seval,-iQ0,he]
  refine fin kk (.inr ⟨rfl,fun h=>by omega,fun hc=>absurd ?_ he⟩)
  have c1:=hc1;have c2:=hc2;rw [y4]at c1
  rw [y5]at c2
  exact zFl s hc y1 y2 y3 c1 c2
end Go.Proofs
namespace Go.Ab
variable {P:Program} {σ h:PHeap} {K:PV→PHeap→Prop} {Q:Exit→PEnv→PHeap→Prop} {E:PEnv}
def SVp (P:Program) (c:IC) (Q:Exit→PEnv→PHeap→Prop) (E:PEnv) (σ:PHeap):Prop:=
 ∀(ι:Nat→Nat) (Z:Nat→Prop) (h:AHeap),Rel ι Z σ h→EOK Z h σ.next E→∀Q1,RestC ι Z σ h Q Q1→vc P c Q1 (erE ι E) h
theorem zIf {c:IC} (hk:vp P c Q E σ):SVp P c Q E σ:=fun ι Z h r he Q1 hr=>ZK c r he hk hr
def vps (P:Program) (Q:Exit→PEnv→PHeap→Prop) (K:PEnv→PHeap→Prop):List IC→PEnv→PHeap→Prop
 | [],e,h=>K e h
 | a::l,e,h=>vp P a (fun x e' h'=>match x with | .normal=>vps P Q K l e' h' | x=>Q x e' h') e h
def seqs:List IC→IC→IC
 | [],t=>t
 | a::l,t=>.seq a (seqs l t)
theorem zLS {a b:IC} (ha:vp P a (fun x e' h'=>match x with | .normal=>SVp P b Q e' h' | x=>Q x e' h') E σ):SVp P (.seq a b) Q E σ:=by
 intro ι Z h r he Q1 hr;show vc P a _ _ _;refine ZK a r he ha ?_;intro x E' σ' ι' Z' h' r' a' e' k';cases x with
 | normal=>exact k' ι' Z' h' r' e' Q1 (hr.later a')
 | ret=>exact hr _ E' σ' ι' Z' h' r' a' e' k'
 | exit id=>exact hr _ E' σ' ι' Z' h' r' a' e' k'
 | goto l=>exact hr _ E' σ' ι' Z' h' r' a' e' k'
 | panic ch=>exact hr _ E' σ' ι' Z' h' r' a' e' k'
 | outgrown=>exact hr _ E' σ' ι' Z' h' r' a' e' k'
theorem zE7:∀(l:List IC) (T:IC) {E:PEnv} {σ:PHeap},vps P Q (fun e h=>SVp P T Q e h) l E σ→SVp P (seqs l T) Q E σ
 | [],T,E,σ,hk=>hk
 | a::l,T,E,σ,hk=>by
  refine zLS (a:=a) (b:=seqs l T) ?_;have key:∀{Q1 Q2:Exit→PEnv→PHeap→Prop},(∀x e h,Q1 x e h→Q2 x e h)→vp P a Q1 E σ→vp P a Q2 E σ:=fun hm hv=>Z7 a hm hv
  refine key ?_ hk;intro x e h q;cases x with
  | normal=>exact zE7 l T q
  | ret=>exact q
  | exit id=>exact q
  | goto l=>exact q
  | panic ch=>exact q
  | outgrown=>exact q
theorem zEn (hmix:P.follows .mixedOrders=true) {f:FuncId} {fn:Func} {ifn:IFn} (hf:P.funcs[f]? = some fn) (hc:cF P fn=some ifn) {args:List PV} {K:PV→PHeap→Prop} (hl:args.length=ifn.params.length)
  (hk:SVp P ifn.body (retP ifn.res K) (PEnv.mk ifn.params args) σ):zA P f args σ K:=by
 intro ι Z h r va;refine zCE hmix hf hc (by rw [zU];exact hl) ?_
 rw [←zAM];refine hk ι Z h r (EOK.mk va) _ ?_;intro x E' σ' ι' Z' h' r' a' e' k';have fin:optK (qj ifn.res E' σ') (fun vs=>K (packP vs) σ')→optK (rvals ifn.res (erE ι' E') h') fun vs=>Up ι Z σ h K (packR vs) h':=by
  rintro ⟨vs,hv,hk⟩
  obtain⟨h1,h2⟩:=QD r' e' hv;obtain⟨h3,h4⟩:=zCd (ι:=ι') h2;exact⟨_,h1,packP vs,σ',ι',Z',r',a',h4,h3,hk⟩
 cases x with
 | normal=>exact fin k'
 | ret=>exact fin k'
 | exit id=>exact k'.elim
 | goto l=>exact k'.elim
 | panic ch=>exact k'.elim
 | outgrown=>exact k'.elim
theorem zFc {s o:Nat} {cs:List PV}:∀(S:List Nat) (vs:List PV),(fun t=>sb s o cs (PEnv.mk S vs t))=PEnv.mk S (sbs s o cs vs)
 | [],vs=>by funext t;rfl
 | a::S,[]=>by funext t;rfl
 | a::S,v::vs=>by
  funext t
  have:=congrFun (zFc (s:=s) (o:=o) (cs:=cs) S vs) t
  simp only [PEnv.mk,sbs]
  split
  ·rfl
  ·exact this
theorem zMO {c:IC} {S:List Nat} {vs:List PV} {s:Nat} {cs:List PV} (hs:σ.obj s=some cs) (hb:Bels 0 cs) (k:∀o,SVp P c Q (PEnv.mk S (sbs s o cs vs)) (σ.kill s)):SVp P c Q (PEnv.mk S vs) σ:=by
 intro ι Z h r he Q1 hr;obtain⟨r',hc0,ho,hz⟩:=r.freeze hs hb;have hz1:∀o,Z o→(Z o∨o=ι s)∧h.obj o=h.obj o:=fun o ho=>⟨.inl ho,rfl⟩
 have r2:Rel ι (fun o=>Z o∨o=ι s) (σ.kill s) h:=⟨r'.hwf,r'.zlt,by have:=r.top;exact this,r'.wf,r'.obj,r'.inj⟩
 have he2:EOK (fun o=>Z o∨o=ι s) h (σ.kill s).next (PEnv.mk S (sbs s (ι s) cs vs)):=by
  rw [←zFc];exact fun t=>VOK.sb (.inr rfl) ho (hc0.mono hz1 (Nat.le_refl _)) ((he t).mono hz1 (Nat.le_refl _))
 have e:erE ι (PEnv.mk S (sbs s (ι s) cs vs))=erE ι (PEnv.mk S vs):=by
  rw [←zFc]
  funext t
  exact er_sb rfl _
 have ha:Aft ι Z σ h ι (fun o=>Z o∨o=ι s) (σ.kill s) h:=⟨Nat.le_refl _,Nat.le_refl _,fun _ _=>rfl,hz1,fun t ht hn=>by simp only [PHeap.kill];split;rfl;exact hn,fun t ds ht hd=>by
  simp only [PHeap.kill]at hd;split at hd;cases hd;exact absurd (r.none_lt hd) (by omega)⟩
 have:=k (ι s) ι _ h r2 he2 Q1 (hr.later ha)
 rwa [e]at this
end Go.Ab
namespace Go.Proofs.YtfoidnlodahfjaaGreat
open Go.ChangeShapes Go.WideShapes Go.ChangeAt Go.RowKit Go.Ab Go.Joins Go.Lie Go.Proofs
variable {H:Type} {enc:TypeId×Value→H} {W w0:World} {j:Inj} {h:AHeap}
theorem cell8:Tryz.prog.cellsOf 5=1:=by kernel_rfl
theorem lay8:Lay1 enc Tryz.prog W 5 (fun pv (n:Int)=>pv=.int .u8 n∧0≤n∧n≤255):=by
 intro w0 j h held fuel v x m hx;obtain⟨n,hn,_,hw⟩:=DataW.trod_int Tryz.underlying5 hx;simp only [List.cons.injEq,and_true]at hn
 subst hn;simp only [Lit.wf,Bool.and_eq_true,decide_eq_true_eq]at hw
 have h1:IntKind.u8.min=0:=by rfl
 have h2:IntKind.u8.max=255:=by rfl
 rw [h1,h2]at hw
 exact⟨j,h,.int .u8 n,n,m,Inj.le.refl _,Ext.refl m.wf,rfl,trivial,rfl,rfl,hw.1,hw.2⟩
theorem FL.bytes {v:PV} {xs:List Int} (h:FL (fun pv (n:Int)=>pv=.int .u8 n∧0≤n∧n≤255) v xs):FB v xs:=by
 obtain⟨w,a,rows,rfl,hr⟩:=h;refine⟨w,a,?_⟩
 congr 1
 apply List.ext_getElem?;intro k;rw [List.getElem?_map];rcases Nat.lt_or_ge k xs.length with x|x
 ·obtain⟨pv,h1,h2⟩:=hr.get x
  rw [h1,gi x,h2.1];rfl
 ·rw [List.getElem?_eq_none (by rw [hr.1];exact x),List.getElem?_eq_none x];rfl
theorem layB:Lay1 enc Tryz.prog W 22 (fun v (xs:List Int)=>FB v xs∧∀b∈xs,0≤b∧b≤255):=by
 intro w0 j h held fuel v x m hx;obtain⟨j',h',pv,a,g1,g2,g3,g4,g5,g6,g7,g8⟩:=zJW Tryz.underlying22 cell8 lay8 w0 j h held fuel v x m hx;exact⟨j',h',pv,a,g1,g2,g3,g4,g5,g6,FL.bytes g7,g7.all fun _ _ k=>k.2⟩
end Go.Proofs.YtfoidnlodahfjaaGreat
