/- Certificates with any number of groups after their marking: what is held. -/
import Derived.Test.YtjlpbpfaihhamaaGreatDoorAP43
import Derived.Test.YtjlpbpfaihhamaaGreatDoorAP40
import Derived.Test.YtjlpbpfaihhamaaGreatDoorAP37
import Derived.Test.YtjlpbpfaihhamaaGreatDoorAP34
import Derived.Test.YtjlpbpfaihhamaaGreatDoorAP31
import Derived.Test.YtjlpbpfaihhamaaGreatDoorAP42
import Derived.Test.YtjlpbpfaihhamaaGreatDoorAP30
open Nat renaming left_eq_add→nQ1,add_eq_left→nQ2,succ_ne_self→nQ3,one_ne_zero→nQ4,add_left_cancel_iff→nQ5,add_assoc→nQ6,reduceLeDiff→nQ7,le_refl→nQ8,lt_add_one→nQ9,reduceEqDiff→nQ10,reduceBEq→nQ11,reduceAdd→nQ12,mul_one→nQ13,zero_add→nQ14,add_zero→nQ15
open Int renaming reduceNatCast'→iQ0,toNat_natCast→iQ2,reduceEq→iQ3,reduceLT→iQ4,reduceLE→iQ5,reduceNeg→iQ6
open List renaming getElem?_cons_zero→lQ1,getElem?_cons_succ→lQ2,take_succ_cons→lQ3,take_zero→lQ4,drop_succ_cons→lQ5,drop_zero→lQ6,take_nil→lQ7,drop_nil→lQ8,map_cons→lQ9,map_nil→lQ10,nil_append→lQ11,cons_append→lQ12,all_cons→lQ13,all_nil→lQ14,length_cons→lQ15,length_nil→lQ16,contains_cons→lQ17,contains_nil→lQ18
open Bool renaming not_true→bQ1,not_false→bQ2,and_true→bQ3,true_and→bQ4,and_self→bQ5,true_eq_false→bQ6,false_eq_true→bQ7,or_false→bQ8,or_true→bQ9,true_or→bQ10,false_or→bQ11
open Option renaming map_some→oQ1,map_none→oQ2
set_option maxRecDepth 100000
namespace Go.Grp
end Go.Grp
set_option linter.unusedSimpArgs false
set_option linter.unusedVariables false
set_option linter.unusedSectionVars false
namespace Go.Proofs
open Go.Ab Go.Lie Go.Grp
variable {σ h hE:PHeap} {K:PV→PHeap→Prop} {O O' x y w:List Int} {P P':List (List Int)} {C C':List (List (List Int))} {vO vP vC vO' vP' vC' vx vL vU vZ vw vD vR v:PV} {L u Z D R:List (List Int)} {sp n N t:Nat}
def tpF (N:Nat):Nat→Nat
 | 0=>1
 | i+1=>if tpF N i≤4096 then tpF N i*N else tpF N i
theorem zAp (hN:N≤729):∀i,tpF N i≤2985984
 | 0=>by simp [tpF]
 | i+1=>by
  have:=zAp hN i
  unfold tpF
  split
  ·rename_i h
   have:=Nat.mul_le_mul h hN
   omega
  ·exact this
theorem zF7 {i:Nat} (h:4096<tpF N i):∀j,i≤j→4096<tpF N j
 | 0,hj=>by
  obtain rfl:i=0:=by omega
  exact h
 | j+1,hj=>by
  rcases Nat.eq_or_lt_of_le hj with e|e
  ·rw [←e];exact h
  ·have:=zF7 h j (by omega)
   unfold tpF;rw [if_neg (by omega)];exact this
def tpD (N:Nat):Nat→Nat→List Nat
 | 0,_=>[]
 | i+1,t=>tpD N i (t / N)++[t % N]
theorem zIZ:∀i t,(tpD N i t).length=i
 | 0,_=>rfl
 | i+1,t=>by simp [tpD,zIZ i]
def tpI (O':List Int) (N n t:Nat):List (List Int):=(tpD N n t).map (dgs O' O'.length)
theorem zBV:(tpI O' N n t).length=n:=by simp [tpI,zIZ]
theorem zKE (s:Shp O' P' C'):∀y∈tpI O' N n t,gS O' y:=fun y hy=>by
 obtain⟨k,_,rfl⟩:=List.mem_map.1 hy;exact zPf s k
open Classical in
noncomputable def homN (O:List Int) (P:List (List Int)) (C:List (List (List Int))) (O':List Int) (P':List (List Int)) (C':List (List (List Int))):Nat→Nat
 | 0=>0
 | k+1=>homN O P C O' P' C' k+if zGF O P C O' P' C' (tpI O' (nEl O') O.length k)then 1 else 0
theorem zFG:∀k,homN O P C O' P' C' k≤k
 | 0=>Nat.le_refl _
 | k+1=>by have:=zFG k;unfold homN;split<;>omega
open Classical in
noncomputable def homC (O:List Int) (P:List (List Int)) (C:List (List (List Int))) (O':List Int) (P':List (List Int)) (C':List (List (List Int))):Int:=
 if (qE O P C∧Cons O P C)∧(qE O' P' C'∧Cons O' P' C')then(if 4096<tpF (nEl O') O.length then 3 else 0)else 1
open Classical in
noncomputable def homK (O:List Int) (P:List (List Int)) (C:List (List (List Int))) (O':List Int) (P':List (List Int)) (C':List (List (List Int))):Int:=
 if homC O P C O' P' C'=0 then(homN O P C O' P' C' (tpF (nEl O') O.length):Int)else 0
theorem zEV (hp:qE O P C):nEl O≤729:=by
 have h:=zEU (O:=O) (i:=O.length) (Nat.le_refl _);rw [List.take_length]at h
 have:=hp.2.2.2.2.1
 unfold nEl;omega
theorem zCY (hn:O.length≤6) (hR:IsPr vO vP vC O P C) (hp':qE O' P' C') (hR':IsPr vO' vP' vC' O' P' C') (hk:K (.int .i64 (tpF (nEl O') O.length:Nat)) σ):zA Tryz.prog 54 [.agg [vO,vP,vC],.agg [vO',vP',vC']] σ K:=by
 have g1:=hR.P.one;have g2:=hR.C.one;have q0:=hR'.O.one;have q1:=hR'.P.one;have q2:=hR'.C.one;have s':=hp'.shp;have hN:=zEV hp';obtain⟨hNe,hN1⟩:=zGh s';obtain⟨⟨w0,a0,rfl⟩,hRP,hRC⟩:=hR;refine zA.gh ?_;refine zD mix Tryz.func54 ?_;simp only [pwA,seval,-iQ0,g1,g2,q0,q1,q2];generalize hH:(σ.new [PV.fz w0 a0 O.length (pis O),vP,vC]).new [vO',vP',vC']=H;have kH:Keep σ H:=by rw [←hH];exact(zB _ _).new _
 have r10:H.rd1 σ.next 0=some (.fz w0 a0 O.length (pis O)):=by rw [←hH];simp only [pwA,seval,-iQ0]
 have r2:H.rd (σ.next+1) 0 3=some [vO',vP',vC']:=by rw [←hH];simp only [pwA,seval,-iQ0]
 clear hH;refine zC (fun m vs h=>∃(i:Nat),i≤O.length∧m=O.length-i∧vs=[.ptr σ.next 0,.ptr (σ.next+1) 0,.int .i64 (tpF (nEl O') i:Nat),.int .i64 i]∧h=H) O.length ?_ ?_
 ·exact⟨0,Nat.zero_le _,rfl,rfl,rfl⟩
 rintro m vs h ⟨i,hi,rfl,rfl,rfl⟩
 simp only [pwA,seval,-iQ0,r10];refine iteI (fun hlt=>?_) fun hge=>?_
 rotate_left
 ·obtain rfl:i=O.length:=by omega
  exact Gh.fin0 kH trivial hk
 have hb:=zAp hN i;have hb2:=zAp hN (i+1)
 by_cases hc:tpF (nEl O') i≤4096
 ·have hcI:(tpF (nEl O') i:Int)≤4096:=by omega
  have e:tpF (nEl O') (i+1)=tpF (nEl O') i*nEl O':=by rw [tpF,if_pos hc]
  have wm:IntKind.i64.wrap ((tpF (nEl O') i:Int)*ordF O' O'.length)=((tpF (nEl O') (i+1):Nat):Int):=by
   rw [hNe,←Int.natCast_mul,←e,wrap64 (by omega) (by omega)]
  simp only [pwA,seval,-iQ0,hcI,r2,q0,q1,q2];refine zBt s' hR' ?_;simp only [pwA,seval,-iQ0,wm,wrapS hlt (by omega:O.length≤4611686018427387904)]
  exact⟨_,by omega,i+1,by omega,rfl,rfl⟩
 ·have hcI:¬(tpF (nEl O') i:Int)≤4096:=by omega
  have e:tpF (nEl O') (i+1)=tpF (nEl O') i:=by rw [tpF,if_neg hc]
  simp only [pwA,seval,-iQ0,hcI,wrapS hlt (by omega:O.length≤4611686018427387904)]
  exact⟨_,by omega,i+1,by omega,rfl,by rw [e]⟩
theorem zJa (hR:IsPr vO vP vC O P C) (sz:SzP O P C) (hR':IsPr vO' vP' vC' O' P' C') (sz':SzP O' P' C') (hk:K (.int .i64 (homC O P C O' P' C')) σ):zA Tryz.prog 53 [.agg [vO,vP,vC],.agg [vO',vP',vC']] σ K:=by
 have g0:=hR.O.one;have g1:=hR.P.one;have g2:=hR.C.one;have q0:=hR'.O.one;have q1:=hR'.P.one;have q2:=hR'.C.one;unfold homC at hk
 refine zA.gh ?_;refine zD mix Tryz.func53 ?_;simp only [pwA,seval,-iQ0,g0,g1,g2,q0,q1,q2];generalize hH:(σ.new [vO,vP,vC]).new [vO',vP',vC']=H;have kH:Keep σ H:=by rw [←hH];exact(zB _ _).new _
 have r1:H.rd σ.next 0 3=some [vO,vP,vC]:=by rw [←hH];simp only [pwA,seval,-iQ0]
 have r2:H.rd (σ.next+1) 0 3=some [vO',vP',vC']:=by rw [←hH];simp only [pwA,seval,-iQ0]
 clear hH;simp only [pwA,seval,-iQ0,r1,g0,g1,g2];refine Q9 hR sz fun t ht=>?_
 cases t with
 | false=>
  simp only [pwA,seval,-iQ0];rw [if_neg fun h=>by have:=ht.2 h.1;cases this]at hk
  exact Gh.fin0 kH trivial hk
 | true=>
 have gp:=ht.1 rfl;simp only [pwA,seval,-iQ0,r2,q0,q1,q2];refine Q9 hR' sz' fun t ht=>?_
 cases t with
 | false=>
  simp only [pwA,seval,-iQ0];rw [if_neg fun h=>by have:=ht.2 h.2;cases this]at hk
  exact Gh.fin0 kH trivial hk
 | true=>
 have gq:=ht.1 rfl;rw [if_pos ⟨gp,gq⟩]at hk
 simp only [pwA,seval,-iQ0,r1,r2,g0,g1,g2,q0,q1,q2];refine zCY gp.1.shp.le hR gq.1 hR' ?_
 by_cases hc:4096<tpF (nEl O') O.length
 ·have hcI:(4096:Int)<(tpF (nEl O') O.length:Int):=by omega
  rw [if_pos hc]at hk
  simp only [pwA,seval,-iQ0,hcI];exact Gh.fin0 kH trivial hk
 ·have hcI:¬(4096:Int)<(tpF (nEl O') O.length:Int):=by omega
  rw [if_neg hc]at hk
  simp only [pwA,seval,-iQ0,hcI];exact Gh.fin0 kH trivial hk
theorem zH7 (hp':qE O' P' C') (hR':IsPr vO' vP' vC' O' P' C') (hn:n≤6) (ht:t≤3000000) (hk:∀v,FII v (tpI O' (nEl O') n t)→K v σ):zA Tryz.prog 56 [.agg [vO',vP',vC'],.int .i64 n,.int .i64 t] σ K:=by
 have q0:=hR'.O.one;have q1:=hR'.P.one;have q2:=hR'.C.one;have s':=hp'.shp;have hN:=zEV hp';obtain⟨hNe,hN1⟩:=zGh s';refine zA.gh ?_;refine zD mix Tryz.func56 ?_;have w0:IntKind.i64.wrap ((n:Int)-1)=(n:Int)-1:=wrap64 (by omega) (by omega)
 simp only [pwA,seval,-iQ0,q0,q1,q2,mk8 (n:=n) (by omega),w0]
 generalize hH:σ.new [vO',vP',vC']=H;have kH:Keep σ H:=by rw [←hH];exact zB _ _
 have o2:H.obj σ.next=some [vO',vP',vC']:=by rw [←hH];simp only [pwA,seval,-iQ0]
 have hn1:H.next=σ.next+1:=by rw [←hH];rfl
 rw [←hn1];clear hH;have nv:∀c:Nat,(List.replicate c (PV.fz true AV.nils 0 [])).length=c:=fun c=>List.length_replicate
 refine⟨⟨by simp;omega,by omega⟩,?_⟩
 refine zC (fun m vs h'=>∃(c tj:Nat) (cs:List PV) (sfx:List Nat),c≤n∧m=c∧vs=[.int .i64 tj,.ptr σ.next 0,.sl H.next 0 n (.known n),.int .i64 ((c:Int)-1)]∧Keep H h'∧H.next<h'.next∧h'.obj H.next=some (List.replicate c (PV.fz true AV.nils 0 [])++cs)∧All2 FI cs (sfx.map (dgs O' O'.length))∧c+sfx.length=n∧tpD (nEl O') c tj++sfx=tpD (nEl O') n t∧tj≤t) n ?_ ?_
 ·exact⟨n,t,[],[],Nat.le_refl _,rfl,rfl,zB H _,Nat.lt_succ_self _,by rw [List.append_nil,zH,if_pos rfl],All2.nil _,rfl,by rw [List.append_nil],Nat.le_refl _⟩
 rintro m vs h' ⟨c,tj,cs,sfx,hc,rfl,rfl,hk',hlt0,hob,hall,hlen,hdig,htj⟩
 have r2:h'.rd σ.next 0 3=some [vO',vP',vC']:=by rw [ZE (by rw [hk'.obj _ (by omega)];exact o2)];rfl
 have hcl:cs.length=sfx.length:=by have:=hall.1;rwa [List.length_map]at this
 cases m with
 | zero=>
  simp only [pwA,seval,-iQ0,show ¬((0:Int)≤((0:Nat):Int)-1) by omega]
  have e:sfx=tpD (nEl O') n t:=by simpa [tpD]using hdig
  have hnl:n=cs.length:=by omega
  have h2:h'.obj H.next=some cs:=by simpa using hob
  refine Gh.finF (kH.trans hk') h2 (by omega) (hall.bI 0) (show full 1 (.known n) n from .inr rfl).ok fun o=>hk _ ⟨true,.sl o 0 n (.known n),cs,by rw [zBV],by rw [e]at hall;exact hall⟩
 | succ c=>
  have e:((c+1:Nat):Int)-1=(c:Int):=by omega
  have hN0:¬((nEl O':Nat):Int)=0:=by omega
  have et:(tj:Int).tmod (nEl O':Int)=((tj % nEl O':Nat):Int):=rfl;have ed:(tj:Int).tdiv (nEl O':Int)=((tj / nEl O':Nat):Int):=rfl;have hdl:tj / nEl O'≤tj:=Nat.div_le_self _ _;have hml:tj % nEl O'<nEl O':=Nat.mod_lt _ (by omega)
  have ewq0:∀q:Nat,q≤tj→IntKind.i64.wrap (q:Int)=(q:Int):=fun q hq=>wrap64 (by omega) (by omega)
  have ewq:=ewq0 _ hdl;have ew2:IntKind.i64.wrap ((c:Int)-1)=(c:Int)-1:=wrap64 (by omega) (by omega)
  rw [e];have hcn:c<n:=by omega
  have hcn':(c:Int)<(n:Int):=by omega
  have c0:(0:Int)≤(c:Int):=by omega
  simp only [pwA,seval,-iQ0,r2,q0,q1,q2,c0,zg,qb];refine zBt s' hR' ?_;rw [hNe];simp only [pwA,seval,-iQ0,r2,q0,q1,q2,hN0,et,zg,qb];refine zOU s' hR' (by omega) fun v hv=>?_
  obtain⟨wv,av,hve⟩:=hv;have hv:FI v _:=⟨wv,av,hve⟩;have v1:=hv.one;have vc:v.cells=[v]:=by rw [hve];rfl
  have hw:h'.wr H.next c [v]=some (h'.set H.next (List.replicate c (PV.fz true AV.nils 0 [])++(v::cs))):=by
   rw [qf hob,if_pos ⟨by simp,by simp [v1]⟩]
   congr 2
   rw [List.take_append_of_le_length (by simp),List.take_replicate,show min c (c+1)=c by omega,List.drop_append_of_le_length (by simp)]
   simp [List.drop_replicate]
  have r3:(h'.set H.next (List.replicate c (PV.fz true AV.nils 0 [])++(v::cs))).rd σ.next 0 3=some [vO',vP',vC']:=by rw [Zu,if_neg (by omega)];exact r2
  have k3:Keep H (h'.set H.next (List.replicate c (PV.fz true AV.nils 0 [])++(v::cs))):=hk'.set (Nat.le_refl _) _;have o3:(h'.set H.next (List.replicate c (PV.fz true AV.nils 0 [])++(v::cs))).obj H.next=some (List.replicate c (PV.fz true AV.nils 0 [])++(v::cs)):=by simp [PHeap.set]
  have n3:(h'.set H.next (List.replicate c (PV.fz true AV.nils 0 [])++(v::cs))).next=h'.next:=rfl;simp only [pwA,seval,-iQ0,v1,vc,hcn,hcn',hw,r3,zg,qb];generalize h'.set H.next (List.replicate c (PV.fz true AV.nils 0 [])++(v::cs))=G at *
  simp only [pwA,seval,-iQ0,r3,q0,q1,q2];refine zBt s' hR' ?_;rw [hNe];simp only [pwA,seval,-iQ0,hN0,ed,ewq,ew2];refine⟨c,by omega,c,tj / nEl O',v::cs,(tj % nEl O')::sfx,by omega,rfl,rfl,k3,by omega,o3,?_,by simp only [List.length_cons];omega,?_,by omega⟩
  ·refine⟨by simp [hcl],fun k a b ha hb=>?_⟩
   cases k with
   | zero=>
    simp only [List.map_cons,List.getElem?_cons_zero,Option.some.injEq]at ha hb
    subst ha;subst hb;exact hv
   | succ k=>
    simp only [List.map_cons,List.getElem?_cons_succ]at ha hb
    exact hall.2 k a b ha hb
  ·rw [←hdig,tpD,List.append_assoc];rfl
open Classical in
theorem zAr (hR:IsPr vO vP vC O P C) (sz:SzP O P C) (hR':IsPr vO' vP' vC' O' P' C') (sz':SzP O' P' C') (hk:K (.tup [.int .i64 (homK O P C O' P' C'),.int .i64 (homC O P C O' P' C')]) σ):zA Tryz.prog 22 [.agg [vO,vP,vC],.agg [vO',vP',vC']] σ K:=by
 have g0:=hR.O.one;have g1:=hR.P.one;have g2:=hR.C.one;have q0:=hR'.O.one;have q1:=hR'.P.one;have q2:=hR'.C.one;refine zA.gh ?_;refine zD mix Tryz.func22 ?_;simp only [pwA,seval,-iQ0,g0,g1,g2,q0,q1,q2];generalize hH:(σ.new [vO,vP,vC]).new [vO',vP',vC']=H;have kH:Keep σ H:=by rw [←hH];exact(zB _ _).new _
 have r1:H.rd σ.next 0 3=some [vO,vP,vC]:=by rw [←hH];simp only [pwA,seval,-iQ0]
 have r10:H.rd1 σ.next 0=some vO:=by rw [←hH];simp only [pwA,seval,-iQ0]
 have r2:H.rd (σ.next+1) 0 3=some [vO',vP',vC']:=by rw [←hH];simp only [pwA,seval,-iQ0]
 clear hH;simp only [pwA,seval,-iQ0,r1,r2,g0,g1,g2,q0,q1,q2];refine zJa hR sz hR' sz' ?_
 by_cases hc:homC O P C O' P' C'=0
 rotate_left
 ·have e:homK O P C O' P' C'=0:=by unfold homK;rw [if_neg hc]
  rw [e]at hk
  simp only [pwA,seval,-iQ0,hc,decide_false];exact Gh.fin0 kH ⟨trivial,trivial,trivial⟩ hk
 have hk2:homK O P C O' P' C'=(homN O P C O' P' C' (tpF (nEl O') O.length):Int):=by unfold homK;rw [if_pos hc]
 have gps:(qE O P C∧Cons O P C)∧(qE O' P' C'∧Cons O' P' C'):=by
  refine Classical.byContradiction fun h=>?_
  unfold homC at hc
  rw [if_neg h]at hc
  exact absurd hc (by decide)
 obtain⟨gp,gq⟩:=gps;have g:LG O P C:=⟨gp.1,gp.2⟩;have g':LG O' P' C':=⟨gq.1,gq.2⟩;have hn6:=g.s.le;have hTb:=zAp (zEV gq.1) O.length;have hRR:=hR;obtain⟨⟨w0,a0,rfl⟩,hRP,hRC⟩:=hR;rw [hk2,hc]at hk
 simp only [pwA,seval,-iQ0,hc];refine zC (fun m vs h=>∃(k:Nat),k≤tpF (nEl O') O.length∧m=tpF (nEl O') O.length-k∧vs=[.ptr σ.next 0,.ptr (σ.next+1) 0,.int .i64 (homN O P C O' P' C' k:Nat),.int .i64 k]∧h=H) (tpF (nEl O') O.length) ?_ ?_
 ·exact⟨0,Nat.zero_le _,rfl,rfl,rfl⟩
 rintro m vs h ⟨k,hi,rfl,rfl,rfl⟩
 simp only [pwA,seval,-iQ0,r1,r2,g0,g1,g2,q0,q1,q2];refine zCY hn6 hRR gq.1 hR' ?_;have hkb:=zFG (O:=O) (P:=P) (C:=C) (O':=O') (P':=P') (C':=C') k;rcases Nat.lt_or_ge k (tpF (nEl O') O.length)with hlt|hge
 rotate_left
 ·obtain rfl:k=tpF (nEl O') O.length:=by omega
  have n1:¬((tpF (nEl O') O.length:Nat):Int)<((tpF (nEl O') O.length:Nat):Int):=by omega
  simp only [pwA,seval,-iQ0,n1];exact Gh.fin0 kH ⟨trivial,trivial,trivial⟩ hk
 have hlt':(k:Int)<((tpF (nEl O') O.length:Nat):Int):=by omega
 have wk:IntKind.i64.wrap ((k:Int)+1)=((k+1:Nat):Int):=by rw [wrap64 (by omega) (by omega)];omega
 have wn:IntKind.i64.wrap ((homN O P C O' P' C' k:Int)+1)=((homN O P C O' P' C' k+1:Nat):Int):=by rw [wrap64 (by omega) (by omega)];omega
 simp only [pwA,seval,-iQ0,hlt',r1,r2,r10,g1,g2,q0,q1,q2,zg,qb];refine zH7 gq.1 hR' hn6 (by omega) fun vD hD=>?_
 have hD1:=hD.one;simp only [pwA,seval,-iQ0,hlt',r1,r2,g1,g2,q0,q1,q2,hD1,zg,qb];refine zFC gp.1 hRR g' hR' hD zBV (zKE g'.s) fun t ht=>?_
 cases t with
 | true=>
  have e:homN O P C O' P' C' (k+1)=homN O P C O' P' C' k+1:=by rw [homN,if_pos (ht.1 rfl)]
  simp only [pwA,seval,-iQ0,wk,wn];exact⟨_,by omega,k+1,by omega,rfl,by rw [e]⟩
 | false=>
  have e:homN O P C O' P' C' (k+1)=homN O P C O' P' C' k:=by rw [homN,if_neg fun h=>by have:=ht.2 h;cases this];rfl
  simp only [pwA,seval,-iQ0,wk];exact⟨_,by omega,k+1,by omega,rfl,by rw [e]⟩
end Go.Proofs
namespace Go.Grp
end Go.Grp
namespace Go.Proofs
open Go.Ab Go.Lie Go.Grp
variable {σ h hE:PHeap} {K:PV→PHeap→Prop} {O O' x y w:List Int} {P P':List (List Int)} {C C':List (List (List Int))} {vO vP vC vO' vP' vC' vx vL vU vZ vw vD vR v:PV} {L u Z D R:List (List Int)} {sp sq n N t:Nat}
theorem zIK {k0:Nat} (s:Shp O P C) (hs:PtrG σ sp vO vP vC) (hO:FI vO O) (hk0:k0≤1000000) (hk:∀v,FI v (dgs O O.length k0)→v.cells=[v]→K v σ):zA Tryz.prog 101 [.ptr sp 0,.int .i64 k0] σ K:=
 zA.fz (l:=O.length) (e:=1) (cs:=pis (dgs O O.length k0)) (fun K' k'=>zHA s hs hO hk0 (k' _ (.inr rfl))) (zh _ _) fun o cap=>hk _ ⟨true,.sl o 0 O.length cap,by rw [zAf]⟩ rfl
theorem PAcc.sb_id {h':PHeap} {b m s:Nat} {rows:List PV} (a:PAcc b 1 h' v m rows) (hs:h'.next≤s) (o:Nat) (cs:List PV):sb s o cs v=v:=by
 rcases a with ⟨rfl,rfl,rfl⟩|⟨s',cap,rfl,hc,q2,q3,q4,q5⟩
 ·rfl
 ·simp only [sb]
  rw [if_neg (by rintro ⟨e,_⟩;omega)]
open Classical in
set_option maxHeartbeats 1600000 in
theorem zGx (hs:PtrG σ sp vO vP vC) (hR:IsPr vO vP vC O P C) (sz:SzP O P C) (hs':PtrG σ sq vO' vP' vC') (hR':IsPr vO' vP' vC' O' P' C') (sz':SzP O' P' C')
  (hk:∀(a:AV) (m:Nat) (rows:List PV),(m:Int)=homK O P C O' P' C'→K (.tup [.fz true a m rows,.int .i64 (homC O P C O' P' C')]) σ):zA Tryz.prog 62 [.ptr sp 0,.ptr sq 0] σ K:=by
 have g0:=hR.O.one;have g1:=hR.P.one;have g2:=hR.C.one;have q0:=hR'.O.one;have q1:=hR'.P.one;have q2:=hR'.C.one;have r1:σ.rd sp 0 3=some [vO,vP,vC]:=by rw [ZE hs.obj];rfl
 have r2:σ.rd sq 0 3=some [vO',vP',vC']:=by rw [ZE hs'.obj];rfl
 have bad:∀{c:Int},homC O P C O' P' C'=c→c≠0→Gh σ K (.tup [.fz true .nils 0 [],.int .i64 c]) σ:=fun {c} hc h0=>by
  have e:homK O P C O' P' C'=0:=by unfold homK;rw [if_neg (by rw [hc];exact h0)]
  exact Gh.fin0 (Keep.refl σ) ⟨trivial,trivial,trivial⟩ (hc ▸ hk .nils 0 [] (by rw [e];decide))
 refine zA.gh ?_;refine zD mix Tryz.func62 ?_;simp only [pwA,seval,-iQ0,r1,g0,g1,g2];refine Zx hR sz fun t ht=>?_
 cases t with
 | false=>
  simp only [pwA,seval,-iQ0];exact bad (by unfold homC;rw [if_neg fun h=>by have:=ht.2 h.1;cases this]) (by decide)
 | true=>
 have gp:=ht.1 rfl;simp only [pwA,seval,-iQ0,r2,q0,q1,q2];refine Zx hR' sz' fun t ht=>?_
 cases t with
 | false=>
  simp only [pwA,seval,-iQ0];exact bad (by unfold homC;rw [if_neg fun h=>by have:=ht.2 h.2;cases this]) (by decide)
 | true=>
 have gq:=ht.1 rfl;have gL:LG O P C:=⟨gp.1,gp.2⟩;have g':LG O' P' C':=⟨gq.1,gq.2⟩;have hn6:=gL.s.le;have s':=g'.s;have hN:=zEV gq.1;obtain⟨hNe,hN1⟩:=zGh s';have hRR:=hR;obtain⟨⟨w0,a0,rfl⟩,hRP,hRC⟩:=hR;have r10:σ.rd1 sp 0=some (.fz w0 a0 O.length (pis O)):=by rw [zi hs.obj];rfl
 have hcode:homC O P C O' P' C'=if 4096<tpF (nEl O') O.length then 3 else 0:=by unfold homC;rw [if_pos ⟨gp,gq⟩]
 simp only [pwA,seval,-iQ0];refine zK3 s' hs' hR'.O ?_;rw [hNe];simp only [pwA,seval,-iQ0,r10];refine zC (fun m vs h=>∃(i:Nat),i≤O.length∧m=O.length-i∧vs=[.ptr sp 0,.ptr sq 0,.int .i64 (nEl O':Nat),.int .i64 (tpF (nEl O') i:Nat),.int .i64 O.length,.int .i64 i]∧σ=h∧tpF (nEl O') i≤4096) O.length ?_ ?_
 ·exact⟨0,Nat.zero_le _,rfl,rfl,rfl,by simp [tpF]⟩
 rintro m vs h ⟨i,hi,rfl,rfl,rfl,hle⟩
 simp only [pwA,seval,-iQ0];refine iteI (fun hlt=>?_) fun hge=>?_
 ·have hb2:=zAp hN (i+1)
  have e:tpF (nEl O') (i+1)=tpF (nEl O') i*nEl O':=by rw [tpF,if_pos hle]
  have wm:IntKind.i64.wrap ((tpF (nEl O') i:Int)*(nEl O':Int))=((tpF (nEl O') (i+1):Nat):Int):=by
   rw [←Int.natCast_mul,←e,wrap64 (by omega) (by omega)]
  by_cases hc:4096<tpF (nEl O') (i+1)
  ·have hcI:(4096:Int)<((tpF (nEl O') (i+1):Nat):Int):=by omega
   simp only [pwA,seval,-iQ0,wm,hcI];exact bad (by rw [hcode,if_pos (zF7 hc _ (by omega))]) (by decide)
  ·have hcI:¬(4096:Int)<((tpF (nEl O') (i+1):Nat):Int):=by omega
   simp only [pwA,seval,-iQ0,wm,hcI,wrapS hlt (by omega:O.length≤4611686018427387904)]
   exact⟨_,by omega,i+1,by omega,rfl,rfl,by omega⟩
 obtain rfl:i=O.length:=by omega
 have hc0:homC O P C O' P' C'=0:=by rw [hcode,if_neg (by omega)]
 have hk2:homK O P C O' P' C'=(homN O P C O' P' C' (tpF (nEl O') O.length):Int):=by unfold homK;rw [if_pos hc0]
 rw [hk2,hc0]at hk
 simp only [pwA,seval,-iQ0,r1,g1,g2];refine zA9 gp.1 sz hRR fun vR R hvR ⟨hok,hall⟩ hRl=>?_
 obtain⟨wR,aR,rR,rfl,hrR⟩:=hvR;simp only [pwA,seval,-iQ0];refine Zi (fun m vs h'=>∃(k:Nat) (v:PV) (rows:List PV) (Ds:List (List (List Int))),k≤tpF (nEl O') O.length∧m=tpF (nEl O') O.length-k∧vs=[.ptr sp 0,.ptr sq 0,.int .i64 (nEl O':Nat),.fz wR aR R.length rR,v,.int .i64 (tpF (nEl O') O.length:Nat),.int .i64 k]∧Keep σ h'∧PAcc σ.next 1 h' v (homN O P C O' P' C' k) rows∧All2 FII rows Ds) (tpF (nEl O') O.length) ?_ ?_
 ·exact .here ⟨0,_,[],[],Nat.zero_le _,rfl,rfl,Keep.refl σ,PAcc.nil _ _ _,All2.nil _⟩
 rintro m vs h' ⟨k,v,rows,Ds,hk',rfl,rfl,hkp,ha,hall2⟩
 have one:=ha.one;simp only [pwA,seval,-iQ0,one];refine iteI (fun hlt=>?_) fun hge=>?_
 rotate_left
 ·obtain rfl:k=tpF (nEl O') O.length:=by omega
  rcases ha with ⟨rfl,e1,e2⟩|⟨s,cap,rfl,hc,p2,p3,p4,p5⟩
  ·exact Gh.fin0 hkp ⟨trivial,trivial,trivial⟩ (hk _ 0 [] (by rw [e1]))
  ·refine Gh.freeze (s:=s) (cs:=rows) p2 p4 (hall2.bL 0) fun o z1 z2 z3=>?_
   simp only [sb,sbs,hc.ok,and_self,if_true];exact Gh.fin0 ((hkp.kill p4).up (by simp only [PHeap.kill];omega)) ⟨trivial,trivial,trivial⟩ (hk _ _ _ rfl)
 have hlt':(k:Int)<((tpF (nEl O') O.length:Nat):Int):=by omega
 have r1':h'.rd1 sp 0=some (.fz w0 a0 O.length (pis O)):=by rw [zi (by rw [hkp.obj _ hs.lt];exact hs.obj)];rfl
 have ew0:IntKind.i64.wrap ((O.length:Int)-1)=(O.length:Int)-1:=wrap64 (by omega) (by omega)
 simp only [pwA,seval,-iQ0,one,hlt,hlt',r1',ew0];refine⟨⟨by simp;omega,by omega⟩,?_⟩
 have hs'':=hs'.keep hkp;refine Zi (fun m vs g=>∃(c tj:Nat) (vI:PV),c≤O.length∧m=c∧vs=[.ptr sp 0,.ptr sq 0,.int .i64 (nEl O':Nat),.fz wR aR R.length rR,v,.int .i64 tj,vI,.int .i64 ((c:Int)-1),.int .i64 (tpF (nEl O') O.length:Nat),.int .i64 k]∧Keep h' g∧
   ((1≤c∧vI=.sl h'.next 0 O.length (.known O.length)∧h'.next<g.next∧∃(cs:List PV) (sfx:List Nat),g.obj h'.next=some (List.replicate c (PV.fz true AV.nils 0 [])++cs)∧All2 FI cs (sfx.map (dgs O' O'.length))∧c+sfx.length=O.length∧tpD (nEl O') c tj++sfx=tpD (nEl O') O.length k∧tj≤k)∨(c=0∧FII vI (tpI O' (nEl O') O.length k)))) O.length ?_ ?_
 ·have nv:(List.replicate O.length (PV.fz true AV.nils 0 [])).length=O.length:=List.length_replicate
  by_cases h0:O.length=0
  ·refine .fz h'.next (List.replicate O.length (PV.fz true AV.nils 0 [])) (by rw [zH,if_pos rfl]) (by rw [h0];trivial) fun o=>?_
   have hcap:capOK (.known O.length) O.length=true:=by simp [capOK]
   refine .here ⟨0,k,.fz true (.sl o 0 O.length (.known O.length)) O.length (List.replicate O.length (PV.fz true AV.nils 0 [])),Nat.zero_le _,h0,?_,(zB h' _).kill (Nat.le_refl _),.inr ⟨rfl,?_⟩⟩
   ·show sbs h'.next o _ [PV.ptr sp 0,.ptr sq 0,.int .i64 (nEl O':Nat),.fz wR aR R.length rR,v,.int .i64 k,.sl h'.next 0 O.length (.known O.length),.int .i64 ((O.length:Int)-1),.int .i64 (tpF (nEl O') O.length:Nat),.int .i64 k]=_
    simp only [sbs,sb,PAcc.sb_id ha (Nat.le_refl _),hcap,and_self,if_true];rw [show((O.length:Int)-1)=((0:Nat):Int)-1 by omega]
   ·have e:tpI O' (nEl O') O.length k=[]:=by rw [h0];rfl
    rw [e,h0];exact⟨true,_,[],rfl,All2.nil _⟩
  ·exact .here ⟨O.length,k,_,Nat.le_refl _,rfl,rfl,zB h' _,.inl ⟨by omega,rfl,Nat.lt_succ_self _,[],[],by rw [List.append_nil,zH,if_pos rfl],All2.nil _,rfl,by rw [List.append_nil],Nat.le_refl _⟩⟩
 rintro m vs g ⟨c,tj,vI,hc,rfl,rfl,hkg,hor⟩
 rcases hor with ⟨hc1,rfl,hlt0,cs,sfx,hob,hall,hlen,hdig,htj⟩|⟨rfl,hD⟩
 ·obtain⟨c,rfl⟩:∃c',m=c'+1:=⟨m-1,by omega⟩
  have hcl:cs.length=sfx.length:=by have:=hall.1;rwa [List.length_map]at this
  have e:((c+1:Nat):Int)-1=(c:Int):=by omega
  have hN0:¬((nEl O':Nat):Int)=0:=by omega
  have et:(tj:Int).tmod (nEl O':Int)=((tj % nEl O':Nat):Int):=rfl;have ed:(tj:Int).tdiv (nEl O':Int)=((tj / nEl O':Nat):Int):=rfl;have hdl:tj / nEl O'≤tj:=Nat.div_le_self _ _;have hml:tj % nEl O'<nEl O':=Nat.mod_lt _ (by omega)
  have hTb:=zAp hN O.length;have ewq0:∀q:Nat,q≤tj→IntKind.i64.wrap (q:Int)=(q:Int):=fun q hq=>wrap64 (by omega) (by omega)
  have ewq:=ewq0 _ hdl;have ew2:IntKind.i64.wrap ((c:Int)-1)=(c:Int)-1:=wrap64 (by omega) (by omega)
  rw [e];have hcn:c<O.length:=by omega
  have hcn':(c:Int)<(O.length:Int):=by omega
  have c0:(0:Int)≤(c:Int):=by omega
  simp only [pwA,seval,-iQ0,one,c0,hN0,et];refine zIK s' (hs''.keep hkg) hR'.O (by omega) fun v1 hv hvc=>?_
  have v1o:=hv.one;have hw:g.wr h'.next c [v1]=some (g.set h'.next (List.replicate c (PV.fz true AV.nils 0 [])++(v1::cs))):=by
   rw [qf hob,if_pos ⟨by simp,by simp [v1o]⟩]
   congr 2
   rw [List.take_append_of_le_length (by simp),List.take_replicate,show min c (c+1)=c by omega,List.drop_append_of_le_length (by simp)]
   simp [List.drop_replicate]
  have k3:Keep h' (g.set h'.next (List.replicate c (PV.fz true AV.nils 0 [])++(v1::cs))):=hkg.set (Nat.le_refl _) _;have o3:(g.set h'.next (List.replicate c (PV.fz true AV.nils 0 [])++(v1::cs))).obj h'.next=some (List.replicate c (PV.fz true AV.nils 0 [])++(v1::cs)):=by simp [PHeap.set]
  have n3:(g.set h'.next (List.replicate c (PV.fz true AV.nils 0 [])++(v1::cs))).next=g.next:=rfl;have hall':All2 FI (v1::cs) ((tj % nEl O'::sfx).map (dgs O' O'.length)):=by
   refine⟨by simp [hcl],fun k a b ha hb=>?_⟩
   cases k with
   | zero=>
    simp only [List.map_cons,List.getElem?_cons_zero,Option.some.injEq]at ha hb
    subst ha;subst hb;exact hv
   | succ k=>
    simp only [List.map_cons,List.getElem?_cons_succ]at ha hb
    exact hall.2 k a b ha hb
  have hdig':tpD (nEl O') c (tj / nEl O')++(tj % nEl O'::sfx)=tpD (nEl O') O.length k:=by rw [←hdig,tpD,List.append_assoc];rfl
  simp only [pwA,seval,-iQ0,one,v1o,hvc,hcn,hcn',hw];generalize g.set h'.next (List.replicate c (PV.fz true AV.nils 0 [])++(v1::cs))=G at *
  simp only [pwA,seval,-iQ0,one,hN0,ed,ewq,ew2];refine⟨c,by omega,?_⟩
  by_cases hc2:c=0
  ·subst hc2
   have oG:G.obj h'.next=some (v1::cs):=by simpa using o3
   refine .fz h'.next (v1::cs) oG (hall'.bI 0) fun o=>?_
   have hcap:capOK (.known O.length) O.length=true:=by simp [capOK]
   refine .here ⟨0,tj / nEl O',.fz true (.sl o 0 O.length (.known O.length)) O.length (v1::cs),Nat.zero_le _,rfl,?_,k3.kill (Nat.le_refl _),.inr ⟨rfl,true,.sl o 0 O.length (.known O.length),v1::cs,by rw [zBV],?_⟩⟩
   ·show sbs h'.next o _ [PV.ptr sp 0,.ptr sq 0,.int .i64 (nEl O':Nat),.fz wR aR R.length rR,v,.int .i64 (tj / nEl O':Nat),.sl h'.next 0 O.length (.known O.length),.int .i64 (((0:Nat):Int)-1),.int .i64 (tpF (nEl O') O.length:Nat),.int .i64 k]=_
    simp only [sbs,sb,PAcc.sb_id ha (Nat.le_refl _),hcap,and_self,if_true]
   ·have e5:(tj % nEl O'::sfx)=tpD (nEl O') O.length k:=by simpa [tpD]using hdig'
    rw [e5]at hall'
    exact hall'
  ·exact .here ⟨c,tj / nEl O',_,by omega,rfl,rfl,k3,.inl ⟨by omega,rfl,by omega,v1::cs,tj % nEl O'::sfx,o3,hall',by simp only [List.length_cons];omega,hdig',by omega⟩⟩
 have n1:¬((0:Int)≤((0:Nat):Int)-1):=by omega
 have hD1:=hD.one;have hDc:vI.cells=[vI]:=by obtain⟨w,a,r,rfl,_⟩:=hD;rfl
 have hkg2:=hkp.trans hkg;have ha2:=ha.keep hkg;simp only [pwA,seval,-iQ0,one,n1,hD1];refine zHX g' (hs'.keep hkg2) hR' ⟨wR,aR,rR,rfl,hrR⟩ (fun r hr=>by rw [zBV];exact(hok r hr).facts gL.s) hRl hD (by rw [zBV];omega) (zKE s') fun t ht=>?_
 have hkb:=zFG (O:=O) (P:=P) (C:=C) (O':=O') (P':=P') (C':=C') k;have hTb:=zAp hN O.length;have wk:IntKind.i64.wrap ((k:Int)+1)=((k+1:Nat):Int):=by rw [wrap64 (by omega) (by omega)];omega
 cases t with
 | true=>
  have e:homN O P C O' P' C' (k+1)=homN O P C O' P' C' k+1:=by rw [homN,if_pos (show zGF O P C O' P' C' (tpI O' (nEl O') O.length k) from fun r hr=>ht.1 rfl r (hall r hr))]
  simp only [pwA,seval,-iQ0,one,hD1,hDc];refine PAcc.push (bytes:=24) (σb:=σ) hkg2 ha2 (by omega) (by omega) fun v2 h2 k2 a2=>?_
  have one2:=a2.one;simp only [pwA,seval,-iQ0,one2,wk];refine⟨_,by omega,.here ⟨k+1,v2,rows++[vI],Ds++[tpI O' (nEl O') O.length k],by omega,rfl,rfl,k2,by rw [e];exact a2.acc,hall2.snoc hD⟩⟩
 | false=>
  have e:homN O P C O' P' C' (k+1)=homN O P C O' P' C' k:=by rw [homN,if_neg fun h=>by have:=ht.2 fun r hr=>h r (hok r hr);cases this];rfl
  simp only [pwA,seval,-iQ0,one,wk];exact⟨_,by omega,.here ⟨k+1,v,rows,Ds,by omega,rfl,rfl,hkg2,by rw [e];exact ha2,hall2⟩⟩
theorem zCs (hR:IsPr vO vP vC O P C) (sz:SzP O P C) (hR':IsPr vO' vP' vC' O' P' C') (sz':SzP O' P' C') (hk:K (.tup [.int .i64 (homK O P C O' P' C'),.int .i64 (homC O P C O' P' C')]) σ):zA Tryz.prog 29 [.agg [vO,vP,vC],.agg [vO',vP',vC']] σ K:=by
 have g0:=hR.O.one;have g1:=hR.P.one;have g2:=hR.C.one;have q0:=hR'.O.one;have q1:=hR'.P.one;have q2:=hR'.C.one;refine zA.gh ?_;refine zD mix Tryz.func29 ?_;simp only [pwA,seval,-iQ0,g0,g1,g2,q0,q1,q2];generalize hH:(σ.new [vO,vP,vC]).new [vO',vP',vC']=H;have kH:Keep σ H:=by rw [←hH];exact(zB _ _).new _
 have o1:H.obj σ.next=some [vO,vP,vC]:=by rw [←hH];simp only [pwA,seval,-iQ0]
 have o2:H.obj (σ.next+1)=some [vO',vP',vC']:=by rw [←hH];simp only [pwA,seval,-iQ0]
 have hn:H.next=σ.next+2:=by rw [←hH];rfl
 clear hH;refine zGx ⟨o1,by omega⟩ hR sz ⟨o2,by omega⟩ hR' sz' fun a m rows hm=>?_
 simp only [pwA,seval,-iQ0,hm];exact Gh.fin0 kH ⟨trivial,trivial,trivial⟩ hk
end Go.Proofs
namespace Go.Grp
end Go.Grp
namespace Go.Proofs
open Go.Ab Go.Lie Go.Grp
variable {σ h:PHeap} {K:PV→PHeap→Prop} {b t k n:Nat} {v vO vP vC uO uP uC:PV} {x O O2:List Int} {P P2:List (List Int)} {C C2:List (List (List Int))} {cs:List PV} {s:List UInt8} {p q:Pre} {G:List Pre}
noncomputable def dScan (p q:Pre):List Pre→Int×List Pre×Int
 | []=>(0,[],4)
 | r::rs=>if homC p.1 p.2.1 p.2.2 r.1 r.2.1 r.2.2≠0∨homC q.1 q.2.1 q.2.2 r.1 r.2.1 r.2.2≠0 then(0,[],3)else if homK p.1 p.2.1 p.2.2 r.1 r.2.1 r.2.2=homK q.1 q.2.1 q.2.2 r.1 r.2.1 r.2.2 then dScan p q rs else(5,[p,q,r],0)
def grpP (p:Pre):Prop:=qE p.1 p.2.1 p.2.2∧Cons p.1 p.2.1 p.2.2
def DRes (p q:Pre) (k:Int) (G:List Pre) (c:Int):Prop:=(¬(grpP p∧grpP q)∧k=0∧G=[]∧c=1)∨(grpP p∧grpP q∧dScan p q testG=(k,G,c))
theorem zFa {hE:PHeap} {g n:Nat} {k c:Int} {rows:List (PV×PV×PV)} (kk:Keep σ hE) (hg:hE.obj g=some (fl3 rows)) (h0:σ.next≤g) (hq:All2 FI3 rows G)
  (hk:∀o,σ.top≤o→o∉ZL (fl3 rows)→σ.top≤max hE.top (o+1)→K (.tup [.agg [.int .i64 k,.fz true (.sl o 0 n (.known n)) n (fl3 rows),.fz true .nils 0 []],.int .i64 c]) (σ.up (max hE.top (o+1)))):Gh σ K (.tup [.agg [.int .i64 k,.sl g 0 n (.known n),.fz true .nils 0 []],.int .i64 c]) hE:=by
 refine Gh.freeze (s:=g) (cs:=fl3 rows) hg h0 (zIk hq) fun o ho hc hv=>?_
 simp only [sb,sbs,capOK,and_self,if_true,decide_true,Nat.le_refl];exact Gh.fin0T (t:=max hE.top (o+1)) ((kk.kill h0).up (by simp only [PHeap.kill];omega)) (Nat.le_refl _) ⟨⟨trivial,trivial,trivial,trivial⟩,trivial,trivial⟩ fun _=>hk o ho hc (by have:=kk.top;omega)
theorem qE.sz (h:qE O P C):SzP O P C:=by
 have sh:=zO8 h;have q:Sq O P C:=⟨sh.pl,sh.cl,fun r hr=>sh.pe r hr,sh.row,fun q hq r hr=>sh.ce q hq r hr⟩
 exact q.sz sh.le
theorem zM0 {lo hi:Nat} {rows:List (PV×PV×PV)} {i:Nat} (h:Owns lo hi (fl3 rows)) (hi':i<rows.length):Owns lo hi [rows[i].1,rows[i].2.1,rows[i].2.2]:=by
 have e:=zAl hi';have q:fl3 rows=(fl3 rows).take (i*3)++([rows[i].1,rows[i].2.1,rows[i].2.2]++((fl3 rows).drop (i*3)).drop 3):=by
  rw [←e,List.take_append_drop,List.take_append_drop]
 rw [q]at h
 exact(h.right).left
set_option maxHeartbeats 1600000 in
theorem zA5 (sz:SzP O P C) (hR:IsPr vO vP vC O P C) (sz2:SzP O2 P2 C2) (hR2:IsPr uO uP uC O2 P2 C2)
  (hk:∀k G vG vL c t,DRes (O,P,C) (O2,P2,C2) k G c→FG vG G→FII vL []→Owns σ.top t [vG,vL]→σ.top≤t→K (.tup [.agg [.int .i64 k,vG,vL],.int .i64 c]) (σ.up t)):zA Tryz.prog 8 [.agg [vO,vP,vC],.agg [uO,uP,uC]] σ K:=by
 have g0:=hR.O.one;have g1:=hR.P.one;have g2:=hR.C.one;have f0:=hR2.O.one;have f1:=hR2.P.one;have f2:=hR2.C.one;have nilE:∀{c:Int} {g:PHeap},Keep σ g→DRes (O,P,C) (O2,P2,C2) 0 [] c→Gh σ K (.tup [.agg [.int .i64 0,.fz true .nils 0 [],.fz true .nils 0 []],.int .i64 c]) g:=fun {c g} kk h=>
  Gh.fin0T kk kk.top ⟨⟨trivial,trivial,trivial,trivial⟩,trivial,trivial⟩ fun _=>hk 0 [] _ _ c σ.top h zLN ⟨true,.nils,[],rfl,All2.nil _⟩ (((Owns.nil σ.top σ.top).snoc (Own.empty _ _ true .nils 0) (Nat.le_refl _) (Nat.le_refl _)).snoc (Own.empty _ _ true .nils 0) (Nat.le_refl _) (Nat.le_refl _)) (Nat.le_refl _)
 refine zA.gh ?_;refine zD mix Tryz.func8 ?_;simp only [pwA,seval,-iQ0,g0,g1,g2,f0,f1,f2];generalize hH:((σ.new [vO,vP,vC]).new [uO,uP,uC]).new [.int .i64 0,.fz true .nils 0 [],.fz true .nils 0 []]=H;have hHn:H.next=σ.next+3:=by rw [←hH];rfl
 have hHt:H.top=σ.top:=by rw [←hH];rfl
 have kH:Keep σ H:=by rw [←hH];exact((zB _ _).new _).new _
 have ob0:H.obj σ.next=some [vO,vP,vC]:=by rw [←hH];simp only [pwA,seval,-iQ0]
 have ob1:H.obj (σ.next+1)=some [uO,uP,uC]:=by rw [←hH];simp only [pwA,seval,-iQ0]
 have ob2:H.obj (σ.next+2)=some [.int .i64 0,.fz true .nils 0 [],.fz true .nils 0 []]:=by rw [←hH];simp only [pwA,seval,-iQ0]
 clear hH;have finN:∀{c:Int} {g:PHeap},Keep H g→DRes (O,P,C) (O2,P2,C2) 0 [] c→g.wr (σ.next+2) 0 [.int .i64 0,.fz true .nils 0 [],.fz true .nils 0 []]=some (g.set (σ.next+2) [.int .i64 0,.fz true .nils 0 [],.fz true .nils 0 []])∧
   (g.set (σ.next+2) [.int .i64 0,.fz true .nils 0 [],.fz true .nils 0 []]).rd (σ.next+2) 0 3=some [.int .i64 0,.fz true .nils 0 [],.fz true .nils 0 []]∧Gh σ K (.tup [.agg [.int .i64 0,.fz true .nils 0 [],.fz true .nils 0 []],.int .i64 c]) (g.set (σ.next+2) [.int .i64 0,.fz true .nils 0 [],.fz true .nils 0 []]):=fun {c g} kg h=>
  ⟨by rw [qf (by rw [kg.obj _ (by omega)];exact ob2),if_pos ⟨by simp,rfl⟩];rfl,by rw [Zu,if_pos rfl];rfl,nilE ((kH.trans kg).set (by omega) _) h⟩
 refine Zx hR sz fun t ht=>?_
 cases t
 ·obtain⟨e1,e2,e3⟩:=finN (c:=1) (Keep.refl H) (.inl ⟨(fun h=>by cases ht.2 h.1),rfl,rfl,rfl⟩)
  simp only [pwA,seval,-iQ0,e1,e2];exact e3
 have r1:H.rd (σ.next+1) 0 3=some [uO,uP,uC]:=by rw [ZE ob1];rfl
 simp only [pwA,seval,-iQ0,r1];refine Zx hR2 sz2 fun t2 ht2=>?_
 cases t2
 ·obtain⟨e1,e2,e3⟩:=finN (c:=1) (Keep.refl H) (.inl ⟨(fun h=>by cases ht2.2 h.2),rfl,rfl,rfl⟩)
  simp only [pwA,seval,-iQ0,e1,e2];exact e3
 have hp1:=ht.1 rfl;have hp2:=ht2.1 rfl;simp only [pwA,seval,-iQ0];refine zF9 fun rows a t1 hall how ht1=>?_
 rw [hHt]at how ht1
 have hal:=hall.1;rw [Zz]at hal
 have kU:Keep H (H.up t1):=(Keep.refl H).up (by rw [hHt];exact ht1)
 simp only [pwA,seval,-iQ0];refine zC (fun m vs g=>∃i:Nat,i≤10∧m=10-i∧vs=[.ptr σ.next 0,.ptr (σ.next+1) 0,.ptr (σ.next+2) 0,.fz true a 10 (fl3 rows),.int .i64 (10:Nat),.int .i64 i]∧Keep (H.up t1) g∧g.top=t1∧dScan (O,P,C) (O2,P2,C2) (testG.drop i)=dScan (O,P,C) (O2,P2,C2) testG) 10 ?_ ?_
 ·exact⟨0,Nat.zero_le _,rfl,rfl,Keep.refl _,rfl,rfl⟩
 rintro m vs g ⟨i,hi,rfl,rfl,kg,htop,eD⟩
 have kHg:Keep H g:=kU.trans kg;have hgn:=kg.next;have hgn':H.next≤g.next:=hgn;have fin:∀{k c:Int} {G:List Pre},dScan (O,P,C) (O2,P2,C2) testG=(k,G,c)→DRes (O,P,C) (O2,P2,C2) k G c:=fun e=>.inr ⟨hp1,hp2,e⟩
 simp only [pwA,seval,-iQ0];refine iteI (fun hlt=>?_) fun hge=>?_
 rotate_left
 ·rw [List.drop_of_length_le (by rw [Zz];omega),dScan]at eD
  obtain⟨e1,e2,e3⟩:=finN (c:=4) kHg (fin eD.symm);simp only [pwA,seval,-iQ0,e1,e2];exact e3
 have hlt':(i:Int)<10:=by omega
 have hir:i<rows.length:=by omega
 have hig:i<testG.length:=by rw [Zz];exact hlt
 have rr:=zAl hir;have hRi:IsPr rows[i].1 rows[i].2.1 rows[i].2.2 testG[i].1 testG[i].2.1 testG[i].2.2:=hall.2 i _ _ (List.getElem?_eq_getElem hir) (List.getElem?_eq_getElem hig);have hti:testG[i]∈testG:=List.getElem_mem hig;obtain⟨tt,htt,ett⟩:=List.mem_map.1 hti;have hpi:qE testG[i].1 testG[i].2.1 testG[i].2.2:=by rw [←ett];exact(zCC htt).2.2.1
 have szi:=qE.sz hpi;rw [drop_at hig,dScan]at eD
 have how2:Owns σ.top t1 [rows[i].1,rows[i].2.1,rows[i].2.2]:=zM0 how hir;generalize testG[i]=r at *
 generalize rows[i]=w at *
 obtain⟨wO,wP,wC⟩:=w;have hRi:IsPr wO wP wC r.1 r.2.1 r.2.2:=hRi;have how2:Owns σ.top t1 [wO,wP,wC]:=how2;have o1:=hRi.O.one;have o2:=hRi.P.one;have o3:=hRi.C.one;have s0:g.rd σ.next 0 3=some [vO,vP,vC]:=by rw [ZE (by rw [kHg.obj _ (by omega)];exact ob0)];rfl
 have s1:g.rd (σ.next+1) 0 3=some [uO,uP,uC]:=by rw [ZE (by rw [kHg.obj _ (by omega)];exact ob1)];rfl
 have rr2:((fl3 rows).drop (i*3)).take 3=[wO,wP,wC]:=rr;have hl3:3≤((fl3 rows).drop (i*3)).length:=by
  have:=congrArg List.length rr2
  rw [List.length_take]at this
  simp only [List.length_cons,List.length_nil]at this
  omega
 simp only [pwA,seval,-iQ0,hlt,hlt',rr2,hl3,o1,o2,o3,s0];have n0:¬σ.next=g.next:=by omega
 have n1:¬σ.next+1=g.next:=by omega
 simp only [pwA,seval,-iQ0,n0,n1,s0];refine zCs hR sz hRi szi ?_;simp only [pwA,seval,-iQ0,n0,n1,s1];refine zCs hR2 sz2 hRi szi ?_;simp only []at eD
 generalize homC O P C r.1 r.2.1 r.2.2=c1 at *
 generalize homC O2 P2 C2 r.1 r.2.1 r.2.2=c2 at *
 generalize homK O P C r.1 r.2.1 r.2.2=k1 at *
 generalize homK O2 P2 C2 r.1 r.2.1 r.2.2=k2 at *
 have kg2:Keep H (g.new [wO,wP,wC]):=kHg.new _;have kg3:Keep (H.up t1) (g.new [wO,wP,wC]):=kg.new _;have htop2:(g.new [wO,wP,wC]).top=t1:=htop;have pO:(g.new [wO,wP,wC]).rd g.next 0 3=some [wO,wP,wC]:=by rw [QC,if_pos rfl];rfl
 have hg2n:(g.new [wO,wP,wC]).next=g.next+1:=rfl;generalize g.new [wO,wP,wC]=g2 at *
 by_cases e1:c1=0
 rotate_left
 ·rw [if_pos (.inl e1)]at eD
  obtain⟨q1,q2,q3⟩:=finN (c:=3) kg2 (fin eD.symm);simp only [pwA,seval,-iQ0,e1,q1,q2];exact q3
 by_cases e2:c2=0
 rotate_left
 ·rw [if_pos (.inr e2)]at eD
  obtain⟨q1,q2,q3⟩:=finN (c:=3) kg2 (fin eD.symm);simp only [pwA,seval,-iQ0,e1,e2,q1,q2];exact q3
 rw [if_neg (by omega)]at eD
 by_cases e3:k1=k2
 ·rw [if_pos e3]at eD
  have wi:IntKind.i64.wrap ((i:Int)+1)=((i+1:Nat):Int):=by rw [wrap64 (by omega) (by omega)];omega
  simp only [pwA,seval,-iQ0,e1,e2,e3,wi];exact⟨_,by omega,i+1,by omega,rfl,rfl,kg3,htop2,eD⟩
 rw [if_neg e3]at eD
 simp only [pwA,seval,-iQ0,e1,e2,e3,pO];have hs1:PtrG g2 σ.next vO vP vC:=⟨by rw [kg2.obj _ (by omega)];exact ob0,by omega⟩
 have hs2:PtrG g2 (σ.next+1) uO uP uC:=⟨by rw [kg2.obj _ (by omega)];exact ob1,by omega⟩
 refine zAP hp1.1.shp hs1 hR fun xO xP xC t2 hq oq ht2=>?_
 have x1:=hq.O.one;have x2:=hq.P.one;have x3:=hq.C.one;have z9:ofAVs (zeros [.nils,.nils,.nils] 3)=[.fz true .nils 0 [],.fz true .nils 0 [],.fz true .nils 0 [],.fz true .nils 0 [],.fz true .nils 0 [],.fz true .nils 0 [],.fz true .nils 0 [],.fz true .nils 0 [],.fz true .nils 0 []]:=rfl;simp only [pwA,seval,-iQ0,x1,x2,x3,pO];refine zAP hp2.1.shp (hs2.keep ((Keep.refl _).up ht2)) hR2 fun yO yP yC t3 hq2 oq2 ht3=>?_
 have y1:=hq2.O.one;have y2:=hq2.P.one;have y3:=hq2.C.one;have ht2':t1≤t2:=by rw [←htop2];exact ht2
 have ht3':t2≤t3:=ht3;have oq':Owns t1 t2 [xO,xP,xC]:=by rw [←htop2];exact oq
 have oq2':Owns t2 t3 [yO,yP,yC]:=oq2;have pO3:((g2.up t2).up t3).rd g.next 0 3=some [wO,wP,wC]:=pO;have kg5:Keep H ((g2.up t2).up t3):=Keep.up (Keep.up kg2 ht2) ht3;have hn5:((g2.up t2).up t3).next=g2.next:=rfl;have ht5:((g2.up t2).up t3).top=t3:=rfl;generalize (g2.up t2).up t3=g5 at *
 have ob5:g5.obj (σ.next+2)=some [.int .i64 0,.fz true .nils 0 [],.fz true .nils 0 []]:=by rw [kg5.obj _ (by omega)];exact ob2
 have n5:¬σ.next+2=g5.next:=by omega
 have w5:g5.wr (σ.next+2) 0 [.int .i64 5,.sl g5.next 0 3 (.known 3),.fz true .nils 0 []]=some (g5.set (σ.next+2) [.int .i64 5,.sl g5.next 0 3 (.known 3),.fz true .nils 0 []]):=by rw [qf ob5,if_pos ⟨by simp,rfl⟩];rfl
 simp only [pwA,seval,-iQ0,x1,x2,x3,y1,y2,y3,o1,o2,o3,pO3,z9,zg,qb,n5,w5,pldv];have hall9:All2 FI3 [(xO,xP,xC),(yO,yP,yC),(wO,wP,wC)] [(O,P,C),(O2,P2,C2),r]:=(((All2.nil FI3).snoc (b:=(O,P,C)) (a:=(xO,xP,xC)) hq).snoc (b:=(O2,P2,C2)) (a:=(yO,yP,yC)) hq2).snoc (b:=r) (a:=(wO,wP,wC)) hRi;refine zFa (rows:=[(xO,xP,xC),(yO,yP,yC),(wO,wP,wC)]) (G:=[(O,P,C),(O2,P2,C2),r]) (((kH.trans kg5).set (by omega) _).new _) (by rw [zH];exact if_pos rfl) (by omega) hall9 fun o ho h1 h3=>?_
 refine hk 5 _ _ _ 0 _ (fin eD.symm) ⟨_,_,_,rfl,hall9⟩ ⟨true,.nils,[],rfl,All2.nil _⟩ ?_ h3;have a1:=Owns.append (Owns.append how2 oq' ht1 ht2') oq2' (Nat.le_trans ht1 ht2') ht3';rw [List.append_assoc]at a1
 have a2:Owns σ.top t3 ([]++fl3 [(xO,xP,xC),(yO,yP,yC),(wO,wP,wC)]):=by
  have:=Owns.comm a1
  simpa [fl3]using this
 have htop5:((g5.set (σ.next+2) [PV.int IntKind.i64 5,PV.sl g5.next 0 3 (Cap.known 3),PV.fz true AV.nils 0 []]).new [xO,xP,xC,yO,yP,yC,wO,wP,wC]).top=t3:=ht5;have a3:=Owns.last (l:=3) (cap:=.known 3) (hi':=max t3 (o+1)) a2 ho (by omega) (by omega) fun hm=>h1 (ZP hm)
 rw [htop5];exact a3.snoc (Own.empty _ _ true .nils 0) (by omega) (Nat.le_refl _)
end Go.Proofs
namespace Go.Grp
end Go.Grp
namespace Go.Proofs
open Go.Ab Go.Lie Go.Grp
variable {σ h:PHeap} {K:PV→PHeap→Prop} {b t k n:Nat} {v vO vP vC uO uP uC:PV} {x O O2:List Int} {P P2:List (List Int)} {C C2:List (List (List Int))} {cs:List PV} {s:List UInt8} {p q:Pre} {G:List Pre}
set_option maxHeartbeats 1600000 in
theorem zDF (sz:SzP O P C) (hR:IsPr vO vP vC O P C) (sz2:SzP O2 P2 C2) (hR2:IsPr uO uP uC O2 P2 C2)
  (hk:∀k G vG vL c t,DRes (O,P,C) (O2,P2,C2) k G c→FG vG G→FII vL []→σ.top≤t→K (.tup [.agg [.int .i64 k,vG,vL],.int .i64 c]) (σ.up t)):zA Tryz.prog 6 [.agg [vO,vP,vC],.agg [uO,uP,uC]] σ K:=by
 have g0:=hR.O.one;have g1:=hR.P.one;have g2:=hR.C.one;have f0:=hR2.O.one;have f1:=hR2.P.one;have f2:=hR2.C.one;have nilE:∀{c:Int} {g:PHeap},Keep σ g→DRes (O,P,C) (O2,P2,C2) 0 [] c→Gh σ K (.tup [.agg [.int .i64 0,.fz true .nils 0 [],.fz true .nils 0 []],.int .i64 c]) g:=fun {c g} kk h=>
  Gh.fin0T kk kk.top ⟨⟨trivial,trivial,trivial,trivial⟩,trivial,trivial⟩ fun _=>hk 0 [] _ _ c σ.top h zLN ⟨true,.nils,[],rfl,All2.nil _⟩ (Nat.le_refl _)
 refine zA.gh ?_;refine zD mix Tryz.func6 ?_;simp only [pwA,seval,-iQ0,g0,g1,g2,f0,f1,f2];generalize hH:((σ.new [vO,vP,vC]).new [uO,uP,uC]).new [.int .i64 0,.fz true .nils 0 [],.fz true .nils 0 []]=H;have hHn:H.next=σ.next+3:=by rw [←hH];rfl
 have hHt:H.top=σ.top:=by rw [←hH];rfl
 have kH:Keep σ H:=by rw [←hH];exact((zB _ _).new _).new _
 have ob0:H.obj σ.next=some [vO,vP,vC]:=by rw [←hH];simp only [pwA,seval,-iQ0]
 have ob1:H.obj (σ.next+1)=some [uO,uP,uC]:=by rw [←hH];simp only [pwA,seval,-iQ0]
 have ob2:H.obj (σ.next+2)=some [.int .i64 0,.fz true .nils 0 [],.fz true .nils 0 []]:=by rw [←hH];simp only [pwA,seval,-iQ0]
 clear hH;have finN:∀{c:Int} {g:PHeap},Keep H g→DRes (O,P,C) (O2,P2,C2) 0 [] c→g.wr (σ.next+2) 0 [.int .i64 0,.fz true .nils 0 [],.fz true .nils 0 []]=some (g.set (σ.next+2) [.int .i64 0,.fz true .nils 0 [],.fz true .nils 0 []])∧
   (g.set (σ.next+2) [.int .i64 0,.fz true .nils 0 [],.fz true .nils 0 []]).rd (σ.next+2) 0 3=some [.int .i64 0,.fz true .nils 0 [],.fz true .nils 0 []]∧Gh σ K (.tup [.agg [.int .i64 0,.fz true .nils 0 [],.fz true .nils 0 []],.int .i64 c]) (g.set (σ.next+2) [.int .i64 0,.fz true .nils 0 [],.fz true .nils 0 []]):=fun {c g} kg h=>
  ⟨by rw [qf (by rw [kg.obj _ (by omega)];exact ob2),if_pos ⟨by simp,rfl⟩];rfl,by rw [Zu,if_pos rfl];rfl,nilE ((kH.trans kg).set (by omega) _) h⟩
 refine Q9 hR sz fun t ht=>?_
 cases t
 ·obtain⟨e1,e2,e3⟩:=finN (c:=1) (Keep.refl H) (.inl ⟨(fun h=>by cases ht.2 h.1),rfl,rfl,rfl⟩)
  simp only [pwA,seval,-iQ0,e1,e2];exact e3
 have r1:H.rd (σ.next+1) 0 3=some [uO,uP,uC]:=by rw [ZE ob1];rfl
 simp only [pwA,seval,-iQ0,r1];refine Q9 hR2 sz2 fun t2 ht2=>?_
 cases t2
 ·obtain⟨e1,e2,e3⟩:=finN (c:=1) (Keep.refl H) (.inl ⟨(fun h=>by cases ht2.2 h.2),rfl,rfl,rfl⟩)
  simp only [pwA,seval,-iQ0,e1,e2];exact e3
 have hp1:=ht.1 rfl;have hp2:=ht2.1 rfl;simp only [pwA,seval,-iQ0];refine zH6 ?_;have hS:(H.new (pst testT)).obj H.next=some (pst testT):=by rw [zH,if_pos rfl]
 have kS:Keep H (H.new (pst testT)):=zB _ _;have hSn:(H.new (pst testT)).next=H.next+1:=rfl;generalize H.new (pst testT)=S at *
 simp only [pwA,seval,-iQ0];refine zC (fun m vs g=>∃i:Nat,i≤10∧m=10-i∧vs=[.ptr σ.next 0,.ptr (σ.next+1) 0,.ptr (σ.next+2) 0,.sl H.next 0 10 (.known 10),.int .i64 i]∧Keep S g∧dScan (O,P,C) (O2,P2,C2) (testG.drop i)=dScan (O,P,C) (O2,P2,C2) testG) 10 ?_ ?_
 ·exact⟨0,Nat.zero_le _,rfl,rfl,Keep.refl _,rfl⟩
 rintro m vs g ⟨i,hi,rfl,rfl,kg,eD⟩
 have kHg:Keep H g:=kS.trans kg;have hgn:=kg.next;have fin:∀{k c:Int} {G:List Pre},dScan (O,P,C) (O2,P2,C2) testG=(k,G,c)→DRes (O,P,C) (O2,P2,C2) k G c:=fun e=>.inr ⟨hp1,hp2,e⟩
 simp only [pwA,seval,-iQ0];refine iteI (fun hlt=>?_) fun hge=>?_
 rotate_left
 ·rw [List.drop_of_length_le (by rw [Zz];omega),dScan]at eD
  obtain⟨e1,e2,e3⟩:=finN (c:=4) kHg (fin eD.symm);simp only [pwA,seval,-iQ0,e1,e2];exact e3
 have hlt':(i:Int)<10:=by omega
 have hti:i<testT.length:=hlt;have hig:i<testG.length:=by rw [Zz];exact hlt
 have rq:g.rd1 H.next i=some (.str testT[i]):=by rw [zi (by rw [kg.obj _ (by omega)];exact hS)];exact Zt hti
 simp only [pwA,seval,-iQ0,hlt,hlt',rq];refine zB9 (List.getElem_mem hti) fun wO wP wC hRi=>?_
 have hpi:=(zCC (List.getElem_mem hti)).2.2.1;have egi:testG[i]=tsV testT[i]:=List.getElem_map ..;rw [drop_at hig,dScan,egi]at eD
 have szi:=qE.sz hpi;generalize tsV testT[i]=r at *
 have o1:=hRi.O.one;have o2:=hRi.P.one;have o3:=hRi.C.one;have s0:g.rd σ.next 0 3=some [vO,vP,vC]:=by rw [ZE (by rw [kHg.obj _ (by omega)];exact ob0)];rfl
 have s1:g.rd (σ.next+1) 0 3=some [uO,uP,uC]:=by rw [ZE (by rw [kHg.obj _ (by omega)];exact ob1)];rfl
 have n0:¬σ.next=g.next:=by omega
 have n1:¬σ.next+1=g.next:=by omega
 simp only [pwA,seval,-iQ0,o1,o2,o3,n0,n1,s0];refine zAr hR sz hRi szi ?_;simp only [pwA,seval,-iQ0,n0,n1,s1];refine zAr hR2 sz2 hRi szi ?_;simp only []at eD
 generalize homC O P C r.1 r.2.1 r.2.2=c1 at *
 generalize homC O2 P2 C2 r.1 r.2.1 r.2.2=c2 at *
 generalize homK O P C r.1 r.2.1 r.2.2=k1 at *
 generalize homK O2 P2 C2 r.1 r.2.1 r.2.2=k2 at *
 have kg2:Keep H (g.new [wO,wP,wC]):=kHg.new _;have kg3:Keep S (g.new [wO,wP,wC]):=kg.new _;have q0:(g.new [wO,wP,wC]).rd σ.next 0 3=some [vO,vP,vC]:=by rw [QC,if_neg n0];exact s0
 have q1:(g.new [wO,wP,wC]).rd (σ.next+1) 0 3=some [uO,uP,uC]:=by rw [QC,if_neg n1];exact s1
 have pO:(g.new [wO,wP,wC]).rd g.next 0 3=some [wO,wP,wC]:=by rw [QC,if_pos rfl];rfl
 have hg2n:(g.new [wO,wP,wC]).next=g.next+1:=rfl;generalize g.new [wO,wP,wC]=g2 at *
 by_cases e1:c1=0
 rotate_left
 ·rw [if_pos (.inl e1)]at eD
  obtain⟨z1,z2,z3⟩:=finN (c:=3) kg2 (fin eD.symm);simp only [pwA,seval,-iQ0,e1,z1,z2];exact z3
 by_cases e2:c2=0
 rotate_left
 ·rw [if_pos (.inr e2)]at eD
  obtain⟨z1,z2,z3⟩:=finN (c:=3) kg2 (fin eD.symm);simp only [pwA,seval,-iQ0,e1,e2,z1,z2];exact z3
 rw [if_neg (by omega)]at eD
 by_cases e3:k1=k2
 ·rw [if_pos e3]at eD
  have wi:IntKind.i64.wrap ((i:Int)+1)=((i+1:Nat):Int):=by rw [wrap64 (by omega) (by omega)];omega
  simp only [pwA,seval,-iQ0,e1,e2,e3,wi];exact⟨_,by omega,i+1,by omega,rfl,rfl,kg3,eD⟩
 rw [if_neg e3]at eD
 have z9:ofAVs (zeros [.nils,.nils,.nils] 3)=[.fz true .nils 0 [],.fz true .nils 0 [],.fz true .nils 0 [],.fz true .nils 0 [],.fz true .nils 0 [],.fz true .nils 0 [],.fz true .nils 0 [],.fz true .nils 0 [],.fz true .nils 0 []]:=rfl;have n5:¬σ.next+2=g2.next:=by omega
 have ob5:g2.obj (σ.next+2)=some [.int .i64 0,.fz true .nils 0 [],.fz true .nils 0 []]:=by rw [kg2.obj _ (by omega)];exact ob2
 have w5:g2.wr (σ.next+2) 0 [.int .i64 5,.sl g2.next 0 3 (.known 3),.fz true .nils 0 []]=some (g2.set (σ.next+2) [.int .i64 5,.sl g2.next 0 3 (.known 3),.fz true .nils 0 []]):=by rw [qf ob5,if_pos ⟨by simp,rfl⟩];rfl
 simp only [pwA,seval,-iQ0,e1,e2,e3,pO,q0,q1,zg,qb,pldv];refine zGq hR sz fun xO xP xC hq=>?_
 have x1:=hq.O.one;have x2:=hq.P.one;have x3:=hq.C.one;simp only [pwA,seval,-iQ0,x1,x2,x3,pO,q0,q1,zg,qb,pldv];refine zGq hR2 sz2 fun yO yP yC hq2=>?_
 have y1:=hq2.O.one;have y2:=hq2.P.one;have y3:=hq2.C.one;simp only [pwA,seval,-iQ0,x1,x2,x3,y1,y2,y3,o1,o2,o3,pO,q0,q1,z9,zg,qb,pldv,n5,w5];have hall9:All2 FI3 [(xO,xP,xC),(yO,yP,yC),(wO,wP,wC)] [(O,P,C),(O2,P2,C2),r]:=(((All2.nil FI3).snoc (b:=(O,P,C)) (a:=(xO,xP,xC)) hq).snoc (b:=(O2,P2,C2)) (a:=(yO,yP,yC)) hq2).snoc (b:=r) (a:=(wO,wP,wC)) hRi;refine zFa (rows:=[(xO,xP,xC),(yO,yP,yC),(wO,wP,wC)]) (G:=[(O,P,C),(O2,P2,C2),r]) (((kH.trans kg2).set (by omega) _).new _) (by rw [zH];exact if_pos rfl) (by omega) hall9 fun o ho h1 h3=>?_
 exact hk 5 _ _ _ 0 _ (fin eD.symm) ⟨_,_,_,rfl,hall9⟩ ⟨true,.nils,[],rfl,All2.nil _⟩ h3
theorem zD8 (sz:SzP O P C) (hR:IsPr vO vP vC O P C) (sz2:SzP O2 P2 C2) (hR2:IsPr uO uP uC O2 P2 C2)
  (hk:∀k G vG vL c,DRes (O,P,C) (O2,P2,C2) k G c→FG vG G→FII vL []→K (.tup [.agg [.int .i64 k,vG,vL],.int .i64 c]) σ):zA Tryz.prog 6 [.agg [vO,vP,vC],.agg [uO,uP,uC]] σ K:=
 zA.notop (p:=fun v _=>∃k G vG vL c,v=.tup [.agg [.int .i64 k,vG,vL],.int .i64 c]∧DRes (O,P,C) (O2,P2,C2) k G c∧FG vG G∧FII vL [])
  (fun K' k'=>zDF sz hR sz2 hR2 fun k G vG vL c t h1 h2 h3 ht=>k' _ t ⟨⟨trivial,h2.bel _,h3.bel _,trivial⟩,trivial,trivial⟩ ⟨k,G,vG,vL,c,rfl,h1,h2,h3⟩ ht)
  fun v t ⟨k,G,vG,vL,c,e,h1,h2,h3⟩=>by rw [e];exact hk k G vG vL c h1 h2 h3
end Go.Proofs
namespace Go.Grp
end Go.Grp
namespace Go.Proofs
open Go.Ab Go.Lie Go.Grp
section
variable {h:AHeap} {K:AV→AHeap→Prop}
def mkPr (k:Int) (vO vP vC:PV) (O:List Int) (P:List (List Int)) (C:List (List (List Int))):List (Nat×List PV):=
 mkI k vO O++(mkF mkI List.length (k+O.length) vP P++mkF (mkF mkI List.length) (totL List.length) (k+O.length+totL List.length P) vC C)
def totP (O:List Int) (P:List (List Int)) (C:List (List (List Int))):Nat:=O.length+totL List.length P+totL (totL List.length) C
theorem zCV {k:Int} {vO vP vC:PV} {O:List Int} {P:List (List Int)} {C:List (List (List Int))} (hR:IsPr vO vP vC O P C) (hW:Wh (.agg [vO,vP,vC])) (hnd:(ead (.agg [vO,vP,vC])).Nodup) (hw:HWF h) (hv:VOK (zlt h) h 0 (.agg [vO,vP,vC])) (sz:SzP O P C) (hk0:0≤k) (hk1:k+totP O P C≤4611686018427387904)
  (hk:∀h',Upd h (mkPr k vO vP vC O P C) h'→K (.int .i64 (k+totP O P C)) h'):qg Tryz.prog 11 [er idz (.agg [vO,vP,vC]),.int .i64 k] h K:=by
 refine ZI mix Tryz.func11 cf11 rfl ?_;dsimp only [if11,mI0,kI0,lI0,fI0,C2,R0,S0];simp only [er,ers];unfold totP at hk hk1
 obtain⟨hvO,hvP,hvC,_⟩:=hv;obtain⟨wO,wP,wC,_⟩:=hW;have oO:(er idz vO).one=true:=by rw [zBb hvO];exact hR.O.one
 have oP:(er idz vP).one=true:=by rw [zBb hvP];exact hR.P.one
 have oC:(er idz vC).one=true:=by rw [zBb hvC];exact hR.C.one
 have cO:=Zg oO;have cP:=Zg oP;have cC:=Zg oC;simp only [ead,eads,List.nil_append,List.append_nil,List.nodup_append]at hnd
 obtain⟨dO,⟨dP,dC,dd⟩,dd0⟩:=hnd;obtain⟨hh,he,hx1,hn,qq⟩:=box1 hw [er idz vO,er idz vP,er idz vC];have hzz:∀o,zlt h o→zlt hh o∧hh.obj o=h.obj o:=fun o ho=>⟨Nat.lt_of_lt_of_le ho hx1.next,hx1.obj o ho⟩
 have q:=qq _ (Ext.refl hx1.wf);have kO:=mkT_I.keys (k:=k) hR.O wO;have kP:=(mkT_I.F).keys (k:=k+O.length) hR.P wP;have kC:=(mkT_I.F.F).keys (k:=k+O.length+totL List.length P) hR.C wC;have szO:=sz.O;simp only [nm_eq,nm_eq,abQ,↓reduceIte,iQ2,qF,qN,zt,nQ1,nQ2,nQ3,nQ4,nQ5,nQ6,lQ1,lQ2,lQ3,lQ4,lQ5,lQ6,lQ7,lQ8,nQ7,nQ8,ze,zR,zJ,zK,zF,nQ9,iQ3,iQ4,iQ5,iQ6,qL,qM,zq,zW,zf,zS,zT,recOf,zV,zL,zM,zU,zk,lQ9,lQ10,nQ10,if_true,if_false,ite_true,ite_false,lQ11,lQ12,oQ1,oQ2,reduceCtorEq,decide_true,decide_false,bQ1,bQ2,zZ,zQ,zX,zO,zY,zN,zw,zP,za,zb,lQ13,lQ14,qJ,zo,qG,zm,qH,zl,qO,zn,qK,lQ15,lQ16,bQ3,bQ4,bQ5,true_and,and_true,bQ6,bQ7,lQ17,lQ18,bQ8,bQ9,bQ10,bQ11,eq_self,nQ11,nQ12,nQ13,nQ14,nQ15,he,oO,oP,oC,cO,cP,cC,ZG q];refine zA0 hR.O wO hx1.wf (hvO.mono hzz (Nat.le_refl _)) (by omega) hk0 (by omega) fun h1 u1=>?_
 have qB:h1.obj h.next=some ⟨true,[er idz vO,er idz vP,er idz vC]⟩:=by
  rw [u1.same _ (by omega) (qW.2 fun hm=>by have:h.next<h.next:=ead_z hvO _ (kO _ hm);omega)];exact q
 have mv:∀{v:PV},VOK (zlt hh) hh 0 v→(∀o∈ead v,o∉(mkI k vO O).map Prod.fst)→VOK (zlt h1) h1 0 v:=fun {v} hv' hno=>by
  have h2:=Qc u1 (fun o ho=>ho) hv'
  rw [zAC fun o ho hm=>hno o hm ho]at h2
  exact h2.mono (fun o ho=>⟨Nat.lt_of_lt_of_le ho u1.next,rfl⟩) (Nat.le_refl _)
 have hvP1:=mv (hvP.mono hzz (Nat.le_refl _)) fun o ho hm=>dd0 o (kO o hm) o (List.mem_append.2 (.inl ho)) rfl
 have hvC1:=mv (hvC.mono hzz (Nat.le_refl _)) fun o ho hm=>dd0 o (kO o hm) o (List.mem_append.2 (.inr ho)) rfl
 have hneg0:¬(k+(O.length:Int)<0):=by omega
 simp only [nm_eq,nm_eq,abQ,↓reduceIte,iQ2,qF,qN,zt,nQ1,nQ2,nQ3,nQ4,nQ5,nQ6,lQ1,lQ2,lQ3,lQ4,lQ5,lQ6,lQ7,lQ8,nQ7,nQ8,ze,zR,zJ,zK,zF,nQ9,iQ3,iQ4,iQ5,iQ6,qL,qM,zq,zW,zf,zS,zT,recOf,zV,zL,zM,zU,zk,lQ9,lQ10,nQ10,if_true,if_false,ite_true,ite_false,lQ11,lQ12,oQ1,oQ2,reduceCtorEq,decide_true,decide_false,bQ1,bQ2,zZ,zQ,zX,zO,zY,zN,zw,zP,za,zb,lQ13,lQ14,qJ,zo,qG,zm,qH,zl,qO,zn,qK,lQ15,lQ16,bQ3,bQ4,bQ5,true_and,and_true,bQ6,bQ7,lQ17,lQ18,bQ8,bQ9,bQ10,bQ11,eq_self,nQ11,nQ12,nQ13,nQ14,nQ15,ZG qB,hneg0];refine QM hR.P wP dP u1.wf hvP1 (by have:=sz.P.l;omega) (fun x hx=>by have:=sz.P.r x hx;omega) (by omega) (by omega) fun h2 u2=>?_
 have qC:h2.obj h.next=some ⟨true,[er idz vO,er idz vP,er idz vC]⟩:=by
  rw [u2.same _ (by have:=u1.next;omega) (qW.2 fun hm=>by have:h.next<h.next:=ead_z hvP _ (kP _ hm);omega)];exact qB
 have hvC2:VOK (zlt h2) h2 0 vC:=by
  have h3:=Qc u2 (fun o ho=>ho) hvC1
  rw [zAC fun o ho hm=>dd o (kP o ho) o hm rfl]at h3
  exact h3.mono (fun o ho=>⟨Nat.lt_of_lt_of_le ho u2.next,rfl⟩) (Nat.le_refl _)
 have hneg:¬(k+(O.length:Int)+(totL List.length P:Int)<0):=by omega
 simp only [nm_eq,nm_eq,abQ,↓reduceIte,iQ2,qF,qN,zt,nQ1,nQ2,nQ3,nQ4,nQ5,nQ6,lQ1,lQ2,lQ3,lQ4,lQ5,lQ6,lQ7,lQ8,nQ7,nQ8,ze,zR,zJ,zK,zF,nQ9,iQ3,iQ4,iQ5,iQ6,qL,qM,zq,zW,zf,zS,zT,recOf,zV,zL,zM,zU,zk,lQ9,lQ10,nQ10,if_true,if_false,ite_true,ite_false,lQ11,lQ12,oQ1,oQ2,reduceCtorEq,decide_true,decide_false,bQ1,bQ2,zZ,zQ,zX,zO,zY,zN,zw,zP,za,zb,lQ13,lQ14,qJ,zo,qG,zm,qH,zl,qO,zn,qK,lQ15,lQ16,bQ3,bQ4,bQ5,true_and,and_true,bQ6,bQ7,lQ17,lQ18,bQ8,bQ9,bQ10,bQ11,eq_self,nQ11,nQ12,nQ13,nQ14,nQ15,ZG qC,hneg];refine zBY hR.C wC dC u2.wf hvC2 (by have:=sz.C.l;omega) (fun x hx=>⟨by have:=(sz.C.r x hx).l;omega,fun y hy=>by have:=(sz.C.r x hx).r y hy;omega⟩) (by omega) (by omega) fun h3 u3=>?_
 have u23:Upd h1 (mkF mkI List.length (k+O.length) vP P++mkF (mkF mkI List.length) (totL List.length) (k+O.length+totL List.length P) vC C) h3:=u2.trans u3 (fun o ho hm=>dd o (kP o ho) o (kC o hm) rfl) fun o ho=>by have:o<h.next:=ead_z hvC o (kC o ho);have:=u1.next;omega
 have kPC:∀o∈(mkF mkI List.length (k+O.length) vP P++mkF (mkF mkI List.length) (totL List.length) (k+O.length+totL List.length P) vC C).map Prod.fst,o∈ead vP++ead vC:=fun o ho=>by
  rw [List.map_append,List.mem_append]at ho
  exact List.mem_append.2 (ho.imp (kP o) (kC o))
 have hlt:∀o∈ead vP++ead vC,o<h.next:=fun o ho=>(List.mem_append.1 ho).elim (fun hm=>ead_z hvP o hm) fun hm=>ead_z hvC o hm
 have u4:Upd hh (mkPr k vO vP vC O P C) h3:=u1.trans u23 (fun o ho hm=>dd0 o (kO o ho) o (kPC o hm) rfl) fun o ho=>by have:=hlt o (kPC o ho);omega
 have u5:=hx1.upd.trans u4 (fun o ho=>by cases ho) fun o ho=>by
  unfold mkPr at ho
  rw [List.map_append,List.mem_append]at ho
  exact ho.elim (fun hm=>ead_z hvO o (kO o hm)) fun hm=>hlt o (kPC o hm)
 have e:k+(O.length:Int)+(totL List.length P:Int)+(totL (totL List.length) C:Int)=k+((O.length+totL List.length P+totL (totL List.length) C:Nat):Int):=by omega
 rw [e];simp only [nm_eq,nm_eq,abQ,↓reduceIte,iQ2,qF,qN,zt,nQ1,nQ2,nQ3,nQ4,nQ5,nQ6,lQ1,lQ2,lQ3,lQ4,lQ5,lQ6,lQ7,lQ8,nQ7,nQ8,ze,zR,zJ,zK,zF,nQ9,iQ3,iQ4,iQ5,iQ6,qL,qM,zq,zW,zf,zS,zT,recOf,zV,zL,zM,zU,zk,lQ9,lQ10,nQ10,if_true,if_false,ite_true,ite_false,lQ11,lQ12,oQ1,oQ2,reduceCtorEq,decide_true,decide_false,bQ1,bQ2,zZ,zQ,zX,zO,zY,zN,zw,zP,za,zb,lQ13,lQ14,qJ,zo,qG,zm,qH,zl,qO,zn,qK,lQ15,lQ16,bQ3,bQ4,bQ5,true_and,and_true,bQ6,bQ7,lQ17,lQ18,bQ8,bQ9,bQ10,bQ11,eq_self,nQ11,nQ12,nQ13,nQ14,nQ15];have e2:=hk h3 (by simpa using u5)
 simpa only [Nat.add_assoc]using e2
end
section
variable {σ:PHeap} {K:PV→PHeap→Prop} {p d:Int} {O:List Int} {P:List (List Int)} {C As:List (List (List Int))} {F:List (List Int)} {vO vP vC vA:PV} {lo hi:Nat}
theorem zAG {k:Int} (hR:IsPr vO vP vC O P C) (hW:Wh (.agg [vO,vP,vC])):∀o∈(mkPr k vO vP vC O P C).map Prod.fst,o∈ead (.agg [vO,vP,vC]):=by
 obtain⟨wO,wP,wC,_⟩:=hW;intro o ho;unfold mkPr at ho
 rw [List.map_append,List.mem_append,List.map_append,List.mem_append]at ho
 simp only [ead,eads,List.nil_append,List.append_nil,List.mem_append];exact ho.imp (mkT_I.keys hR.O wO o) fun h=>h.imp (mkT_I.F.keys hR.P wP o) (mkT_I.F.F.keys hR.C wC o)
theorem keysP {k:Int} (hR:IsPr vO vP vC O P C) (ho:Own lo hi (.agg [vO,vP,vC])):∀o∈(mkPr k vO vP vC O P C).map Prod.fst,lo≤o∧o<hi:=fun o hm=>ho.lt o (zAG hR ho.wh o hm)
theorem zAJ {k:Int} (hR:IsPr vO vP vC O P C) (ho:Own lo hi (.agg [vO,vP,vC])) (sz:SzP O P C) (hk0:0≤k) (hk1:k+totP O P C≤4611686018427387904):
  zAT Tryz.prog 11 [.agg [vO,vP,vC],.int .i64 k] σ (mkPr k vO vP vC O P C) .i64 (k+totP O P C):=
 zAT.of ⟨hR.O.bel 0,hR.P.bel 0,hR.C.bel 0,trivial⟩ (zAG hR ho.wh) fun h hw hv=>zCV hR ho.wh ho.nd hw hv sz hk0 hk1 fun h' u=>⟨rfl,u⟩
theorem zAq (hR:IsPr vO vP vC O P C) (sz:SzP O P C) (hk:∀vO vP vC t,IsPr vO vP vC O P C→Own σ.top t (.agg [vO,vP,vC])→σ.top≤t→K (.agg [vO,vP,vC]) (σ.up t)):zA Tryz.prog 7 [.agg [vO,vP,vC]] σ K:=by
 have h0:=hR.O.one;have h1:=hR.P.one;have h2:=hR.C.one;refine zA.gh ?_;refine zD mix Tryz.func7 ?_;simp only [pwA,seval,-iQ0,h0,h1,h2];refine zED hR.O sz.O fun v0 t0 hv0 ho0 ht0=>?_
 simp only [pwA,seval,-iQ0,hv0.cells,hv0.one];refine zDI hR.P sz.P fun v1 t1 hv1 ho1 ht1=>?_
 simp only [pwA,seval,-iQ0,hv0.one,hv1.cells,hv1.one];refine zF8 hR.C sz.C fun v2 t2 hv2 ho2 ht2=>?_
 simp only [pwA,seval,-iQ0,hv2.cells,hv2.one,hv1.one,hv0.one];have hoo:=(((Owns.nil σ.top σ.top).snoc ho0 (Nat.le_refl _) ht0).snoc ho1 ht0 ht1).snoc ho2 (Nat.le_trans ht0 ht1) ht2;exact Gh.fin0T (t:=t2) (v:=.agg [v0,v1,v2]) (Keep.up (((zB σ _).new _).new _) (Nat.le_trans (Nat.le_trans ht0 ht1) ht2)) (Nat.le_refl _) ⟨hv0.bel _,hv1.bel _,hv2.bel _,trivial⟩ fun _=>hk v0 v1 v2 t2 ⟨hv0,hv1,hv2⟩ hoo.agg (Nat.le_trans (Nat.le_trans ht0 ht1) ht2)
theorem zFL {xs:List (List Int)} (sz:SzL xs):totL List.length xs≤1099511627776:=by
 have h3:=zE2 (m:=1048576) (len:=List.length) sz.r;have h4:=sz.l;omega
theorem zLp {As:List (List (List Int))} (sz:SzM As):totL (totL List.length) As≤1152921504606846976:=by
 have h3:=zE2 (m:=1099511627776) (len:=totL List.length) (xs:=As) fun q hq=>zFL (sz.r q hq)
 have h4:=sz.l;omega
theorem zDi (sz:SzP O P C):totP O P C≤1153000000000000000:=by
 have h1:=zFL sz.P;have h2:=zLp sz.C;have h3:=sz.O;unfold totP;omega
end
end Go.Proofs
namespace Go.Grp
end Go.Grp
namespace Go.Proofs
open Go.Ab Go.Lie Go.Grp
section
variable {h:AHeap} {K:AV→AHeap→Prop}
theorem zFq {k:Int} {w:Bool} {a:AV} (hv:VOK (zlt h) h 0 (.fz w a 0 [])) (hk:K (.int .i64 k) h):qg Tryz.prog 38 [a,.int .i64 k] h K:=by
 refine ZI mix Tryz.func38 cf38 rfl ?_;dsimp only [if38,mI0,kI0,lI0,fI0,bI0,cI0,sI0,C2,R0,S0];have hlen:aLen a=some (.int .i64 ((0:Nat):Int)):=by
  obtain⟨rfl,_⟩|⟨o,off,cap,rfl,_⟩:=hv.1<;>rfl
 simp only [nm_eq,nm_eq,abQ,↓reduceIte,iQ2,qF,qN,zt,nQ1,nQ2,nQ3,nQ4,nQ5,nQ6,lQ1,lQ2,lQ3,lQ4,lQ5,lQ6,lQ7,lQ8,nQ7,nQ8,ze,zR,zJ,zK,zF,nQ9,iQ3,iQ4,iQ5,iQ6,qL,qM,zq,zW,zf,zS,zT,recOf,zV,zL,zM,zU,zk,lQ9,lQ10,nQ10,if_true,if_false,ite_true,ite_false,lQ11,lQ12,oQ1,oQ2,reduceCtorEq,decide_true,decide_false,bQ1,bQ2,zZ,zQ,zX,zO,zY,zN,zw,zP,za,zb,lQ13,lQ14,qJ,zo,qG,zm,qH,zl,qO,zn,qK,lQ15,lQ16,bQ3,bQ4,bQ5,true_and,and_true,bQ6,bQ7,lQ17,lQ18,bQ8,bQ9,bQ10,bQ11,eq_self,nQ11,nQ12,nQ13,nQ14,nQ15,er];refine QR (fun m vs h'=>vs=[a,.int .i64 k,.int .i64 0]∧h'=h) 0 ⟨rfl,rfl⟩ ?_
 rintro m vs h' ⟨rfl,rfl⟩
 simp only [nm_eq,nm_eq,abQ,↓reduceIte,iQ2,qF,qN,zt,nQ1,nQ2,nQ3,nQ4,nQ5,nQ6,lQ1,lQ2,lQ3,lQ4,lQ5,lQ6,lQ7,lQ8,nQ7,nQ8,ze,zR,zJ,zK,zF,nQ9,iQ3,iQ4,iQ5,iQ6,qL,qM,zq,zW,zf,zS,zT,recOf,zV,zL,zM,zU,zk,lQ9,lQ10,nQ10,if_true,if_false,ite_true,ite_false,lQ11,lQ12,oQ1,oQ2,reduceCtorEq,decide_true,decide_false,bQ1,bQ2,zZ,zQ,zX,zO,zY,zN,zw,zP,za,zb,lQ13,lQ14,qJ,zo,qG,zm,qH,zl,qO,zn,qK,lQ15,lQ16,bQ3,bQ4,bQ5,true_and,and_true,bQ6,bQ7,lQ17,lQ18,bQ8,bQ9,bQ10,bQ11,eq_self,nQ11,nQ12,nQ13,nQ14,nQ15,hlen,Int.lt_irrefl];exact hk
end
section
variable {σ:PHeap} {K:PV→PHeap→Prop} {G:List Pre} {L:List (List Int)} {vG vL:PV} {lo hi:Nat} {kk:Int}
end
end Go.Proofs
namespace Go.Grp
end Go.Grp
namespace Go.Proofs
open Go.Ab Go.Lie Go.Grp
variable {σ:PHeap} {K:PV→PHeap→Prop} {n c:Nat} {p:Int} {W:List (List Int)} {B:List (List (List Int))} {vP vB vM:PV} {s:Nat} {O:List Int} {P:List (List Int)} {C:List (List (List Int))} {vO vQ vC:PV} {lo hi:Nat}
theorem zEg {v:PV} {xs:List (List (List Int))} {k:Int} (hI:FIII v (sqL (sqL sqI List.length) (totL List.length) k xs)) (sz:SzM xs) (hk0:0≤k) (hk1:k+totL (totL List.length) xs≤4611686018427387904) (hk:K (.int .i64 (k+totL (totL List.length) xs)) σ):zA Tryz.prog 66 [v,.int .i64 k] σ K:=by
 have hb:=sz.l;obtain⟨w,a,rows,rfl,hr⟩:=hI;have hl:=Qa (sqL sqI List.length) (totL List.length) xs k;have hg:∀(i:Nat) (hi:i<xs.length) (h2:i<(sqL (sqL sqI List.length) (totL List.length) k xs).length),(sqL (sqL sqI List.length) (totL List.length) k xs)[i]=sqL sqI List.length (k+totL (totL List.length) (xs.take i)) xs[i]:=fun i hi _=>zE3 (sqL sqI List.length) (totL List.length) xs k i hi
 generalize sqL (sqL sqI List.length) (totL List.length) k xs=ys at *
 refine qV mix Tryz.func66 cf66 rfl ?_;dsimp only [if66,mI0,kI0,lI0,xI0,bI0,cI0,sI0,C2,R0,S0];simp only [pwA,seval,-iQ0];refine zC (fun m vs h'=>∃i:Nat,i≤ys.length∧m=ys.length-i∧vs=[.fz w a ys.length rows,.int .i64 (k+totL (totL List.length) (xs.take i)),.int .i64 i]∧σ=h') ys.length ?_ ?_
 ·exact⟨0,by omega,by omega,by rw [List.take_zero,zBe,show k+((0:Nat):Int)=k by omega];rfl,rfl⟩
 rintro m vs h' ⟨i,hi,rfl,rfl,rfl⟩
 simp only [pwA,seval,-iQ0];refine iteI (fun hlt=>?_) fun hge=>?_
 ·have hlx:i<xs.length:=by omega
  obtain⟨w4,a4,rk,hrk,hrk2⟩:=hr.rowL hlt;have ht:=zBB (len:=totL List.length) hlx;have htl:=zCu (totL List.length) xs (i+1);have hgi:=hg i hlx hlt;simp only [pwA,seval,-iQ0,hlt,hrk];have hbi:=sz.r _ (List.getElem_mem hlx);refine Q0 (xs:=xs[i]) ⟨w4,a4,rk,by rw [←hgi],by rw [←hgi];exact hrk2⟩ (by have:=hbi.l;omega) (fun y hy=>by have:=hbi.r y hy;omega) (by omega) (by omega) ?_
  have hn:¬(k+(totL (totL List.length) (xs.take i):Int)+(totL List.length xs[i]:Int)<0):=by omega
  simp only [pwA,seval,-iQ0,hn,wrapS hlt (by omega:ys.length≤4611686018427387904)]
  refine⟨_,by omega,i+1,by omega,rfl,?_⟩
  have:k+(totL (totL List.length) (xs.take i):Int)+(totL List.length xs[i]:Int)=k+(totL (totL List.length) (xs.take (i+1)):Int):=by omega
  rw [this]
 ·have hie:i=xs.length:=by omega
  subst hie;rw [List.take_length];exact hk
end Go.Proofs
namespace Go.Grp
end Go.Grp
namespace Go.Proofs
open Go.Ab Go.Lie Go.Grp
variable {σ:PHeap} {K:PV→PHeap→Prop} {G:List Pre} {L:List (List Int)} {vG vL:PV} {lo hi:Nat} {kk:Int}
theorem rmP7 {lo hi:Nat} {k:Int} {vO vP vC:PV} {O:List Int} {P:List (List Int)} {C:List (List (List Int))} (hR:IsPr vO vP vC O P C) (ho:Own lo hi (.agg [vO,vP,vC])):
  FI (Go.Ab.rm (mkPr k vO vP vC O P C) vO) (sqI k O)∧FII (Go.Ab.rm (mkPr k vO vP vC O P C) vP) (sqL sqI List.length (k+O.length) P)∧FIII (Go.Ab.rm (mkPr k vO vP vC O P C) vC) (sqL (sqL sqI List.length) (totL List.length) (k+O.length+totL List.length P) C):=by
 obtain⟨⟨w0,w1,w2,_⟩,hnd,_⟩:=ho;simp only [ead,eads,List.append_nil,List.nodup_append]at hnd
 obtain⟨n0,⟨n1,n2,d12⟩,d0⟩:=hnd;have k0:=mkT_I.keys (k:=k) hR.O w0;have k1:=mkT_I.F.keys (k:=k+O.length) hR.P w1;have k2:=mkT_I.F.F.keys (k:=k+O.length+totL List.length P) hR.C w2;have r0:=mkT_I.rd (k:=k) hR.O w0 n0;have r1:=mkT_I.F.rd (k:=k+O.length) hR.P w1 n1;have r2:=mkT_I.F.F.rd (k:=k+O.length+totL List.length P) hR.C w2 n2;have e0:Go.Ab.rm (mkPr k vO vP vC O P C) vO=Go.Ab.rm (mkI k vO O) vO:=Z4 fun o hm=>by
  unfold mkPr;rw [Qi];intro hx;rw [List.map_append,List.mem_append]at hx
  rcases hx with hx|hx
  ·exact d0 o hm o (List.mem_append.2 (.inl (k1 o hx))) rfl
  ·exact d0 o hm o (List.mem_append.2 (.inr (k2 o hx))) rfl
 have e1:Go.Ab.rm (mkPr k vO vP vC O P C) vP=Go.Ab.rm (mkF mkI List.length (k+O.length) vP P) vP:=Z4 fun o hm=>by
  unfold mkPr;rw [Zv fun hx=>d0 o (k0 o hx) o (List.mem_append.2 (.inl hm)) rfl,Qi fun hx=>d12 o hm o (k2 o hx) rfl]
 have e2:Go.Ab.rm (mkPr k vO vP vC O P C) vC=Go.Ab.rm (mkF (mkF mkI List.length) (totL List.length) (k+O.length+totL List.length P) vC C) vC:=Z4 fun o hm=>by
  unfold mkPr;rw [Zv fun hx=>d0 o (k0 o hx) o (List.mem_append.2 (.inr hm)) rfl,Zv fun hx=>d12 o (k1 o hx) o hm rfl]
 rw [e0,e1,e2];exact⟨r0,r1,r2⟩
theorem zGm {x:Nat}:∀{l:List Nat},x∈l→x≤l.foldr max 0
 | y::l,h=>by
  rcases List.mem_cons.1 h with rfl|h
  ·exact Nat.le_max_left _ _
  ·exact Nat.le_trans (zGm h) (Nat.le_max_right _ _)
end Go.Proofs
namespace Go.Grp
end Go.Grp
namespace Go.Proofs
open Go.Ab Go.Lie Go.Grp
abbrev Tri:=PV×PV×PV
def mkGs:Int→List Tri→List Pre→List (Nat×List PV)
 | k,q::rows,g::G=>mkPr k q.1 q.2.1 q.2.2 g.1 g.2.1 g.2.2++mkGs (k+totP g.1 g.2.1 g.2.2) rows G
 | _,_,_=>[]
def totGs:List Pre→Nat
 | []=>0
 | g::G=>totP g.1 g.2.1 g.2.2+totGs G
theorem Zy:∀a b:List Pre,totGs (a++b)=totGs a+totGs b
 | [],b=>by simp [totGs]
 | g::a,b=>by simp only [List.cons_append,totGs,Zy a b];omega
theorem zDW:∀(R R':List Tri) (G G':List Pre) (k:Int),R.length=G.length→mkGs k (R++R') (G++G')=mkGs k R G++mkGs (k+totGs G) R' G'
 | [],R',[],G',k,_=>by simp [mkGs,totGs]
 | [],R',g::G,G',k,h=>by simp at h
 | q::R,R',[],G',k,h=>by simp at h
 | q::R,R',g::G,G',k,h=>by
  simp only [List.cons_append,mkGs,totGs];rw [zDW R R' G G' _ (by simpa using h),List.append_assoc]
  congr 3
  omega
theorem eads3 (a b c:PV):eads [a,b,c]=ead a++(ead b++ead c):=by simp [eads]
theorem zG3 (q:Tri) (rows:List Tri):fl3 (q::rows)=[q.1,q.2.1,q.2.2]++fl3 rows:=rfl
theorem zFe {q:Tri} {rows:List Tri} {g:Pre} {G:List Pre} (h:All2 FI3 (q::rows) (g::G)):FI3 q g∧All2 FI3 rows G:=
 ⟨h.2 0 _ _ rfl rfl,by have:=h.1;simpa using this,fun i v y hv hy=>h.2 (i+1) v y (by simpa using hv) (by simpa using hy)⟩
theorem zAI:∀(rows:List Tri) (G:List Pre) (k:Int),All2 FI3 rows G→Whs (fl3 rows)→∀o∈(mkGs k rows G).map Prod.fst,o∈eads (fl3 rows)
 | [],_,k,_,_,o,ho=>by simp [mkGs]at ho
 | q::rows,[],k,_,_,o,ho=>by simp [mkGs]at ho
 | q::rows,g::G,k,h,hW,o,ho=>by
  obtain⟨h1,h2⟩:=zFe h;rw [mkGs,List.map_append,List.mem_append]at ho
  rw [zG3,qA,List.mem_append];rcases ho with ho|ho
  ·exact .inl (zAG (k:=k) h1 ⟨hW.1,hW.2.1,hW.2.2.1,trivial⟩ o ho)
  ·exact .inr (zAI rows G _ h2 hW.2.2.2 o ho)
theorem zDc:∀a b:List Tri,fl3 (a++b)=fl3 a++fl3 b
 | [],b=>rfl
 | q::a,b=>by simp only [List.cons_append,fl3,zDc a b]
theorem zPb {rows:List Tri} {i:Nat} (hi:i<rows.length):fl3 rows=fl3 (rows.take i)++([rows[i].1,rows[i].2.1,rows[i].2.2]++fl3 (rows.drop (i+1))):=by
 have e:rows.drop i=rows[i]::rows.drop (i+1):=by simp
 have e2:fl3 (rows.drop i)=[rows[i].1,rows[i].2.1,rows[i].2.2]++fl3 (rows.drop (i+1)):=by rw [e];rfl
 rw [←e2,←zDc,List.take_append_drop]
theorem zM1 {rows:List Tri} {i:Nat} (hi:i<rows.length):(fl3 rows)[i*3]? = some rows[i].1∧(fl3 rows)[i*3+1]? = some rows[i].2.1∧(fl3 rows)[i*3+2]? = some rows[i].2.2:=by
 have h:=zAl hi;have g:∀j,j<3→(fl3 rows)[i*3+j]? = ([rows[i].1,rows[i].2.1,rows[i].2.2]:List PV)[j]?:=fun j hj=>by
  rw [←h,List.getElem?_take,if_pos hj,List.getElem?_drop]
 exact⟨g 0 (by decide),g 1 (by decide),g 2 (by decide)⟩
section
variable {h:AHeap} {K:AV→AHeap→Prop}
set_option maxHeartbeats 1600000 in
theorem zGk {k:Int} {o:Nat} {cap:Cap} {rows:List Tri} {G:List Pre} (hr:All2 FI3 rows G) (hW:Whs (fl3 rows)) (hnd:(o::eads (fl3 rows)).Nodup) (hw:HWF h) (q:h.obj o=some ⟨true,ers idz (fl3 rows)⟩) (hz:o<h.next) (hv:VOKs (zlt h) h 0 (fl3 rows)) (szG:SzG G) (hk0:0≤k) (hk1:k+totGs G≤4611686018427387904)
  (hk:∀h',Upd h (mkGs k rows G) h'→K (.int .i64 (k+totGs G)) h'):qg Tryz.prog 38 [.sl o 0 G.length cap,.int .i64 k] h K:=by
 refine ZI mix Tryz.func38 cf38 rfl ?_;dsimp only [if38,mI0,kI0,lI0,fI0,bI0,cI0,sI0,C2,R0,S0];obtain⟨no,hnd⟩:=List.nodup_cons.1 hnd;have hl:=hr.1;have hb:=szG.l;simp only [nm_eq,nm_eq,abQ,↓reduceIte,iQ2,qF,qN,zt,nQ1,nQ2,nQ3,nQ4,nQ5,nQ6,lQ1,lQ2,lQ3,lQ4,lQ5,lQ6,lQ7,lQ8,nQ7,nQ8,ze,zR,zJ,zK,zF,nQ9,iQ3,iQ4,iQ5,iQ6,qL,qM,zq,zW,zf,zS,zT,recOf,zV,zL,zM,zU,zk,lQ9,lQ10,nQ10,if_true,if_false,ite_true,ite_false,lQ11,lQ12,oQ1,oQ2,reduceCtorEq,decide_true,decide_false,bQ1,bQ2,zZ,zQ,zX,zO,zY,zN,zw,zP,za,zb,lQ13,lQ14,qJ,zo,qG,zm,qH,zl,qO,zn,qK,lQ15,lQ16,bQ3,bQ4,bQ5,true_and,and_true,bQ6,bQ7,lQ17,lQ18,bQ8,bQ9,bQ10,bQ11,eq_self,nQ11,nQ12,nQ13,nQ14,nQ15];refine QR (fun m vs h'=>∃i:Nat,i≤G.length∧m=G.length-i∧vs=[.sl o 0 G.length cap,.int .i64 (k+totGs (G.take i)),.int .i64 i]∧Upd h (mkGs k (rows.take i) (G.take i)) h') G.length ⟨0,Nat.zero_le _,rfl,by rw [show((totGs (G.take 0):Nat):Int)=0 from rfl,Int.add_zero];rfl,Upd.refl hw⟩ ?_
 rintro m vs h' ⟨i,hi,rfl,rfl,u⟩
 simp only [nm_eq,nm_eq,abQ,↓reduceIte,iQ2,qF,qN,zt,nQ1,nQ2,nQ3,nQ4,nQ5,nQ6,lQ1,lQ2,lQ3,lQ4,lQ5,lQ6,lQ7,lQ8,nQ7,nQ8,ze,zR,zJ,zK,zF,nQ9,iQ3,iQ4,iQ5,iQ6,qL,qM,zq,zW,zf,zS,zT,recOf,zV,zL,zM,zU,zk,lQ9,lQ10,nQ10,if_true,if_false,ite_true,ite_false,lQ11,lQ12,oQ1,oQ2,reduceCtorEq,decide_true,decide_false,bQ1,bQ2,zZ,zQ,zX,zO,zY,zN,zw,zP,za,zb,lQ13,lQ14,qJ,zo,qG,zm,qH,zl,qO,zn,qK,lQ15,lQ16,bQ3,bQ4,bQ5,true_and,and_true,bQ6,bQ7,lQ17,lQ18,bQ8,bQ9,bQ10,bQ11,eq_self,nQ11,nQ12,nQ13,nQ14,nQ15];refine iteI (fun hlt=>?_) fun hge=>?_
 rotate_left
 ·have hie:i=G.length:=by omega
  rw [hie,List.take_length,List.take_of_length_le (by omega)]at u
  rw [hie,List.take_length];exact hk _ u
 have hir:i<rows.length:=by omega
 have hlt0:i<G.length:=by omega
 have hR:IsPr rows[i].1 rows[i].2.1 rows[i].2.2 G[i].1 G[i].2.1 G[i].2.2:=hr.2 i _ _ (List.getElem?_eq_getElem hir) (List.getElem?_eq_getElem hlt0);have sz:SzP G[i].1 G[i].2.1 G[i].2.2:=szG.r _ (List.getElem_mem hlt0);have eT:totGs (G.take (i+1))=totGs (G.take i)+totP G[i].1 G[i].2.1 G[i].2.2:=by
  rw [List.take_succ_eq_append_getElem hlt0,Zy];simp [totGs]
 have eM:mkGs k (rows.take (i+1)) (G.take (i+1))=mkGs k (rows.take i) (G.take i)++mkPr (k+totGs (G.take i)) rows[i].1 rows[i].2.1 rows[i].2.2 G[i].1 G[i].2.1 G[i].2.2:=by
  rw [List.take_succ_eq_append_getElem hlt0,List.take_succ_eq_append_getElem hir,zDW _ _ _ _ _ (by simp [hl])]
  simp [mkGs]
 have tle:totGs (G.take i)+totP G[i].1 G[i].2.1 G[i].2.2≤totGs G:=by
  have:totGs (G.take (i+1)++G.drop (i+1))=totGs G:=by rw [List.take_append_drop]
  rw [Zy,eT]at this
  omega
 have spl:=zPb hir;have hWs:=hW;rw [spl]at hnd hWs
 have wAll:=qc.1 hWs;rw [qA,qA,List.nodup_append,List.nodup_append]at hnd
 obtain⟨_,⟨n3,_,_⟩,dA⟩:=hnd;have wT:Whs (fl3 (rows.take i)):=qc.2 fun c hc=>wAll c (List.mem_append.2 (.inl hc))
 have hrT:All2 FI3 (rows.take i) (G.take i):=⟨by simp [hl],fun j v y hv hy=>by
  rw [List.getElem?_take]at hv hy
  split at hv
  ·rw [if_pos (by assumption)]at hy;exact hr.2 j v y hv hy
  ·cases hv⟩
 have kT:=zAI (rows.take i) (G.take i) k hrT wT;have cell:=zM1 hir;have gv:∀{j:Nat} {c:PV},(fl3 rows)[j]? = some c→VOK (zlt h) h 0 c:=fun {j c} e=>Zn.1 hv c (List.mem_of_getElem? e)
 have vO0:=gv cell.1;have vP0:=gv cell.2.1;have vC0:=gv cell.2.2;have wO:=wAll rows[i].1 (List.mem_append.2 (.inr (by simp)))
 have wP:=wAll rows[i].2.1 (List.mem_append.2 (.inr (by simp)))
 have wC:=wAll rows[i].2.2 (List.mem_append.2 (.inr (by simp)))
 have er3:∀{j:Nat} {c:PV},(fl3 rows)[j]? = some c→(ers idz (fl3 rows))[j]? = some (er idz c):=fun {j c} e=>by rw [ZY,List.getElem?_map,e];rfl
 have cO:=er3 cell.1;have cP:=er3 cell.2.1;have cC:=er3 cell.2.2;have inE:∀x,x∈eads [rows[i].1,rows[i].2.1,rows[i].2.2]→x∈eads (fl3 rows):=fun x hx=>by rw [spl,qA,qA];exact List.mem_append.2 (.inr (List.mem_append.2 (.inl hx)))
 have inT:∀x,x∈eads (fl3 (rows.take i))→x∈eads (fl3 rows):=fun x hx=>by rw [spl,qA];exact List.mem_append.2 (.inl hx)
 have dT:∀x,x∈(mkGs k (rows.take i) (G.take i)).map Prod.fst→x∉eads [rows[i].1,rows[i].2.1,rows[i].2.2]:=fun x hx hy=>dA x (kT x hx) x (List.mem_append.2 (.inl hy)) rfl
 have ltE:∀x,x∈eads (fl3 rows)→x<h.next:=fun x hx=>by
  have:∀{cs:List PV},VOKs (zlt h) h 0 cs→x∈eads cs→x<h.next:=fun {cs} a b=>by
   induction cs with
   | nil=>cases b
   | cons c cs ih=>rw [eads,List.mem_append]at b;exact b.elim (fun b=>ead_z a.1 x b) (ih a.2)
  exact this hv hx
 have q':h'.obj o=some ⟨true,ers idz (fl3 rows)⟩:=by
  rw [u.same _ hz (qW.2 fun hm=>no (inT _ (kT _ hm)))];exact q
 have mvT:∀{v:PV},VOK (zlt h) h 0 v→(∀x∈ead v,x∈eads [rows[i].1,rows[i].2.1,rows[i].2.2])→VOK (zlt h') h' 0 v:=fun {v} hv' hin=>by
  have h2:=Qc u (fun o ho=>ho) hv'
  rw [zAC fun x hx hy=>dT x hx (hin x hy)]at h2
  exact h2.mono (fun o ho=>⟨Nat.lt_of_lt_of_le ho u.next,rfl⟩) (Nat.le_refl _)
 have iO:∀x∈ead rows[i].1,x∈eads [rows[i].1,rows[i].2.1,rows[i].2.2]:=fun x hx=>by rw [eads3];exact List.mem_append.2 (.inl hx)
 have iP:∀x∈ead rows[i].2.1,x∈eads [rows[i].1,rows[i].2.1,rows[i].2.2]:=fun x hx=>by rw [eads3];exact List.mem_append.2 (.inr (List.mem_append.2 (.inl hx)))
 have iC:∀x∈ead rows[i].2.2,x∈eads [rows[i].1,rows[i].2.1,rows[i].2.2]:=fun x hx=>by rw [eads3];exact List.mem_append.2 (.inr (List.mem_append.2 (.inr hx)))
 have vO:=mvT vO0 iO;have vP:=mvT vP0 iP;have vC:=mvT vC0 iC;have noR:o∉eads [rows[i].1,rows[i].2.1,rows[i].2.2]:=fun hm=>no (inE _ hm)
 have ltR:∀x,x∈eads [rows[i].1,rows[i].2.1,rows[i].2.2]→x<h'.next:=fun x hx=>Nat.lt_of_lt_of_le (ltE x (inE x hx)) u.next
 have hzh:o<h'.next:=Nat.lt_of_lt_of_le hz u.next;have wfh:=u.wf;have ai:qx 3 (.sl o 0 G.length cap) (.int .i64 (i:Int))=some (.ptr o (i*3)):=by rw [zAh hlt0,Nat.zero_add]
 have wi:=wrapS hlt0 (by omega:G.length≤4611686018427387904)
 have fin:∀{h3:AHeap},Upd h' (mkPr (k+totGs (G.take i)) rows[i].1 rows[i].2.1 rows[i].2.2 G[i].1 G[i].2.1 G[i].2.2) h3→Upd h (mkGs k (rows.take (i+1)) (G.take (i+1))) h3:=fun {h3} u2=>by
  rw [eM];have kk:=zAG (k:=k+totGs (G.take i)) hR ⟨wO,wP,wC,trivial⟩;exact u.trans u2 (fun x hx hy=>dT x hx (kk x hy)) fun x hx=>ltE x (inE x (kk x hx))
 clear u mvT q hv vO0 vP0 vC0 wAll hWs dA dT;generalize rows[i].1=xO at *
 generalize rows[i].2.1=xP at *
 generalize rows[i].2.2=xC at *
 generalize G[i].1=O at *
 generalize G[i].2.1=P at *
 generalize G[i].2.2=C at *
 have szO:=sz.O;rw [eads3]at n3
 simp only [List.nodup_append,List.mem_append]at n3
 obtain⟨dO,⟨dP,dC,dd⟩,dd0⟩:=n3;have hkk0:0≤k+(totGs (G.take i):Int):=by omega
 have hkk1:k+(totGs (G.take i):Int)+(totP O P C:Int)≤4611686018427387904:=by omega
 have eK:k+((totGs (G.take (i+1)):Nat):Int)=k+(totGs (G.take i):Int)+(totP O P C:Int):=by rw [eT];omega
 generalize k+(totGs (G.take i):Int)=k' at *
 have hkt:k'+(O.length:Int)+(totL List.length P:Int)+(totL (totL List.length) C:Int)=k'+(totP O P C:Int):=by unfold totP;omega
 have kO:=mkT_I.keys (k:=k') hR.O wO;have kP:=(mkT_I.F).keys (k:=k'+O.length) hR.P wP;have kC:=(mkT_I.F.F).keys (k:=k'+O.length+totL List.length P) hR.C wC;simp only [eads3,List.mem_append,not_or]at noR ltR
 obtain⟨nO,nP,nC⟩:=noR;simp only [nm_eq,nm_eq,abQ,↓reduceIte,iQ2,qF,qN,zt,nQ1,nQ2,nQ3,nQ4,nQ5,nQ6,lQ1,lQ2,lQ3,lQ4,lQ5,lQ6,lQ7,lQ8,nQ7,nQ8,ze,zR,zJ,zK,zF,nQ9,iQ3,iQ4,iQ5,iQ6,qL,qM,zq,zW,zf,zS,zT,recOf,zV,zL,zM,zU,zk,lQ9,lQ10,nQ10,if_true,if_false,ite_true,ite_false,lQ11,lQ12,oQ1,oQ2,reduceCtorEq,decide_true,decide_false,bQ1,bQ2,zZ,zQ,zX,zO,zY,zN,zw,zP,za,zb,lQ13,lQ14,qJ,zo,qG,zm,qH,zl,qO,zn,qK,lQ15,lQ16,bQ3,bQ4,bQ5,true_and,and_true,bQ6,bQ7,lQ17,lQ18,bQ8,bQ9,bQ10,bQ11,eq_self,nQ11,nQ12,nQ13,nQ14,nQ15,ai,ZG q',cO];refine zA0 hR.O wO wfh vO (by omega) hkk0 (by omega) fun h1 u1=>?_
 have qB:h1.obj o=some ⟨true,ers idz (fl3 rows)⟩:=by
  rw [u1.same _ hzh (qW.2 fun hm=>nO (kO _ hm))];exact q'
 have mv:∀{v:PV},VOK (zlt h') h' 0 v→(∀x∈ead v,x∉(mkI k' xO O).map Prod.fst)→VOK (zlt h1) h1 0 v:=fun {v} hv' hno=>by
  have h2:=Qc u1 (fun o ho=>ho) hv'
  rw [zAC fun x hx hm=>hno x hm hx]at h2
  exact h2.mono (fun o ho=>⟨Nat.lt_of_lt_of_le ho u1.next,rfl⟩) (Nat.le_refl _)
 have hvP1:=mv vP fun x hx hm=>dd0 x (kO x hm) x (.inl hx) rfl
 have hvC1:=mv vC fun x hx hm=>dd0 x (kO x hm) x (.inr hx) rfl
 simp only [nm_eq,nm_eq,abQ,↓reduceIte,iQ2,qF,qN,zt,nQ1,nQ2,nQ3,nQ4,nQ5,nQ6,lQ1,lQ2,lQ3,lQ4,lQ5,lQ6,lQ7,lQ8,nQ7,nQ8,ze,zR,zJ,zK,zF,nQ9,iQ3,iQ4,iQ5,iQ6,qL,qM,zq,zW,zf,zS,zT,recOf,zV,zL,zM,zU,zk,lQ9,lQ10,nQ10,if_true,if_false,ite_true,ite_false,lQ11,lQ12,oQ1,oQ2,reduceCtorEq,decide_true,decide_false,bQ1,bQ2,zZ,zQ,zX,zO,zY,zN,zw,zP,za,zb,lQ13,lQ14,qJ,zo,qG,zm,qH,zl,qO,zn,qK,lQ15,lQ16,bQ3,bQ4,bQ5,true_and,and_true,bQ6,bQ7,lQ17,lQ18,bQ8,bQ9,bQ10,bQ11,eq_self,nQ11,nQ12,nQ13,nQ14,nQ15,ai,ZG qB,cP];refine QM hR.P wP dP u1.wf hvP1 (by have:=sz.P.l;omega) (fun x hx=>by have:=sz.P.r x hx;omega) (by omega) (by omega) fun h2 u2=>?_
 have qC:h2.obj o=some ⟨true,ers idz (fl3 rows)⟩:=by
  rw [u2.same _ (Nat.lt_of_lt_of_le hzh u1.next) (qW.2 fun hm=>nP (kP _ hm))];exact qB
 have hvC2:VOK (zlt h2) h2 0 xC:=by
  have h3:=Qc u2 (fun o ho=>ho) hvC1
  rw [zAC fun x hx hm=>dd x (kP x hx) x hm rfl]at h3
  exact h3.mono (fun o ho=>⟨Nat.lt_of_lt_of_le ho u2.next,rfl⟩) (Nat.le_refl _)
 simp only [nm_eq,nm_eq,abQ,↓reduceIte,iQ2,qF,qN,zt,nQ1,nQ2,nQ3,nQ4,nQ5,nQ6,lQ1,lQ2,lQ3,lQ4,lQ5,lQ6,lQ7,lQ8,nQ7,nQ8,ze,zR,zJ,zK,zF,nQ9,iQ3,iQ4,iQ5,iQ6,qL,qM,zq,zW,zf,zS,zT,recOf,zV,zL,zM,zU,zk,lQ9,lQ10,nQ10,if_true,if_false,ite_true,ite_false,lQ11,lQ12,oQ1,oQ2,reduceCtorEq,decide_true,decide_false,bQ1,bQ2,zZ,zQ,zX,zO,zY,zN,zw,zP,za,zb,lQ13,lQ14,qJ,zo,qG,zm,qH,zl,qO,zn,qK,lQ15,lQ16,bQ3,bQ4,bQ5,true_and,and_true,bQ6,bQ7,lQ17,lQ18,bQ8,bQ9,bQ10,bQ11,eq_self,nQ11,nQ12,nQ13,nQ14,nQ15,ai,ZG qC,cC];refine zBY hR.C wC dC u2.wf hvC2 (by have:=sz.C.l;omega) (fun x hx=>⟨by have:=(sz.C.r x hx).l;omega,fun y hy=>by have:=(sz.C.r x hx).r y hy;omega⟩) (by omega) (by omega) fun h3 u3=>?_
 have u23:Upd h1 (mkF mkI List.length (k'+O.length) xP P++mkF (mkF mkI List.length) (totL List.length) (k'+O.length+totL List.length P) xC C) h3:=u2.trans u3 (fun x hx hm=>dd x (kP x hx) x (kC x hm) rfl) fun x hx=>by have:=ltR x (.inr (.inr (kC x hx)));have:=u1.next;omega
 have kPC:∀x∈(mkF mkI List.length (k'+O.length) xP P++mkF (mkF mkI List.length) (totL List.length) (k'+O.length+totL List.length P) xC C).map Prod.fst,x∈ead xP∨x∈ead xC:=fun x hx=>by
  rw [List.map_append,List.mem_append]at hx
  exact hx.imp (kP x) (kC x)
 have u4:Upd h' (mkPr k' xO xP xC O P C) h3:=u1.trans u23 (fun x hx hm=>dd0 x (kO x hx) x (kPC x hm) rfl) fun x hx=>ltR x (.inr (kPC x hx))
 rw [hkt];simp only [nm_eq,nm_eq,abQ,↓reduceIte,iQ2,qF,qN,zt,nQ1,nQ2,nQ3,nQ4,nQ5,nQ6,lQ1,lQ2,lQ3,lQ4,lQ5,lQ6,lQ7,lQ8,nQ7,nQ8,ze,zR,zJ,zK,zF,nQ9,iQ3,iQ4,iQ5,iQ6,qL,qM,zq,zW,zf,zS,zT,recOf,zV,zL,zM,zU,zk,lQ9,lQ10,nQ10,if_true,if_false,ite_true,ite_false,lQ11,lQ12,oQ1,oQ2,reduceCtorEq,decide_true,decide_false,bQ1,bQ2,zZ,zQ,zX,zO,zY,zN,zw,zP,za,zb,lQ13,lQ14,qJ,zo,qG,zm,qH,zl,qO,zn,qK,lQ15,lQ16,bQ3,bQ4,bQ5,true_and,and_true,bQ6,bQ7,lQ17,lQ18,bQ8,bQ9,bQ10,bQ11,eq_self,nQ11,nQ12,nQ13,nQ14,nQ15,wi];exact⟨_,by omega,i+1,by omega,rfl,by rw [eK],fin u4⟩
theorem zFH {rows:List Tri} (h:fl3 rows=[]):rows=[]:=by cases rows<;>first | rfl | cases h
theorem kGs {k:Int} {rows:List Tri} {G:List Pre} {w:Bool} {a:AV} {vG:PV} (eG:vG=.fz w a G.length (fl3 rows)) (hr:All2 FI3 rows G) (hW:Wh vG):∀o∈(mkGs k rows G).map Prod.fst,o∈ead vG:=by
 subst eG;intro x hx
 by_cases he:fl3 rows=[]
 ·rw [zFH he]at hx;simp [mkGs]at hx
 ·obtain⟨_,hs,hWs⟩:=hW.resolve_left he
  obtain⟨o,off,l,cap,rfl⟩:=Qz hs;rw [Z7 he];exact List.mem_cons_of_mem _ (zAI rows G k hr hWs x hx)
theorem zGj {k:Int} {rows:List Tri} {G:List Pre} {w:Bool} {a:AV} {vG:PV} (eG:vG=.fz w a G.length (fl3 rows)) (hr:All2 FI3 rows G) (hW:Wh vG) (hnd:(ead vG).Nodup) (hw:HWF h) (hv:VOK (zlt h) h 0 vG) (szG:SzG G) (hk0:0≤k) (hk1:k+totGs G≤4611686018427387904)
  (hk:∀h',Upd h (mkGs k rows G) h'→K (.int .i64 (k+totGs G)) h'):qg Tryz.prog 38 [er idz vG,.int .i64 k] h K:=by
 subst eG
 by_cases he:fl3 rows=[]
 ·have e:=zFH he
  subst e;have e2:G=[]:=List.eq_nil_of_length_eq_zero hr.1.symm;subst e2
  have:=hk h (Upd.refl hw)
  refine zFq (w:=w) (a:=a) hv ?_
  simpa [totGs]using this
 ·obtain⟨hwt,ha,hWs⟩:=hW.resolve_left he
  obtain⟨o,cap,rfl,ho,hz⟩:=hv.whole hwt he;rw [Z7 he]at hnd
  exact zGk hr hWs hnd hw ho hz hv.2 szG hk0 hk1 hk
def mkCs (k:Int) (rows:List Tri) (vL:PV) (G:List Pre) (L:List (List Int)):List (Nat×List PV):=mkGs k rows G++mkF mkI List.length (k+totGs G) vL L
def totCs (G:List Pre) (L:List (List Int)):Nat:=totGs G+totL List.length L
theorem zC8 {k kk:Int} {rows:List Tri} {w:Bool} {a:AV} {vG vL:PV} {G:List Pre} {L:List (List Int)} (eG:vG=.fz w a G.length (fl3 rows)) (hr:All2 FI3 rows G) (hL:FII vL L) (hW:Wh (.agg [.int .i64 kk,vG,vL])) (hnd:(ead (.agg [.int .i64 kk,vG,vL])).Nodup) (hw:HWF h) (hv:VOK (zlt h) h 0 (.agg [.int .i64 kk,vG,vL])) (szG:SzG G) (szL:SzL L) (hk0:0≤k) (hk1:k+totCs G L≤4611686018427387904)
  (hk:∀h',Upd h (mkCs k rows vL G L) h'→K (.int .i64 (k+totCs G L)) h'):qg Tryz.prog 12 [er idz (.agg [.int .i64 kk,vG,vL]),.int .i64 k] h K:=by
 refine ZI mix Tryz.func12 cf12 rfl ?_;dsimp only [if12,mI0,kI0,lI0,fI0,C2,R0,S0];simp only [er,ers];unfold totCs at hk hk1
 obtain⟨_,hvG,hvL,_⟩:=hv;obtain⟨_,wG,wL,_⟩:=hW;have oG:(er idz vG).one=true:=by rw [zBb hvG,eG];rfl
 have oL:(er idz vL).one=true:=by rw [zBb hvL];exact hL.one
 have cG:=Zg oG;have cL:=Zg oL;simp only [ead,eads,List.nil_append,List.append_nil,List.nodup_append]at hnd
 obtain⟨dG,dL,dd⟩:=hnd;obtain⟨hh,he,hx1,hn,qq⟩:=box1 hw [.int .i64 kk,er idz vG,er idz vL];have hzz:∀o,zlt h o→zlt hh o∧hh.obj o=h.obj o:=fun o ho=>⟨Nat.lt_of_lt_of_le ho hx1.next,hx1.obj o ho⟩
 have q:=qq _ (Ext.refl hx1.wf);have kG:=kGs (k:=k) eG hr wG;have kL:=(mkT_I.F).keys (k:=k+totGs G) hL wL;simp only [nm_eq,nm_eq,abQ,↓reduceIte,iQ2,qF,qN,zt,nQ1,nQ2,nQ3,nQ4,nQ5,nQ6,lQ1,lQ2,lQ3,lQ4,lQ5,lQ6,lQ7,lQ8,nQ7,nQ8,ze,zR,zJ,zK,zF,nQ9,iQ3,iQ4,iQ5,iQ6,qL,qM,zq,zW,zf,zS,zT,recOf,zV,zL,zM,zU,zk,lQ9,lQ10,nQ10,if_true,if_false,ite_true,ite_false,lQ11,lQ12,oQ1,oQ2,reduceCtorEq,decide_true,decide_false,bQ1,bQ2,zZ,zQ,zX,zO,zY,zN,zw,zP,za,zb,lQ13,lQ14,qJ,zo,qG,zm,qH,zl,qO,zn,qK,lQ15,lQ16,bQ3,bQ4,bQ5,true_and,and_true,bQ6,bQ7,lQ17,lQ18,bQ8,bQ9,bQ10,bQ11,eq_self,nQ11,nQ12,nQ13,nQ14,nQ15,he,oG,oL,cG,cL,ZG q];refine zGj eG hr wG dG hx1.wf (hvG.mono hzz (Nat.le_refl _)) szG hk0 (by omega) fun h2 u1=>?_
 have qB:h2.obj h.next=some ⟨true,[.int .i64 kk,er idz vG,er idz vL]⟩:=by
  rw [u1.same _ (by omega) (qW.2 fun hm=>by have:h.next<h.next:=ead_z hvG _ (kG _ hm);omega)];exact q
 have mv:∀{v:PV},VOK (zlt hh) hh 0 v→(∀o∈ead v,o∉(mkGs k rows G).map Prod.fst)→VOK (zlt h2) h2 0 v:=fun {v} hv' hno=>by
  have h2:=Qc u1 (fun o ho=>ho) hv'
  rw [zAC fun o ho hm=>hno o hm ho]at h2
  exact h2.mono (fun o ho=>⟨Nat.lt_of_lt_of_le ho u1.next,rfl⟩) (Nat.le_refl _)
 have hvL1:=mv (hvL.mono hzz (Nat.le_refl _)) fun o ho hm=>dd o (kG o hm) o ho rfl
 simp only [nm_eq,nm_eq,abQ,↓reduceIte,iQ2,qF,qN,zt,nQ1,nQ2,nQ3,nQ4,nQ5,nQ6,lQ1,lQ2,lQ3,lQ4,lQ5,lQ6,lQ7,lQ8,nQ7,nQ8,ze,zR,zJ,zK,zF,nQ9,iQ3,iQ4,iQ5,iQ6,qL,qM,zq,zW,zf,zS,zT,recOf,zV,zL,zM,zU,zk,lQ9,lQ10,nQ10,if_true,if_false,ite_true,ite_false,lQ11,lQ12,oQ1,oQ2,reduceCtorEq,decide_true,decide_false,bQ1,bQ2,zZ,zQ,zX,zO,zY,zN,zw,zP,za,zb,lQ13,lQ14,qJ,zo,qG,zm,qH,zl,qO,zn,qK,lQ15,lQ16,bQ3,bQ4,bQ5,true_and,and_true,bQ6,bQ7,lQ17,lQ18,bQ8,bQ9,bQ10,bQ11,eq_self,nQ11,nQ12,nQ13,nQ14,nQ15,ZG qB];refine QM hL wL dL u1.wf hvL1 (by have:=szL.l;omega) (fun x hx=>by have:=szL.r x hx;omega) (by omega) (by omega) fun h3 u2=>?_
 have u4:Upd hh (mkCs k rows vL G L) h3:=u1.trans u2 (fun o ho hm=>dd o (kG o ho) o (kL o hm) rfl) fun o ho=>by have:o<h.next:=ead_z hvL o (kL o ho);omega
 have u5:=hx1.upd.trans u4 (fun o ho=>by cases ho) fun o ho=>by
  unfold mkCs at ho
  rw [List.map_append,List.mem_append]at ho
  exact ho.elim (fun hm=>ead_z hvG o (kG o hm)) fun hm=>ead_z hvL o (kL o hm)
 have e:k+(totGs G:Int)+(totL List.length L:Int)=k+((totGs G+totL List.length L:Nat):Int):=by omega
 rw [e];simp only [nm_eq,nm_eq,abQ,↓reduceIte,iQ2,qF,qN,zt,nQ1,nQ2,nQ3,nQ4,nQ5,nQ6,lQ1,lQ2,lQ3,lQ4,lQ5,lQ6,lQ7,lQ8,nQ7,nQ8,ze,zR,zJ,zK,zF,nQ9,iQ3,iQ4,iQ5,iQ6,qL,qM,zq,zW,zf,zS,zT,recOf,zV,zL,zM,zU,zk,lQ9,lQ10,nQ10,if_true,if_false,ite_true,ite_false,lQ11,lQ12,oQ1,oQ2,reduceCtorEq,decide_true,decide_false,bQ1,bQ2,zZ,zQ,zX,zO,zY,zN,zw,zP,za,zb,lQ13,lQ14,qJ,zo,qG,zm,qH,zl,qO,zn,qK,lQ15,lQ16,bQ3,bQ4,bQ5,true_and,and_true,bQ6,bQ7,lQ17,lQ18,bQ8,bQ9,bQ10,bQ11,eq_self,nQ11,nQ12,nQ13,nQ14,nQ15];have e2:=hk h3 (by simpa using u5)
 simpa only [Nat.add_assoc]using e2
end
end Go.Proofs
namespace Go.Grp
end Go.Grp
namespace Go.Proofs
open Go.Ab Go.Lie Go.Grp
variable {σ:PHeap} {K:PV→PHeap→Prop} {G:List Pre} {L:List (List Int)} {vG vL:PV} {lo hi:Nat} {kk:Int} {rows:List Tri} {w:Bool} {a:AV}
theorem zFS {k:Int} (eG:vG=.fz w a G.length (fl3 rows)) (hr:All2 FI3 rows G) (hL:FII vL L) (hW:Wh (.agg [.int .i64 kk,vG,vL])):∀o∈(mkCs k rows vL G L).map Prod.fst,o∈ead (.agg [.int .i64 kk,vG,vL]):=by
 obtain⟨_,wG,wL,_⟩:=hW;intro o ho;unfold mkCs at ho
 rw [List.map_append,List.mem_append]at ho
 simp only [ead,eads,List.nil_append,List.append_nil,List.mem_append];exact ho.imp (kGs eG hr wG o) (mkT_I.F.keys hL wL o)
theorem zPZ {k:Int} (eG:vG=.fz w a G.length (fl3 rows)) (hr:All2 FI3 rows G) (hL:FII vL L) (ho:Own lo hi (.agg [.int .i64 kk,vG,vL])):∀o∈(mkCs k rows vL G L).map Prod.fst,lo≤o∧o<hi:=fun o hm=>ho.lt o (zFS (kk:=kk) eG hr hL ho.wh o hm)
theorem zCW {k:Int} (eG:vG=.fz w a G.length (fl3 rows)) (hr:All2 FI3 rows G) (hL:FII vL L) (ho:Own lo hi (.agg [.int .i64 kk,vG,vL])) (szG:SzG G) (szL:SzL L) (hk0:0≤k) (hk1:k+totCs G L≤4611686018427387904):
  zAT Tryz.prog 12 [.agg [.int .i64 kk,vG,vL],.int .i64 k] σ (mkCs k rows vL G L) .i64 (k+totCs G L):=
 zAT.of ⟨trivial,by rw [eG];trivial,hL.bel 0,trivial⟩ (zFS eG hr hL ho.wh) fun h hw hv=>zC8 eG hr hL ho.wh ho.nd hw hv szG szL hk0 hk1 fun h' u=>⟨rfl,u⟩
def HP (k:Int) (q:Tri) (g:Pre):Prop:=FI q.1 (sqI k g.1)∧FII q.2.1 (sqL sqI List.length (k+g.1.length) g.2.1)∧FIII q.2.2 (sqL (sqL sqI List.length) (totL List.length) (k+g.1.length+totL List.length g.2.1) g.2.2)
def HPs:Int→List Tri→List Pre→Prop
 | _,[],[]=>True
 | k,q::rows,g::G=>HP k q g∧HPs (k+totP g.1 g.2.1 g.2.2) rows G
 | _,_,_=>False
def HGs (v:PV) (G:List Pre) (k:Int):Prop:=∃w a rows,v=.fz w a G.length (fl3 rows)∧HPs k rows G
theorem HGs.one {v:PV} {k:Int} (h:HGs v G k):v.one=true:=by obtain⟨w,a,r,rfl,_⟩:=h;rfl
theorem HPs.at:∀{rows:List Tri} {G:List Pre} {k:Int},HPs k rows G→rows.length=G.length∧∀i (hi:i<rows.length) (hg:i<G.length),HP (k+totGs (G.take i)) rows[i] G[i]
 | [],[],k,_=>⟨rfl,fun i hi=>absurd hi (Nat.not_lt_zero _)⟩
 | q::rows,[],k,h=>h.elim
 | [],g::G,k,h=>h.elim
 | q::rows,g::G,k,h=>by
  obtain⟨e,f⟩:=HPs.at h.2;refine⟨by simp [e],fun i hi hg=>?_⟩
  cases i with
  | zero=>simpa [totGs]using h.1
  | succ i=>
   have:=f i (by simpa using hi) (by simpa using hg)
   simp only [List.take_succ_cons,totGs,List.getElem_cons_succ];rw [show k+((totP g.1 g.2.1 g.2.2+totGs (G.take i):Nat):Int)=k+(totP g.1 g.2.1 g.2.2:Int)+(totGs (G.take i):Int) by omega]
   exact this
theorem zG2:∀{rows:List Tri} {i:Nat} (hi:i<rows.length),(fl3 rows).drop (i*3)=rows[i].1::rows[i].2.1::rows[i].2.2::fl3 (rows.drop (i+1))
 | q::r,0,_=>rfl
 | q::r,i+1,hi=>by
  rw [show(i+1)*3=i*3+1+1+1 by omega]
  simp only [fl3,List.drop_succ_cons,List.getElem_cons_succ];exact zG2 (rows:=r) (by simpa using hi)
theorem zIa (M:List (Nat×List PV)):∀rows:List Tri,rms M (fl3 rows)=fl3 (rows.map fun q=>(Go.Ab.rm M q.1,Go.Ab.rm M q.2.1,Go.Ab.rm M q.2.2))
 | []=>rfl
 | q::rows=>by simp only [fl3,rms,List.map_cons,zIa M rows]
theorem zKK:∀{rows:List Tri} {G:List Pre} {k:Int} (M:List (Nat×List PV)),All2 FI3 rows G→Whs (fl3 rows)→(eads (fl3 rows)).Nodup→(∀o∈eads (fl3 rows),M.lookup o=(mkGs k rows G).lookup o)→HPs k (rows.map fun q=>(Go.Ab.rm M q.1,Go.Ab.rm M q.2.1,Go.Ab.rm M q.2.2)) G
 | [],[],k,M,_,_,_,_=>trivial
 | [],g::G,k,M,h,_,_,_=>by have:=h.1;simp at this
 | q::rows,[],k,M,h,_,_,_=>by have:=h.1;simp at this
 | q::rows,g::G,k,M,h,hW,hnd,hM=>by
  obtain⟨h1,h2⟩:=zFe h;have wq:Whs [q.1,q.2.1,q.2.2]:=⟨hW.1,hW.2.1,hW.2.2.1,trivial⟩;have kq:=zAG (k:=k) h1 wq;have kG:=zAI rows G (k+totP g.1 g.2.1 g.2.2) h2 hW.2.2.2;rw [zG3,qA]at hnd hM
  obtain⟨n1,n2,dd⟩:=List.nodup_append.1 hnd;have r7:=rmP7 (lo:=0) (hi:=(eads [q.1,q.2.1,q.2.2]).foldr max 0+1) (k:=k) h1 ⟨wq,n1,fun x hx=>⟨Nat.zero_le _,Nat.lt_succ_of_le (zGm hx)⟩⟩
  have ec:∀{v:PV},(∀x∈ead v,x∈eads [q.1,q.2.1,q.2.2])→Go.Ab.rm M v=Go.Ab.rm (mkPr k q.1 q.2.1 q.2.2 g.1 g.2.1 g.2.2) v:=fun {v} hin=>Z4 fun o hm=>by
   rw [hM o (List.mem_append.2 (.inl (hin o hm))),mkGs,Qi fun hx=>dd o (hin o hm) o (kG o hx) rfl]
  refine⟨?_,zKK M h2 hW.2.2.2 n2 fun o ho=>?_⟩
  ·show FI (Go.Ab.rm M q.1) _∧FII (Go.Ab.rm M q.2.1) _∧FIII (Go.Ab.rm M q.2.2) _
   rw [ec fun x hx=>by rw [eads3];exact List.mem_append.2 (.inl hx),ec fun x hx=>by rw [eads3];exact List.mem_append.2 (.inr (List.mem_append.2 (.inl hx))),ec fun x hx=>by rw [eads3];exact List.mem_append.2 (.inr (List.mem_append.2 (.inr hx)))]
   exact r7
  ·rw [hM o (List.mem_append.2 (.inr ho)),mkGs,Zv fun hx=>dd o (kq o hx) o ho rfl]
theorem rmCs {k:Int} (eG:vG=.fz w a G.length (fl3 rows)) (hr:All2 FI3 rows G) (hL:FII vL L) (ho:Own lo hi (.agg [.int .i64 kk,vG,vL])):
  HGs (Go.Ab.rm (mkCs k rows vL G L) vG) G k∧FII (Go.Ab.rm (mkCs k rows vL G L) vL) (sqL sqI List.length (k+totGs G) L):=by
 obtain⟨⟨_,wG,wL,_⟩,hnd,_⟩:=ho;simp only [ead,eads,List.nil_append,List.append_nil,List.nodup_append]at hnd
 obtain⟨dG,dL,dd⟩:=hnd;have kG:=kGs (k:=k) eG hr wG;have kL:=(mkT_I.F).keys (k:=k+totGs G) hL wL;have rL:=mkT_I.F.rd (k:=k+totGs G) hL wL dL;have eL:Go.Ab.rm (mkCs k rows vL G L) vL=Go.Ab.rm (mkF mkI List.length (k+totGs G) vL L) vL:=Z4 fun o hm=>by
  unfold mkCs;rw [Zv fun hx=>dd o (kG o hx) o hm rfl]
 have eGm:Go.Ab.rm (mkCs k rows vL G L) vG=Go.Ab.rm (mkGs k rows G) vG:=Z4 fun o hm=>by
  unfold mkCs;rw [Qi fun hx=>dd o hm o (kL o hx) rfl]
 rw [eL,eGm];refine⟨?_,rL⟩;subst eG
 by_cases he:fl3 rows=[]
 ·have e:=zFH he
  subst e;have e2:G=[]:=List.eq_nil_of_length_eq_zero hr.1.symm;subst e2;exact⟨w,a,[],rfl,trivial⟩
 obtain⟨hwt,ha,hWs⟩:=wG.resolve_left he;subst hwt;obtain⟨o,off,l,cap,rfl⟩:=Qz ha;rw [Z7 he]at dG
 obtain⟨no,nd⟩:=List.nodup_cons.1 dG;have hno:(mkGs k rows G).lookup o=none:=qW.2 fun hm=>no (zAI rows G k hr hWs o hm)
 refine⟨true,.sl o off l cap,_,?_,zKK (mkGs k rows G) hr hWs nd fun _ _=>rfl⟩
 rw [←zIa];simp only [Go.Ab.rm,zBw he,cond_false,hno]
set_option maxHeartbeats 800000 in
theorem zGy {k:Int} (hG:HGs vG G k) (szG:SzG G) (hk0:0≤k) (hk1:k+totGs G≤4611686018427387904) (hk:K (.int .i64 (k+totGs G)) σ):zA Tryz.prog 39 [vG,.int .i64 k] σ K:=by
 obtain⟨w,a,rows,rfl,hp⟩:=hG;obtain⟨hl,hat⟩:=hp.at;have hb:=szG.l;refine zD mix Tryz.func39 ?_;simp only [pwA,seval,-iQ0];refine zC (fun m vs h'=>∃i:Nat,i≤G.length∧m=G.length-i∧vs=[.fz w a G.length (fl3 rows),.int .i64 (k+totGs (G.take i)),.int .i64 i]∧σ=h') G.length ⟨0,Nat.zero_le _,rfl,by rw [show((totGs (G.take 0):Nat):Int)=0 from rfl,Int.add_zero];rfl,rfl⟩ ?_
 rintro m vs h' ⟨i,hi,rfl,rfl,rfl⟩
 simp only [pwA,seval,-iQ0];refine iteI (fun hlt=>?_) fun hge=>?_
 rotate_left
 ·have hie:i=G.length:=by omega
  rw [hie,List.take_length];exact hk
 have hlt0:i<G.length:=by omega
 have hlt':(i:Int)<(G.length:Int):=by omega
 have hir:i<rows.length:=by omega
 have sz:SzP G[i].1 G[i].2.1 G[i].2.2:=szG.r _ (List.getElem_mem hlt0);obtain⟨h0,h1,h2⟩:=hat i hir hlt0;have eT:totGs (G.take (i+1))=totGs (G.take i)+totP G[i].1 G[i].2.1 G[i].2.2:=by
  rw [List.take_succ_eq_append_getElem hlt0,Zy];simp [totGs]
 have tle:totGs (G.take i)+totP G[i].1 G[i].2.1 G[i].2.2≤totGs G:=by
  have:totGs (G.take (i+1)++G.drop (i+1))=totGs G:=by rw [List.take_append_drop]
  rw [Zy,eT]at this
  omega
 have cell:=zG2 hir;have eK:k+((totGs (G.take (i+1)):Nat):Int)=k+(totGs (G.take i):Int)+(totP G[i].1 G[i].2.1 G[i].2.2:Int):=by rw [eT];omega
 have hkk0:0≤k+(totGs (G.take i):Int):=by omega
 have hkk1:k+(totGs (G.take i):Int)+(totP G[i].1 G[i].2.1 G[i].2.2:Int)≤4611686018427387904:=by omega
 have wi:=wrapS hlt0 (by omega:G.length≤4611686018427387904)
 generalize k+(totGs (G.take i):Int)=k' at *
 generalize rows[i]=q at *
 generalize G[i]=g at *
 have szO:=sz.O;have hkt:k'+(g.1.length:Int)+(totL List.length g.2.1:Int)+(totL (totL List.length) g.2.2:Int)=k'+(totP g.1 g.2.1 g.2.2:Int):=by unfold totP;omega
 simp only [pwA,seval,-iQ0,hlt0,hlt',cell];refine zB5 (xs:=g.1) (by unfold sqI at h0;exact h0) (by omega) hkk0 (by omega) ?_
 have n1:¬(k'+(g.1.length:Int)<0):=by omega
 simp only [pwA,seval,-iQ0,n1,hlt0,hlt',cell];refine Q0 h1 (by have:=sz.P.l;omega) (fun y hy=>by have:=sz.P.r y hy;omega) (by omega) (by omega) ?_
 have n2:¬(k'+(g.1.length:Int)+(totL List.length g.2.1:Int)<0):=by omega
 simp only [pwA,seval,-iQ0,n2,hlt0,hlt',cell];refine zEg h2 sz.C (by omega) (by omega) ?_
 have n3:¬(k'+(totP g.1 g.2.1 g.2.2:Int)<0):=by omega
 rw [hkt];simp only [pwA,seval,-iQ0,n3,wi];exact⟨_,by omega,i+1,by omega,rfl,by rw [eK]⟩
theorem zAY {k:Int} (hG:HGs vG G k) (hL:FII vL (sqL sqI List.length (k+totGs G) L)) (szG:SzG G) (szL:SzL L) (hk0:0≤k) (hk1:k+totCs G L≤4611686018427387904) (hk:K (.int .i64 (k+totCs G L)) σ):zA Tryz.prog 13 [.agg [.int .i64 kk,vG,vL],.int .i64 k] σ K:=by
 have g1:=hG.one;have g2:=hL.one;have hk1':=hk1;unfold totCs at hk1'
 refine zA.gh ?_;refine zD mix Tryz.func13 ?_;simp only [pwA,seval,-iQ0,g1,g2];refine zGy hG szG hk0 (by omega) ?_
 have n1:¬(k+(totGs G:Int)<0):=by omega
 simp only [pwA,seval,-iQ0,n1,g1,g2];refine Q0 hL (by have:=szL.l;omega) (fun y hy=>by have:=szL.r y hy;omega) (by omega) (by omega) ?_
 have n2:¬(k+(totGs G:Int)+(totL List.length L:Int)<0):=by omega
 have e:k+(totGs G:Int)+(totL List.length L:Int)=k+(totCs G L:Int):=by unfold totCs;omega
 rw [e]at n2 ⊢
 simp only [pwA,seval,-iQ0,n2];exact Gh.fin0 (zB σ _) trivial hk
theorem zLq (szG:SzG G) (h3:G.length≤3):totGs G≤3459000000000000000:=by
 have:∀{H:List Pre},(∀g∈H,SzP g.1 g.2.1 g.2.2)→totGs H≤1153000000000000000*H.length:=fun {H}=>by
  induction H with
  | nil=>intro _;exact Nat.zero_le _
  | cons g H ih=>
   intro hh;have h1:=zDi (hh g (List.mem_cons_self ..));have h2:=ih fun x hx=>hh x (List.mem_cons_of_mem _ hx)
   simp only [totGs,List.length_cons];omega
 have h:=this szG.r
 have:=Nat.mul_le_mul_left 1153000000000000000 h3
 omega
end Go.Proofs
