/- Copies of presentations: the program's in memory of their own, the reference's. -/
import Derived.Test.YtfoidnlodahfjaaGreatBP29
import Derived.Test.YtfoidnlodahfjaaGreatBP28
import Derived.Test.YtfoidnlodahfjaaGreatBAbPn
import Derived.Test.YtfoidnlodahfjaaGreatBAbPz
import Derived.Test.YtfoidnlodahfjaaGreatBP35
import Derived.Test.YtfoidnlodahfjaaGreatBAbPh
import Derived.Test.YtfoidnlodahfjaaGreatBAbPj
open Int renaming reduceNatCast'→iQ0
set_option maxRecDepth 100000
namespace Go.Grp
end Go.Grp
set_option linter.unusedSimpArgs false
set_option linter.unusedVariables false
namespace Go.Proofs
open Go.Ab Go.Lie Go.Grp
variable {σ:PHeap} {K:PV→PHeap→Prop} {O:List Int} {P:List (List Int)} {C:List (List (List Int))} {vO vP vC vx vM:PV} {x:List Int} {M:List (List Int)} {sp:Nat}
theorem zFx {k0:Nat} (s:Shp O P C) (hs:PtrG σ sp vO vP vC) (hO:FI vO O) (hk0:k0≤1000000) (hk:K (.sl σ.next 0 O.length (.known O.length)) (σ.new (pis (dgs O O.length k0)))):zA Tryz.prog 161 [.ptr sp 0,.int .i64 k0] σ K:=by
 have hn6:=s.le;obtain⟨w0,a0,rfl⟩:=hO;have e0:∀{h:PHeap},Keep σ h→h.rd1 sp 0=some (.fz w0 a0 O.length (pis O)):=fun k=>by rw [zH (hs.keep k).obj];rfl
 have hsn:=hs.lt;refine zC mix Tryz.func161 ?_
 conv=>arg 2;cbv
 refine zF rfl ?_;have ew:IntKind.i64.wrap ((O.length:Int)-1)=(O.length:Int)-1:=wrap64 (by omega) (by omega)
 simp only [pwA,seval,-iQ0,e0 (Keep.refl σ),mk8 (n:=O.length) (by omega),mkL (n:=O.length) (by omega),ew,List.length_replicate,zi]
 refine zG (fun m vs h'=>∃(c kk:Nat) (out:List Int),c≤O.length∧m=c∧vs=[.ptr sp 0,.int .i64 kk,.sl σ.next 0 O.length (.known O.length),.int .i64 ((c:Int)-1)]∧h'=σ.new (pis out)∧out.length=O.length∧kk≤k0∧dgs O c kk++out.drop c=dgs O O.length k0) O.length ?_ ?_
 ·refine⟨O.length,k0,List.replicate O.length 0,Nat.le_refl _,rfl,rfl,?_,by simp,Nat.le_refl _,?_⟩
  ·first | rfl | simp [pis]
  rw [List.drop_of_length_le (by simp),List.append_nil]
 rintro m vs h' ⟨c,kk,out,hcn,rfl,rfl,rfl,hol,hkk,hd⟩
 have kp:Keep σ (σ.new (pis out)):=zB _ _;rcases Nat.eq_zero_or_pos m with rfl|hpos
 ·simp only [pwA,seval,-iQ0,show ¬((0:Int)≤((0:Nat):Int)-1) by omega]
  have he:out=dgs O O.length k0:=by simpa [dgs]using hd
  rw [he];exact hk
 ·obtain⟨c,rfl⟩:∃c,m=c+1:=⟨m-1,by omega⟩
  have e:((c+1:Nat):Int)-1=(c:Int):=by omega
  have hco:c<out.length:=by omega
  have hcn':c<O.length:=by omega
  have ew2:IntKind.i64.wrap ((c:Int)-1)=(c:Int)-1:=wrap64 (by omega) (by omega)
  rw [e];have hb:=s.pr c hcn';have hat:=at_eq hcn';obtain⟨q,hq⟩:∃q:Nat,at_ O c=(q:Int):=⟨(at_ O c).toNat,by omega⟩
  rw [hq]at hb
  rw [hq]at hat
  have hP0:¬(q:Int)=0:=by omega
  have et:(kk:Int).tmod (q:Int)=((kk % q:Nat):Int):=rfl;have ed:(kk:Int).tdiv (q:Int)=((kk / q:Nat):Int):=rfl;have hdl:kk / q≤kk:=Nat.div_le_self _ _;have ewq:∀q:Nat,q≤kk→IntKind.i64.wrap (q:Int)=(q:Int):=fun q hq=>wrap64 (by omega) (by omega)
  have ewq:=ewq _ hdl;have hco1:c+1≤out.length:=hco;have hset:=za hco (x:=((kk % q:Nat):Int));have hget:(pis O)[c]? = some (.int .i64 (q:Int)):=by rw [zM,List.getElem?_eq_getElem hcn',←hat];rfl
  have hs1:¬sp=σ.next:=by omega
  simp only [pwA,seval,-iQ0,e0 kp,e0 (zB σ (pis (out.set c ((kk % q:Nat):Int)))),hP0,et,ed,ewq,hcn',hget,hco1,zI,hset,ew2];refine⟨c,Nat.lt_succ_self c,c,kk / q,out.set c ((kk % q:Nat):Int),by omega,rfl,rfl,rfl,by rw [List.length_set];exact hol,Nat.le_trans hdl hkk,?_⟩
  rw [←hd,dgs,hq,Int.toNat_natCast,List.append_assoc]
  congr 1
  rw [List.drop_eq_getElem_cons (by rw [List.length_set];exact hco),List.getElem_set_self,List.drop_set_of_lt (by omega)]
  rfl
theorem zEL (s:Shp O P C) (hs:PtrG σ sp vO vP vC) (hO:FI vO O) (hb:ordF O O.length≤1000) (hk:∀v h' rows,RowsI σ h' v rows→rows.map SR.x=(List.range (ordF O O.length).toNat).map (dgs O O.length)→K v h'):zA Tryz.prog 95 [.ptr sp 0] σ K:=by
 have h1:=Zr s.pr (i:=O.length) (Nat.le_refl _);obtain⟨N,hN⟩:∃N:Nat,ordF O O.length=(N:Int):=⟨(ordF O O.length).toNat,by omega⟩
 rw [hN,Int.toNat_natCast]at hk
 rw [hN]at hb
 refine zC mix Tryz.func95 ?_
 conv=>arg 2;cbv
 refine zF rfl ?_;simp only [pwA,seval,-iQ0];refine zAa s hs hO ?_;rw [hN];simp only [pwA,seval,-iQ0];refine zG (fun m vs h'=>∃(i:Nat) (v:PV) (rows:List SR),i≤N∧m=N-i∧vs=[.ptr sp 0,v,.int .i64 (N:Int),.int .i64 i]∧RowsI σ h' v rows∧rows.map SR.x=(List.range i).map (dgs O O.length)) N ?_ ?_
 ·exact⟨0,_,[],by omega,by omega,rfl,RowsI.nil σ,rfl⟩
 rintro m vs h' ⟨i,v,rows,hi,rfl,rfl,hr,hv⟩
 have hrl:rows.length=i:=by have:=congrArg List.length hv;simpa using this
 simp only [pwA,seval,-iQ0];refine iteI (fun hlt=>?_) fun hge=>?_
 rotate_left
 ·have hie:i=N:=by omega
  subst hie;exact hk _ _ rows hr hv
 have hlt':i<N:=by omega
 simp only [pwA,seval,-iQ0];refine zFx s (hs.keep hr.keep) hO (by omega) ?_
 simp only [pwA,seval,-iQ0];have hl:(dgs O O.length i).length=O.length:=ZR _ _ _;have key:=fun K k=>RowsI.push (K:=K) (t:=h'.next) (h:=h'.new (pis (dgs O O.length i))) (cap:=.known O.length) (x:=dgs O O.length i) hr (zB h' _) (Nat.le_refl _) (Nat.lt_succ_self _) (by rw [zD,if_pos rfl]) (by rw [hl];exact .inr rfl) (by omega) k
 rw [hl]at key
 refine key _ fun v' h2 r2 k2 l2=>?_
 simp only [pwA,seval,-iQ0,wrapS hlt' (by omega:N≤4611686018427387904)]
 refine⟨_,by omega,i+1,v',_,by omega,rfl,rfl,r2,?_⟩
 rw [List.map_append,hv,List.range_succ,List.map_append]
 rfl
end Go.Proofs
namespace Go.Grp
end Go.Grp
namespace Go.Proofs
open Go.Ab Go.Lie Go.Grp
variable {σ:PHeap} {K:PV→PHeap→Prop} {O:List Int} {P:List (List Int)} {C:List (List (List Int))} {vO vP vC vx vM vA:PV} {x:List Int} {A M:List (List Int)} {sp:Nat}
theorem zDu (hL:∀r∈A,r.length≤1048576) (hll:A.length≤1000) (hvA:FII vA A) (hk:∀v t,FII v A→Own σ.top t v→σ.top≤t→K v (σ.up t)):zA Tryz.prog 58 [vA] σ K:=by
 obtain⟨wA,aA,rA,rfl,hrA⟩:=hvA;refine zA.gh ?_;refine zC mix Tryz.func58 ?_
 conv=>arg 2;cbv
 refine zF rfl ?_;simp only [pwA,seval,-iQ0];refine zG (fun m vs h'=>∃(i:Nat) (v:PV) (rows:List PV),i≤A.length∧m=A.length-i∧vs=[v,.fz wA aA A.length rA,.int .i64 A.length,.int .i64 i]∧Keep σ h'∧PAcc σ.next 1 h' v i rows∧All2 FI rows (A.take i)∧Owns σ.top h'.top rows) A.length ?_ ?_
 ·exact⟨0,_,[],by omega,by omega,rfl,Keep.refl σ,PAcc.nil _ _ _,by rw [List.take_zero];exact All2.nil _,Owns.nil _ _⟩
 rintro m vs h' ⟨i,v,rows,hi,rfl,rfl,hkp,ha,hall,how⟩
 simp only [pwA,seval,-iQ0];refine iteI (fun hlt=>?_) fun hge=>?_
 rotate_left
 ·have hie:i=A.length:=by omega
  subst hie;rw [List.take_length]at hall
  exact ha.own hkp (hall.bI 0) how fun a t ho ht=>hk _ t ⟨true,a,rows,rfl,hall⟩ ho ht
 obtain⟨w4,a4,hr⟩:=hrA.rowI hlt;simp only [pwA,seval,-iQ0,hlt,hr];refine zA.fzIT (fun K' k'=>zBU rfl (by have:=hL _ (List.getElem_mem hlt);omega) k') fun v5 t5 hv5 ho5 ht5=>?_
 simp only [pwA,seval,-iQ0,hv5.one,hv5.cells];have hku:=Keep.up (Keep.refl h') ht5;refine zFW (PAcc.push (bytes:=24) (hkp.trans hku) (ha.keep hku) (by omega) (by omega) fun v' h2 k2 a2 htop=>?_)
 have htp:h2.top=t5:=htop;simp only [pwA,seval,-iQ0,wrapS hlt (by omega:A.length≤4611686018427387904)]
 exact⟨_,by omega,i+1,v',rows++[v5],by omega,rfl,rfl,k2,a2.acc,by rw [List.take_succ_eq_append_getElem hlt];exact hall.snoc hv5,by rw [htp];exact how.snoc ho5 hkp.top ht5⟩
theorem zB9 (s:Shp O P C) (hs:PtrG σ sp vO vP vC) (hR:IsPr vO vP vC O P C) (hk:∀wO wP wC t,IsPr wO wP wC O P C→Owns σ.top t [wO,wP,wC]→σ.top≤t→K (.agg [wO,wP,wC]) (σ.up t)):zA Tryz.prog 44 [.ptr sp 0] σ K:=by
 have hn6:=s.le;have hsl:=hs.lt;have hPl:∀r∈P,r.length≤1048576:=fun r hr=>by
  obtain⟨i,hi,rfl⟩:=List.mem_iff_getElem.1 hr
  have:=(s.pw i (by rw [←s.pl];exact hi)).len
  unfold pvec at this
  rw [List.getD_eq_getElem?_getD,List.getElem?_eq_getElem hi]at this
  simp only [Option.getD_some]at this
  omega
 have hCl:∀i (hi:i<C.length),C[i].length≤6:=fun i hi=>by
  have:=s.row i (by rw [←s.cl];exact hi)
  rw [List.getD_eq_getElem?_getD,List.getElem?_eq_getElem hi]at this
  simp only [Option.getD_some]at this
  omega
 have hCr:∀i (hi:i<C.length),∀r∈C[i],r.length≤1048576:=fun i hi r hr=>by
  obtain⟨k,hk,rfl⟩:=List.mem_iff_getElem.1 hr;have hrow:=s.row i (by rw [←s.cl];exact hi)
  rw [List.getD_eq_getElem?_getD,List.getElem?_eq_getElem hi]at hrow
  simp only [Option.getD_some]at hrow
  have hcl:=s.cl
  have:=(s.cj i (i+(1+k)) (by omega) (by omega)).len
  unfold cvec at this
  rw [show i+(1+k)-i-1=k by omega]at this
  simp only [List.getD_eq_getElem?_getD,List.getElem?_eq_getElem hi,Option.getD_some,List.getElem?_eq_getElem hk]at this
  omega
 have hcl:=s.cl;have hpl:=s.pl;obtain⟨hRO,hRP,hRC⟩:=hR;have hRP0:=hRP;obtain⟨w0,a0,rfl⟩:=hRO;obtain⟨w2,a2,rC,rfl,hrC⟩:=hRC;have e0:σ.rd1 sp 0=some (.fz w0 a0 O.length (pis O)):=by rw [zH hs.obj];rfl
 have e1:σ.rd1 sp 1=some vP:=by rw [zH hs.obj];rfl
 have e2:σ.rd1 sp 2=some (.fz w2 a2 C.length rC):=by rw [zH hs.obj];rfl
 have n1:¬sp=σ.next:=by omega
 have n2:¬sp=σ.next+1:=by omega
 refine zA.gh ?_;refine zC mix Tryz.func44 ?_
 conv=>arg 2;cbv
 refine zF rfl ?_;simp only [pwA,seval,-iQ0,e0,e1,n1,n2];refine zA.fzIT (fun K' k'=>zBU rfl (by omega) k') fun v0 t0 hv0 ho0 ht0=>?_
 simp only [pwA,seval,-iQ0,e0,e1,n1,n2,hv0.one];refine zDu hPl (by omega) hRP0 fun v1 t1 hv1 ho1 ht1=>?_
 simp only [pwA,seval,-iQ0,e2,n1,n2,hv0.one,hv1.one,hv0.cells,hv1.cells];refine zG (fun m vs h'=>∃(i:Nat) (vX:PV) (rows:List PV),i≤C.length∧m=C.length-i∧vs=[.ptr σ.next 0,.ptr (σ.next+1) 0,.fz w2 a2 C.length rC,.int .i64 C.length,.int .i64 i]∧Keep ((σ.new [.fz true .nils 0 [],.fz true .nils 0 [],.fz true .nils 0 []]).new [v0,v1,vX]) h'∧PAcc (σ.next+2) 1 h' vX i rows∧All2 FII rows (C.take i)∧Owns σ.top h'.top (v0::v1::rows)) C.length ?_ ?_
 ·refine⟨0,.fz true .nils 0 [],[],by omega,by omega,rfl,⟨Nat.le_refl _,Nat.le_trans ht0 ht1,fun t ht=>?_⟩,PAcc.nil _ _ _,by rw [List.take_zero];exact All2.nil _,?_⟩
  ·simp only [pwA,seval,-iQ0]
  ·exact((Owns.nil σ.top σ.top).snoc ho0 (Nat.le_refl _) ht0).snoc ho1 ht0 ht1
 rintro m vs h' ⟨i,vX,rows,hi,rfl,rfl,hkp,ha,hall,how⟩
 have hk0:Keep σ h':=((zB σ _).new _).trans hkp;have ob:h'.obj (σ.next+1)=some [v0,v1,vX]:=by rw [hkp.obj (σ.next+1) (show σ.next+1<σ.next+1+1 by omega)];simp only [pwA,seval,-iQ0]
 have ob0:h'.obj σ.next=some [.fz true .nils 0 [],.fz true .nils 0 [],.fz true .nils 0 []]:=by rw [hkp.obj _ (by show σ.next<σ.next+1+1;omega)];simp only [pwA,seval,-iQ0]
 have r2:h'.rd1 (σ.next+1) 2=some vX:=by rw [zH ob];rfl
 have r3:h'.rd (σ.next+1) 0 3=some [v0,v1,vX]:=by rw [zb ob];rfl
 have hnx:σ.next+2≤h'.next:=hkp.next;simp only [pwA,seval,-iQ0];refine iteI (fun hlt=>?_) fun hge=>?_
 rotate_left
 ·have hie:i=C.length:=by omega
  subst hie;rw [List.take_length]at hall
  have hw3:h'.wr σ.next 0 [v0,v1,vX]=some (h'.set σ.next [v0,v1,vX]):=by
   rw [zX ob0,if_pos ⟨by simp,by simp [hv0.one,hv1.one,ha.one]⟩];rfl
  simp only [pwA,seval,-iQ0,r3,hw3];have hkE:Keep σ (h'.set σ.next [v0,v1,vX]):=hk0.set (Nat.le_refl _) _;have b0:=hv0.bel σ.next;have b1:=hv1.bel σ.next;rcases ha with ⟨rfl,h1,h2⟩|⟨t,cap,rfl,hcp,q2,q3,q4,q5⟩
  ·subst h2
   have hC0:C=[]:=List.eq_nil_of_length_eq_zero h1;exact Gh.fin0T hkE (Nat.le_refl _) ⟨b0,b1,trivial,trivial⟩ fun _=>hk v0 v1 _ _ ⟨hv0,hv1,⟨true,.nils,[],by rw [hC0];rfl,by rw [hC0];exact All2.nil _⟩⟩ (how.snoc (Own.empty _ _ true .nils 0) hk0.top (Nat.le_refl _)) hk0.top
  ·have hbr:Bels 0 rows:=hall.bL 0
   refine Gh.freeze (s:=t) (cs:=rows) (by rw [zJ,if_neg (by omega)];exact q2) (by omega) hbr fun o ho hc hv=>?_
   have s0:sb t o rows v0=v0:=hv0.sb _ _ _;have s1:sb t o rows v1=v1:=hv1.sb _ _ _;simp only [sb,sbs,s0,s1,hcp.ok,and_self,if_true];refine Gh.fin0T (t:=max h'.top (o+1)) ((hkE.kill (show σ.next≤t by omega)).up (by simp only [PHeap.kill,PHeap.set];omega)) (Nat.le_refl _) ⟨b0,b1,trivial,trivial⟩ fun _=>hk v0 v1 _ _ ⟨hv0,hv1,⟨true,_,rows,rfl,hall⟩⟩ ?_ (by have:=hk0.top;omega)
   refine Owns.last (pre:=[v0,v1]) how ho (by omega) (by omega) fun hm=>?_
   have hm':o∈ead v0++(ead v1++eads rows):=hm;simp only [List.mem_append]at hm'
   simp only [addrs,qU,List.mem_append,List.append_nil,not_or]at hv
   rcases hm' with hm' | hm' | hm'
   ·exact hv.1 (zAi hm')
   ·exact hv.2 (zAi hm')
   ·exact hc (qd hm')
 obtain⟨w4,a4,rs4,hr,hrs⟩:=hrC.rowL hlt;simp only [pwA,seval,-iQ0,hlt,hr,r2];refine zDu (hCr i hlt) (by have:=hCl i hlt;omega) ⟨w4,a4,rs4,rfl,hrs⟩ fun v5 t5 hv5 ho5 ht5=>?_
 have hku:=Keep.up (Keep.refl h') ht5;have nn:¬σ.next+1=h'.next:=by omega
 simp only [pwA,seval,-iQ0,r2,nn,hv5.one,hv5.cells];refine zFW (PAcc.push (bytes:=24) (hkp.trans hku) (ha.keep hku) (by omega) (by omega) fun v' h2 k2 a2 htop=>?_)
 have htp:h2.top=t5:=htop;have hw2:h2.wr (σ.next+1) 2 [v']=some (h2.set (σ.next+1) [v0,v1,v']):=by
  have ob2:h2.obj (σ.next+1)=some [v0,v1,vX]:=by rw [k2.obj (σ.next+1) (show σ.next+1<σ.next+1+1 by omega)];simp only [pwA,seval,-iQ0]
  rw [zX ob2,if_pos ⟨by simp,by simp [a2.acc.one]⟩];rfl
 simp only [pwA,seval,-iQ0,hw2,a2.acc.cells,wrapS hlt (by omega:C.length≤4611686018427387904)]
 refine⟨_,by omega,i+1,v',rows++[v5],by omega,rfl,rfl,k2.setN _,a2.acc.setX (show σ.next+1<σ.next+1+1 by omega),by rw [List.take_succ_eq_append_getElem hlt];exact hall.snoc hv5,?_⟩
 show Owns σ.top h2.top _;rw [htp];exact how.snoc ho5 hk0.top ht5
end Go.Proofs
