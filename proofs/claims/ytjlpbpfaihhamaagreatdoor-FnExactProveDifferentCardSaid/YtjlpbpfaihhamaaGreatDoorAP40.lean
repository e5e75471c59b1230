/- Copies of presentations: the program's in memory of their own, the reference's. -/
import Derived.Test.YtjlpbpfaihhamaaGreatDoorAP31
import Derived.Test.YtjlpbpfaihhamaaGreatDoorAP37
import Derived.Test.YtjlpbpfaihhamaaGreatDoorAAbPn
import Derived.Test.YtjlpbpfaihhamaaGreatDoorAAbPz
import Derived.Test.YtjlpbpfaihhamaaGreatDoorAAbPk
import Derived.Test.YtjlpbpfaihhamaaGreatDoorAAbPj
open Int renaming reduceNatCast'→iQ0
set_option maxRecDepth 100000
namespace Go.Grp
end Go.Grp
set_option linter.unusedSimpArgs false
set_option linter.unusedVariables false
namespace Go.Proofs
open Go.Ab Go.Lie Go.Grp
variable {σ:PHeap} {K:PV→PHeap→Prop} {O:List Int} {P:List (List Int)} {C:List (List (List Int))} {vO vP vC vx vM:PV} {x:List Int} {M:List (List Int)} {sp:Nat}
theorem zHA {k0:Nat} (s:Shp O P C) (hs:PtrG σ sp vO vP vC) (hO:FI vO O) (hk0:k0≤1000000) (hk:K (.sl σ.next 0 O.length (.known O.length)) (σ.new (pis (dgs O O.length k0)))):zA Tryz.prog 101 [.ptr sp 0,.int .i64 k0] σ K:=by
 have hn6:=s.le;obtain⟨w0,a0,rfl⟩:=hO;have e0:∀{h:PHeap},Keep σ h→h.rd1 sp 0=some (.fz w0 a0 O.length (pis O)):=fun k=>by rw [zi (hs.keep k).obj];rfl
 have hsn:=hs.lt;refine zD mix Tryz.func101 ?_;have ew:IntKind.i64.wrap ((O.length:Int)-1)=(O.length:Int)-1:=wrap64 (by omega) (by omega)
 simp only [pwA,seval,-iQ0,e0 (Keep.refl σ),mk8 (n:=O.length) (by omega),mkL (n:=O.length) (by omega),ew,List.length_replicate,qh]
 refine zC (fun m vs h'=>∃(c kk:Nat) (out:List Int),c≤O.length∧m=c∧vs=[.ptr sp 0,.int .i64 kk,.sl σ.next 0 O.length (.known O.length),.int .i64 ((c:Int)-1)]∧h'=σ.new (pis out)∧out.length=O.length∧kk≤k0∧dgs O c kk++out.drop c=dgs O O.length k0) O.length ?_ ?_
 ·refine⟨O.length,k0,List.replicate O.length 0,Nat.le_refl _,rfl,rfl,?_,by simp,Nat.le_refl _,?_⟩
  ·first | rfl | simp [pis]
  rw [List.drop_of_length_le (by simp),List.append_nil]
 rintro m vs h' ⟨c,kk,out,hcn,rfl,rfl,rfl,hol,hkk,hd⟩
 have kp:Keep σ (σ.new (pis out)):=zB _ _;rcases Nat.eq_zero_or_pos m with rfl|hpos
 ·simp only [pwA,seval,-iQ0,show ¬((0:Int)≤((0:Nat):Int)-1) by omega]
  have he:out=dgs O O.length k0:=by simpa [dgs]using hd
  rw [he];exact hk
 ·obtain⟨c,rfl⟩:∃c,m=c+1:=⟨m-1,by omega⟩
  have e:((c+1:Nat):Int)-1=(c:Int):=by omega
  have hco:c<out.length:=by omega
  have hcn':c<O.length:=by omega
  have ew2:IntKind.i64.wrap ((c:Int)-1)=(c:Int)-1:=wrap64 (by omega) (by omega)
  rw [e];have hb:=s.pr c hcn';have hat:=at_eq hcn';obtain⟨q,hq⟩:∃q:Nat,at_ O c=(q:Int):=⟨(at_ O c).toNat,by omega⟩
  rw [hq]at hb
  rw [hq]at hat
  have hP0:¬(q:Int)=0:=by omega
  have et:(kk:Int).tmod (q:Int)=((kk % q:Nat):Int):=rfl;have ed:(kk:Int).tdiv (q:Int)=((kk / q:Nat):Int):=rfl;have hdl:kk / q≤kk:=Nat.div_le_self _ _;have ewq:∀q:Nat,q≤kk→IntKind.i64.wrap (q:Int)=(q:Int):=fun q hq=>wrap64 (by omega) (by omega)
  have ewq:=ewq _ hdl;have hco1:c+1≤out.length:=hco;have hset:=qZ hco (x:=((kk % q:Nat):Int));have hget:(pis O)[c]? = some (.int .i64 (q:Int)):=by rw [z8,List.getElem?_eq_getElem hcn',←hat];rfl
  have hs1:¬sp=σ.next:=by omega
  simp only [pwA,seval,-iQ0,e0 kp,e0 (zB σ (pis (out.set c ((kk % q:Nat):Int)))),hP0,et,ed,ewq,hcn',hget,hco1,zG,hset,ew2];refine⟨c,Nat.lt_succ_self c,c,kk / q,out.set c ((kk % q:Nat):Int),by omega,rfl,rfl,rfl,by rw [List.length_set];exact hol,Nat.le_trans hdl hkk,?_⟩
  rw [←hd,dgs,hq,Int.toNat_natCast,List.append_assoc]
  congr 1
  rw [List.drop_eq_getElem_cons (by rw [List.length_set];exact hco),List.getElem_set_self,List.drop_set_of_lt (by omega)]
  rfl
theorem zOT {k0:Nat} (hn6:O.length≤6) (hpr:∀j,j<O.length→2≤at_ O j∧at_ O j≤7) (hR:IsPr vO vP vC O P C) (hk0:k0≤1000000) (hk:∀v,FI v (dgs O O.length k0)→K v σ):zA Tryz.prog 90 [.agg [vO,vP,vC],.int .i64 k0] σ K:=by
 have h0:=hR.O.one;have h1:=hR.P.one;have h2:=hR.C.one;obtain⟨⟨w0,a0,rfl⟩,hRP,hRC⟩:=hR;have one:∀{σ:PHeap} {K:PV→PHeap→Prop},(K (.sl σ.next 0 O.length (.known O.length)) (σ.new (pis (List.replicate O.length 0))))→zA Tryz.prog 112 [.agg [.fz w0 a0 O.length (pis O),vP,vC]] σ K:=fun {σ K} hk=>by
  refine zA.gh ?_;refine zD mix Tryz.func112 ?_;simp only [pwA,seval,-iQ0,h1,h2,mk8 (n:=O.length) (by omega),mkL (n:=O.length) (by omega),List.length_replicate,qh]
  exact Gh.finS (s:=σ.next+1) ((zB σ _).new _) (by simp only [pwA,seval,-iQ0,qh]) (by omega) (zh _ _) hk
 refine zA.gh ?_;refine zD mix Tryz.func90 ?_;simp only [pwA,seval,-iQ0,h1,h2];refine one ?_;have ew:IntKind.i64.wrap ((O.length:Int)-1)=(O.length:Int)-1:=wrap64 (by omega) (by omega)
 simp only [pwA,seval,-iQ0,ew];refine zC (fun m vs h'=>∃(c kk:Nat) (out:List Int),c≤O.length∧m=c∧vs=[.int .i64 kk,.ptr σ.next 0,.sl (σ.next+1) 0 O.length (.known O.length),.int .i64 ((c:Int)-1)]∧h'=(σ.new [.fz w0 a0 O.length (pis O),vP,vC]).new (pis out)∧out.length=O.length∧kk≤k0∧dgs O c kk++out.drop c=dgs O O.length k0) O.length ?_ ?_
 ·refine⟨O.length,k0,List.replicate O.length 0,Nat.le_refl _,rfl,rfl,rfl,by simp,Nat.le_refl _,?_⟩
  rw [List.drop_of_length_le (by simp),List.append_nil]
 rintro m vs h' ⟨c,kk,out,hcn,rfl,rfl,rfl,hol,hkk,hd⟩
 rcases Nat.eq_zero_or_pos m with rfl|hpos
 ·simp only [pwA,seval,-iQ0,show ¬((0:Int)≤((0:Nat):Int)-1) by omega]
  have he:out=dgs O O.length k0:=by simpa [dgs]using hd
  rw [←he]at hk
  clear he hd;rw [←hol];exact Gh.finF (s:=σ.next+1) ((zB σ _).new _) (by simp only [pwA,seval,-iQ0]) (by omega) (zh _ _) (by simp [capOK]) fun o1=>hk _ ⟨_,_,rfl⟩
 ·obtain⟨c,rfl⟩:∃c,m=c+1:=⟨m-1,by omega⟩
  have e:((c+1:Nat):Int)-1=(c:Int):=by omega
  have hco:c<out.length:=by omega
  have hcn':c<O.length:=by omega
  have ew2:IntKind.i64.wrap ((c:Int)-1)=(c:Int)-1:=wrap64 (by omega) (by omega)
  rw [e];have hb:=hpr c hcn';have hat:=at_eq hcn';obtain⟨q,hq⟩:∃q:Nat,at_ O c=(q:Int):=⟨(at_ O c).toNat,by omega⟩
  rw [hq]at hb
  rw [hq]at hat
  have hP0:¬(q:Int)=0:=by omega
  have et:(kk:Int).tmod (q:Int)=((kk % q:Nat):Int):=rfl;have ed:(kk:Int).tdiv (q:Int)=((kk / q:Nat):Int):=rfl;have hdl:kk / q≤kk:=Nat.div_le_self _ _;have ewq:∀q:Nat,q≤kk→IntKind.i64.wrap (q:Int)=(q:Int):=fun q hq=>wrap64 (by omega) (by omega)
  have ewq:=ewq _ hdl;have hco1:c+1≤out.length:=hco;have hset:=qZ hco (x:=((kk % q:Nat):Int));have hget:(pis O)[c]? = some (.int .i64 (q:Int)):=by rw [z8,List.getElem?_eq_getElem hcn',←hat];rfl
  simp only [pwA,seval,-iQ0,hP0,et,ed,ewq,hcn',hget,hco1,zG,hset,ew2];refine⟨c,Nat.lt_succ_self c,c,kk / q,out.set c ((kk % q:Nat):Int),by omega,rfl,rfl,rfl,by rw [List.length_set];exact hol,Nat.le_trans hdl hkk,?_⟩
  rw [←hd,dgs,hq,Int.toNat_natCast,List.append_assoc]
  congr 1
  rw [List.drop_eq_getElem_cons (by rw [List.length_set];exact hco),List.getElem_set_self,List.drop_set_of_lt (by omega)]
  rfl
theorem zOU {k0:Nat} (s:Shp O P C) (hR:IsPr vO vP vC O P C) (hk0:k0≤1000000) (hk:∀v,FI v (dgs O O.length k0)→K v σ):zA Tryz.prog 90 [.agg [vO,vP,vC],.int .i64 k0] σ K:=zOT s.le s.pr hR hk0 hk
end Go.Proofs
namespace Go.Proofs
open Go.Ab Go.Lie
variable {σ:PHeap} {K:PV→PHeap→Prop} {p:Int} {n c m k:Nat} {W:List (List Int)} {B:List (List (List Int))} {vP vB vL:PV} {s:Nat} {x y u v:List Int} {vx vy:PV} {xs:List (List Int)}
theorem zEd (hL:FII vL xs) (sz:SzL xs) (hk:∀v,FII v xs→K v σ):zA Tryz.prog 58 [vL] σ K:=by
 have hb:=sz.l;obtain⟨wl,al,rl,rfl,hrl⟩:=hL;refine zA.gh ?_;refine zD mix Tryz.func58 ?_;simp only [pwA,seval,-iQ0];refine zC (fun m vs h'=>∃i v rows,i≤xs.length∧m=xs.length-i∧vs=[.fz wl al xs.length rl,v,.int .i64 (i:Nat)]∧Keep σ h'∧PSl σ.next 1 h' v i rows∧All2 FI rows (xs.take i)) xs.length ?_ ?_
 ·exact⟨0,_,[],by omega,by omega,rfl,zB σ _,PSl.new σ.next 1 rfl (Nat.le_refl _),by simpa using All2.nil _⟩
 ·rintro m vs h' ⟨i,v,rows,hi,rfl,rfl,hkp,ha,hall⟩
  simp only [pwA,seval,-iQ0];refine iteI (fun hlt=>?_) fun hge=>?_
  ·obtain⟨w4,a4,hrk⟩:=hrl.rowI hlt
   simp only [pwA,seval,-iQ0,hlt,hrk];refine zA.fz (e:=1) (fun K'=>ZU rfl (by have:=sz.r _ (List.getElem_mem hlt);omega)) (zh _ _) fun o cap=>?_
   simp only [pwA,seval,-iQ0];refine PSl.push (bytes:=24) (σb:=σ) hkp ha (by omega) (by omega) fun v2 h2 k2 a2=>?_
   simp only [pwA,seval,-iQ0,wrapS hlt (by omega:xs.length≤4611686018427387904)]
   refine⟨_,by omega,i+1,v2,_,by omega,rfl,rfl,k2,a2,?_⟩
   rw [List.take_succ_eq_append_getElem hlt];exact hall.snoc ⟨_,_,rfl⟩
  ·have hie:i=xs.length:=by omega
   subst hie;rw [List.take_length]at hall
   exact ha.fin hkp (hall.bI 0) fun o cap=>hk _ ⟨_,_,_,rfl,hall⟩
end Go.Proofs
namespace Go.Grp
end Go.Grp
namespace Go.Proofs
open Go.Ab Go.Lie Go.Grp
variable {σ:PHeap} {K:PV→PHeap→Prop} {O:List Int} {P:List (List Int)} {C:List (List (List Int))} {vO vP vC vx vM vA:PV} {x:List Int} {A M:List (List Int)} {sp:Nat}
theorem zEq (hL:∀r∈A,r.length≤1048576) (hll:A.length≤1000) (hvA:FII vA A) (hk:∀v t,FII v A→Own σ.top t v→σ.top≤t→K v (σ.up t)):zA Tryz.prog 64 [vA] σ K:=by
 obtain⟨wA,aA,rA,rfl,hrA⟩:=hvA;refine zA.gh ?_;refine zD mix Tryz.func64 ?_;simp only [pwA,seval,-iQ0];refine zC (fun m vs h'=>∃(i:Nat) (v:PV) (rows:List PV),i≤A.length∧m=A.length-i∧vs=[v,.fz wA aA A.length rA,.int .i64 A.length,.int .i64 i]∧Keep σ h'∧PAcc σ.next 1 h' v i rows∧All2 FI rows (A.take i)∧Owns σ.top h'.top rows) A.length ?_ ?_
 ·exact⟨0,_,[],by omega,by omega,rfl,Keep.refl σ,PAcc.nil _ _ _,by rw [List.take_zero];exact All2.nil _,Owns.nil _ _⟩
 rintro m vs h' ⟨i,v,rows,hi,rfl,rfl,hkp,ha,hall,how⟩
 simp only [pwA,seval,-iQ0];refine iteI (fun hlt=>?_) fun hge=>?_
 rotate_left
 ·have hie:i=A.length:=by omega
  subst hie;rw [List.take_length]at hall
  exact ha.own hkp (hall.bI 0) how fun a t ho ht=>hk _ t ⟨true,a,rows,rfl,hall⟩ ho ht
 obtain⟨w4,a4,hr⟩:=hrA.rowI hlt;simp only [pwA,seval,-iQ0,hlt,hr];refine zA.fzIT (fun K' k'=>zA8 rfl (by have:=hL _ (List.getElem_mem hlt);omega) k') fun v5 t5 hv5 ho5 ht5=>?_
 simp only [pwA,seval,-iQ0,hv5.one,hv5.cells];have hku:=Keep.up (Keep.refl h') ht5;refine zDr (PAcc.push (bytes:=24) (hkp.trans hku) (ha.keep hku) (by omega) (by omega) fun v' h2 k2 a2 htop=>?_)
 have htp:h2.top=t5:=htop;simp only [pwA,seval,-iQ0,wrapS hlt (by omega:A.length≤4611686018427387904)]
 exact⟨_,by omega,i+1,v',rows++[v5],by omega,rfl,rfl,k2,a2.acc,by rw [List.take_succ_eq_append_getElem hlt];exact hall.snoc hv5,by rw [htp];exact how.snoc ho5 hkp.top ht5⟩
theorem zAP (s:Shp O P C) (hs:PtrG σ sp vO vP vC) (hR:IsPr vO vP vC O P C) (hk:∀wO wP wC t,IsPr wO wP wC O P C→Owns σ.top t [wO,wP,wC]→σ.top≤t→K (.agg [wO,wP,wC]) (σ.up t)):zA Tryz.prog 30 [.ptr sp 0] σ K:=by
 have hn6:=s.le;have hsl:=hs.lt;have hPl:∀r∈P,r.length≤1048576:=fun r hr=>by
  obtain⟨i,hi,rfl⟩:=List.mem_iff_getElem.1 hr
  have:=(s.pw i (by rw [←s.pl];exact hi)).len
  unfold pvec at this
  rw [List.getD_eq_getElem?_getD,List.getElem?_eq_getElem hi]at this
  simp only [Option.getD_some]at this
  omega
 have hCl:∀i (hi:i<C.length),C[i].length≤6:=fun i hi=>by
  have:=s.row i (by rw [←s.cl];exact hi)
  rw [List.getD_eq_getElem?_getD,List.getElem?_eq_getElem hi]at this
  simp only [Option.getD_some]at this
  omega
 have hCr:∀i (hi:i<C.length),∀r∈C[i],r.length≤1048576:=fun i hi r hr=>by
  obtain⟨k,hk,rfl⟩:=List.mem_iff_getElem.1 hr;have hrow:=s.row i (by rw [←s.cl];exact hi)
  rw [List.getD_eq_getElem?_getD,List.getElem?_eq_getElem hi]at hrow
  simp only [Option.getD_some]at hrow
  have hcl:=s.cl
  have:=(s.cj i (i+(1+k)) (by omega) (by omega)).len
  unfold cvec at this
  rw [show i+(1+k)-i-1=k by omega]at this
  simp only [List.getD_eq_getElem?_getD,List.getElem?_eq_getElem hi,Option.getD_some,List.getElem?_eq_getElem hk]at this
  omega
 have hcl:=s.cl;have hpl:=s.pl;obtain⟨hRO,hRP,hRC⟩:=hR;have hRP0:=hRP;obtain⟨w0,a0,rfl⟩:=hRO;obtain⟨w2,a2,rC,rfl,hrC⟩:=hRC;have e0:σ.rd1 sp 0=some (.fz w0 a0 O.length (pis O)):=by rw [zi hs.obj];rfl
 have e1:σ.rd1 sp 1=some vP:=by rw [zi hs.obj];rfl
 have e2:σ.rd1 sp 2=some (.fz w2 a2 C.length rC):=by rw [zi hs.obj];rfl
 have n1:¬sp=σ.next:=by omega
 have n2:¬sp=σ.next+1:=by omega
 refine zA.gh ?_;refine zD mix Tryz.func30 ?_;simp only [pwA,seval,-iQ0,e0,e1,n1,n2];refine zA.fzIT (fun K' k'=>zA8 rfl (by omega) k') fun v0 t0 hv0 ho0 ht0=>?_
 simp only [pwA,seval,-iQ0,e0,e1,n1,n2,hv0.one];refine zEq hPl (by omega) hRP0 fun v1 t1 hv1 ho1 ht1=>?_
 simp only [pwA,seval,-iQ0,e2,n1,n2,hv0.one,hv1.one,hv0.cells,hv1.cells];refine zC (fun m vs h'=>∃(i:Nat) (vX:PV) (rows:List PV),i≤C.length∧m=C.length-i∧vs=[.ptr σ.next 0,.ptr (σ.next+1) 0,.fz w2 a2 C.length rC,.int .i64 C.length,.int .i64 i]∧Keep ((σ.new [.fz true .nils 0 [],.fz true .nils 0 [],.fz true .nils 0 []]).new [v0,v1,vX]) h'∧PAcc (σ.next+2) 1 h' vX i rows∧All2 FII rows (C.take i)∧Owns σ.top h'.top (v0::v1::rows)) C.length ?_ ?_
 ·refine⟨0,.fz true .nils 0 [],[],by omega,by omega,rfl,⟨Nat.le_refl _,Nat.le_trans ht0 ht1,fun t ht=>?_⟩,PAcc.nil _ _ _,by rw [List.take_zero];exact All2.nil _,?_⟩
  ·simp only [pwA,seval,-iQ0]
  ·exact((Owns.nil σ.top σ.top).snoc ho0 (Nat.le_refl _) ht0).snoc ho1 ht0 ht1
 rintro m vs h' ⟨i,vX,rows,hi,rfl,rfl,hkp,ha,hall,how⟩
 have hk0:Keep σ h':=((zB σ _).new _).trans hkp;have ob:h'.obj (σ.next+1)=some [v0,v1,vX]:=by rw [hkp.obj (σ.next+1) (show σ.next+1<σ.next+1+1 by omega)];simp only [pwA,seval,-iQ0]
 have ob0:h'.obj σ.next=some [.fz true .nils 0 [],.fz true .nils 0 [],.fz true .nils 0 []]:=by rw [hkp.obj _ (by show σ.next<σ.next+1+1;omega)];simp only [pwA,seval,-iQ0]
 have r2:h'.rd1 (σ.next+1) 2=some vX:=by rw [zi ob];rfl
 have r3:h'.rd (σ.next+1) 0 3=some [v0,v1,vX]:=by rw [ZE ob];rfl
 have hnx:σ.next+2≤h'.next:=hkp.next;simp only [pwA,seval,-iQ0];refine iteI (fun hlt=>?_) fun hge=>?_
 rotate_left
 ·have hie:i=C.length:=by omega
  subst hie;rw [List.take_length]at hall
  have hw3:h'.wr σ.next 0 [v0,v1,vX]=some (h'.set σ.next [v0,v1,vX]):=by
   rw [qf ob0,if_pos ⟨by simp,by simp [hv0.one,hv1.one,ha.one]⟩];rfl
  simp only [pwA,seval,-iQ0,r3,hw3];have hkE:Keep σ (h'.set σ.next [v0,v1,vX]):=hk0.set (Nat.le_refl _) _;have b0:=hv0.bel σ.next;have b1:=hv1.bel σ.next;rcases ha with ⟨rfl,h1,h2⟩|⟨t,cap,rfl,hcp,q2,q3,q4,q5⟩
  ·subst h2
   have hC0:C=[]:=List.eq_nil_of_length_eq_zero h1;exact Gh.fin0T hkE (Nat.le_refl _) ⟨b0,b1,trivial,trivial⟩ fun _=>hk v0 v1 _ _ ⟨hv0,hv1,⟨true,.nils,[],by rw [hC0];rfl,by rw [hC0];exact All2.nil _⟩⟩ (how.snoc (Own.empty _ _ true .nils 0) hk0.top (Nat.le_refl _)) hk0.top
  ·have hbr:Bels 0 rows:=hall.bL 0
   refine Gh.freeze (s:=t) (cs:=rows) (by rw [qX,if_neg (by omega)];exact q2) (by omega) hbr fun o ho hc hv=>?_
   have s0:sb t o rows v0=v0:=hv0.sb _ _ _;have s1:sb t o rows v1=v1:=hv1.sb _ _ _;simp only [sb,sbs,s0,s1,hcp.ok,and_self,if_true];refine Gh.fin0T (t:=max h'.top (o+1)) ((hkE.kill (show σ.next≤t by omega)).up (by simp only [PHeap.kill,PHeap.set];omega)) (Nat.le_refl _) ⟨b0,b1,trivial,trivial⟩ fun _=>hk v0 v1 _ _ ⟨hv0,hv1,⟨true,_,rows,rfl,hall⟩⟩ ?_ (by have:=hk0.top;omega)
   refine Owns.last (pre:=[v0,v1]) how ho (by omega) (by omega) fun hm=>?_
   have hm':o∈ead v0++(ead v1++eads rows):=hm;simp only [List.mem_append]at hm'
   simp only [addrs,ZL,List.mem_append,List.append_nil,not_or]at hv
   rcases hm' with hm' | hm' | hm'
   ·exact hv.1 (zCi hm')
   ·exact hv.2 (zCi hm')
   ·exact hc (ZP hm')
 obtain⟨w4,a4,rs4,hr,hrs⟩:=hrC.rowL hlt;simp only [pwA,seval,-iQ0,hlt,hr,r2];refine zEq (hCr i hlt) (by have:=hCl i hlt;omega) ⟨w4,a4,rs4,rfl,hrs⟩ fun v5 t5 hv5 ho5 ht5=>?_
 have hku:=Keep.up (Keep.refl h') ht5;have nn:¬σ.next+1=h'.next:=by omega
 simp only [pwA,seval,-iQ0,r2,nn,hv5.one,hv5.cells];refine zDr (PAcc.push (bytes:=24) (hkp.trans hku) (ha.keep hku) (by omega) (by omega) fun v' h2 k2 a2 htop=>?_)
 have htp:h2.top=t5:=htop;have hw2:h2.wr (σ.next+1) 2 [v']=some (h2.set (σ.next+1) [v0,v1,v']):=by
  have ob2:h2.obj (σ.next+1)=some [v0,v1,vX]:=by rw [k2.obj (σ.next+1) (show σ.next+1<σ.next+1+1 by omega)];simp only [pwA,seval,-iQ0]
  rw [qf ob2,if_pos ⟨by simp,by simp [a2.acc.one]⟩];rfl
 simp only [pwA,seval,-iQ0,hw2,a2.acc.cells,wrapS hlt (by omega:C.length≤4611686018427387904)]
 refine⟨_,by omega,i+1,v',rows++[v5],by omega,rfl,rfl,k2.setN _,a2.acc.setX (show σ.next+1<σ.next+1+1 by omega),by rw [List.take_succ_eq_append_getElem hlt];exact hall.snoc hv5,?_⟩
 show Owns σ.top h2.top _;rw [htp];exact how.snoc ho5 hk0.top ht5
theorem zGq (hR:IsPr vO vP vC O P C) (sz:SzP O P C) (hk:∀wO wP wC,IsPr wO wP wC O P C→K (.agg [wO,wP,wC]) σ):zA Tryz.prog 23 [.agg [vO,vP,vC]] σ K:=by
 have g0:=hR.O.one;have g1:=hR.P.one;have g2:=hR.C.one;have szC:=sz.C.l;have szO:=sz.O;obtain⟨hRO,hRP,hRC⟩:=hR;obtain⟨w2,a2,rC,rfl,hrC⟩:=hRC;refine zA.gh ?_;refine zD mix Tryz.func23 ?_;simp only [pwA,seval,-iQ0,g0,g1];have own1:∀{v:PV} {xs:List Int} {σ:PHeap} {K:PV→PHeap→Prop},FI v xs→xs.length≤4294967296→(∀v',FI v' xs→K v' σ)→zA Tryz.prog 57 [v] σ K:=fun {v xs σ K} hv hb hk=>by
  obtain⟨w,a,rfl⟩:=hv;exact zLD rfl hb fun v=>hk _ ⟨_,_,rfl⟩
 refine own1 hRO (by omega) fun v0 hv0=>?_
 simp only [pwA,seval,-iQ0,g0,g1,hv0.one,hv0.cells];refine zEd hRP sz.P fun v1 hv1=>?_
 simp only [pwA,seval,-iQ0,g0,g1,hv0.one,hv1.one,hv0.cells,hv1.cells];refine zC (fun m vs h'=>∃(i:Nat) (vX:PV) (rows:List PV),i≤C.length∧m=C.length-i∧vs=[.ptr σ.next 0,.ptr (σ.next+1) 0,.ptr (σ.next+2) 0,.int .i64 i]∧Keep (((σ.new [vO,vP,.fz w2 a2 C.length rC]).new [.fz true .nils 0 [],.fz true .nils 0 [],.fz true .nils 0 []]).new [v0,v1,vX]) h'∧PAcc (σ.next+3) 1 h' vX i rows∧All2 FII rows (C.take i)) C.length ?_ ?_
 ·refine⟨0,.fz true .nils 0 [],[],by omega,by omega,rfl,⟨Nat.le_refl _,Nat.le_refl _,fun t ht=>?_⟩,PAcc.nil _ _ _,by rw [List.take_zero];exact All2.nil _⟩
  simp only [pwA,seval,-iQ0]
 rintro m vs h' ⟨i,vX,rows,hi,rfl,rfl,hkp,ha,hall⟩
 have hk0:Keep σ h':=(((zB σ _).new _).new _).trans hkp;have ob:h'.obj (σ.next+2)=some [v0,v1,vX]:=by rw [hkp.obj (σ.next+2) (show σ.next+2<σ.next+1+1+1 by omega)];simp only [pwA,seval,-iQ0]
 have ob1:h'.obj (σ.next+1)=some [.fz true .nils 0 [],.fz true .nils 0 [],.fz true .nils 0 []]:=by rw [hkp.obj (σ.next+1) (show σ.next+1<σ.next+1+1+1 by omega)];simp only [pwA,seval,-iQ0]
 have ob0:h'.obj σ.next=some [vO,vP,.fz w2 a2 C.length rC]:=by rw [hkp.obj σ.next (show σ.next<σ.next+1+1+1 by omega)];simp only [pwA,seval,-iQ0]
 have q2:h'.rd1 σ.next 2=some (.fz w2 a2 C.length rC):=by rw [zi ob0];rfl
 have r2:h'.rd1 (σ.next+2) 2=some vX:=by rw [zi ob];rfl
 have r3:h'.rd (σ.next+2) 0 3=some [v0,v1,vX]:=by rw [ZE ob];rfl
 have hnx:σ.next+3≤h'.next:=hkp.next;simp only [pwA,seval,-iQ0,q2];refine iteI (fun hlt=>?_) fun hge=>?_
 rotate_left
 ·have hie:i=C.length:=by omega
  subst hie;rw [List.take_length]at hall
  have hw3:h'.wr (σ.next+1) 0 [v0,v1,vX]=some (h'.set (σ.next+1) [v0,v1,vX]):=by
   rw [qf ob1,if_pos ⟨by simp,by simp [hv0.one,hv1.one,ha.one]⟩];rfl
  simp only [pwA,seval,-iQ0,r3,hw3];have hkE:Keep σ (h'.set (σ.next+1) [v0,v1,vX]):=hk0.set (Nat.le_succ _) _;have b0:=hv0.bel σ.next;have b1:=hv1.bel σ.next;rcases ha with ⟨rfl,h1,h2⟩|⟨t,cap,rfl,hcp,q2,q3,q4,q5⟩
  ·subst h2
   have hC0:C=[]:=List.eq_nil_of_length_eq_zero h1;exact Gh.fin0 hkE ⟨b0,b1,trivial,trivial⟩ (hk v0 v1 _ ⟨hv0,hv1,⟨true,.nils,[],by rw [hC0];rfl,by rw [hC0];exact All2.nil _⟩⟩)
  ·refine Gh.freeze (s:=t) (cs:=rows) (by rw [qX,if_neg (by omega)];exact q2) (by omega) (hall.bL 0) fun o ho hc hv=>?_
   have s0:sb t o rows v0=v0:=hv0.sb _ _ _;have s1:sb t o rows v1=v1:=hv1.sb _ _ _;simp only [sb,sbs,s0,s1,hcp.ok,and_self,if_true];exact Gh.fin0 ((hkE.kill (show σ.next≤t by omega)).up (by simp only [PHeap.kill,PHeap.set];omega)) ⟨b0,b1,trivial,trivial⟩ (hk v0 v1 _ ⟨hv0,hv1,⟨true,_,rows,rfl,hall⟩⟩)
 obtain⟨w4,a4,rs4,hr,hrs⟩:=hrC.rowL hlt;simp only [pwA,seval,-iQ0,hlt,hr,q2,r2];refine zEd ⟨w4,a4,rs4,rfl,hrs⟩ (sz.C.r _ (List.getElem_mem hlt)) fun v5 hv5=>?_
 have nn:¬σ.next+2=h'.next:=by omega
 simp only [pwA,seval,-iQ0,r2,nn,hv5.one,hv5.cells];refine PAcc.push (bytes:=24) hkp ha (by omega) (by omega) fun v' h2 k2 a2=>?_
 have hw2:h2.wr (σ.next+2) 2 [v']=some (h2.set (σ.next+2) [v0,v1,v']):=by
  have ob2:h2.obj (σ.next+2)=some [v0,v1,vX]:=by rw [k2.obj (σ.next+2) (show σ.next+2<σ.next+1+1+1 by omega)];simp only [pwA,seval,-iQ0]
  rw [qf ob2,if_pos ⟨by simp,by simp [a2.acc.one]⟩];rfl
 simp only [pwA,seval,-iQ0,hw2,a2.acc.cells,wrapS hlt (by omega:C.length≤4611686018427387904)]
 exact⟨_,by omega,i+1,v',rows++[v5],by omega,rfl,rfl,k2.setN _,a2.acc.setX (show σ.next+2<σ.next+1+1+1 by omega),by rw [List.take_succ_eq_append_getElem hlt];exact hall.snoc hv5⟩
end Go.Proofs
