/- The text of a presentation is read as the presentation, by the reference and by the program (plain law). -/
import Derived.Test.YtjlpbpfaihhamaaGreatDoorBP39
import Derived.WalkSmall
import Derived.WalkKit
import Derived.BigCall
import Derived.LoopTactic
import Derived.Outline
import Derived.IntWalk
import Derived.Lib.Hide
import Derived.Lib.ConvBytes
import Derived.Maps.AppendAt
open Int renaming reduceNatCast'→iQ0
set_option maxRecDepth 100000
namespace Go.Grp
end Go.Grp
set_option linter.unusedSimpArgs false
set_option linter.unusedVariables false
set_option linter.unusedSectionVars false
namespace Go.Proofs
open Go.Ab Go.Lie Go.Grp
variable {σ σ0 h h':PHeap} {K:PV→PHeap→Prop} {b k nP nC r s0 i j n:Nat} {v vO vP vC c vX vS vL vM:PV} {x O xs bs:List Int} {P M:List (List Int)} {C:List (List (List Int))} {cs:List PV} {s t:List UInt8}
theorem zGC {cap:Cap} (ho:σ.obj s0=some (pis O)) (szO:O.length≤6) (bO:∀o∈O,isP o) (hk:∀r:Int,(r≤729↔prodL O≤729)→K (.int .i64 r) σ):zA Tryz.prog 75 [.sl s0 0 O.length cap] σ K:=by
 refine zS mix Tryz.func75 ?_;simp only [pwA,seval,-iQ0];refine zB (fun m vs h'=>∃(i:Nat) (r:Int),i≤O.length∧m=O.length-i∧vs=[.sl s0 0 O.length cap,.int .i64 r,.int .i64 i]∧σ=h'∧(r=prodL (O.take i)∨(729<r∧729<prodL (O.take i)))) O.length ?_ ?_
 ·exact⟨0,1,by omega,by omega,rfl,rfl,.inl (by simp [prodL])⟩
 rintro m vs h' ⟨i,r,hi,rfl,rfl,rfl,hr⟩
 simp only [pwA,seval,-iQ0];refine iteI (fun hlt=>?_) fun hge=>?_
 rotate_left
 ·have hie:i=O.length:=by omega
  subst hie;rw [List.take_length]at hr
  exact hk _ (by omega)
 have bt:∀o∈O.take i,isP o:=fun o ho=>bO o (List.mem_of_mem_take ho)
 have h1:=QF bt;have hp:=bO _ (List.getElem_mem hlt);have hpb:=hp.bd;have hs:=QO hlt;have hlt':(i:Int)<(O.length:Int):=by omega
 have rd:σ.rd1 s0 i=some (.int .i64 O[i]):=by rw [qF ho,qM,gi hlt];rfl
 refine iteI (fun hle=>?_) fun hgt=>?_
 ·have hre:r=prodL (O.take i):=by omega
  subst hre;have hm1:0≤prodL (O.take i)*O[i]:=Int.mul_nonneg (by omega) (by omega)
  have hm2:=Int.mul_le_mul hle hpb.2 (by omega) (by omega)
  simp only [pwA,seval,-iQ0,hlt,hlt',rd,wrap64 (n:=prodL (O.take i)*O[i]) (by omega) (by omega),wrapS hlt (by omega:O.length≤4611686018427387904)]
  exact⟨_,by omega,i+1,_,by omega,rfl,rfl,.inl hs.symm⟩
 ·simp only [pwA,seval,-iQ0,wrapS hlt (by omega:O.length≤4611686018427387904)]
  refine⟨_,by omega,i+1,_,by omega,rfl,rfl,.inr ⟨by omega,?_⟩⟩
  have hm2:=Int.mul_le_mul (Int.le_refl (prodL (O.take i))) hpb.1 (by omega) (by omega)
  omega
theorem zAR (c:Int):∀(s cur:List UInt8),∀q∈spF c cur s,q.length≤cur.length+s.length
 | [],cur,q,hq=>by rw [spF,List.mem_singleton]at hq;rw [hq];exact Nat.le_add_right _ _
 | x::r,cur,q,hq=>by
  unfold spF at hq
  split at hq
  ·rcases List.mem_cons.1 hq with rfl | hq
   ·simp
   ·have:=zAR c r [] q hq;simp only [List.length_cons,List.length_nil]at *;omega
  ·have:=zAR c r (cur++[x]) q hq;simp only [List.length_cons,List.length_append,List.length_nil]at *;omega
def orL:List Int→List (List UInt8)→Option (List Int)
 | acc,[]=>if prodL acc≤729 then some acc else none
 | acc,q::r=>if isP (vlF q)∧acc.length<6 then orL (acc++[vlF q]) r else none
def orF (s:List UInt8):Option (List Int):=if s=[49]then some []else orL [] (spF 32 [] s)
theorem zEV (kk:Keep σ h) (hk:∀u x,FI u x→K (.tup [u,.bool false]) σ):Gh σ K (.tup [.fz true .nils 0 [],.bool false]) h:=zOr kk fun u hu=>hk u [] hu
theorem zHL (hs:s.length≤1048576) (hk0:orF s=none→∀v x,FI v x→K (.tup [v,.bool false]) σ) (hk1:∀v O,orF s=some O→FI v O→O.length≤6→(∀a∈O,isP a)→K (.tup [v,.bool true]) σ):zA Tryz.prog 49 [.str s] σ K:=by
 have nil:orF s=none→∀{h:PHeap},Keep σ h→Gh σ K (.tup [.fz true .nils 0 [],.bool false]) h:=fun e {h} kk=>zEV kk (hk0 e)
 refine zA.gh ?_;refine zt mix Tryz.func49 cf49 rfl ?_;dsimp only [if49,qI,eI,mI0,kI0,tI0,lI0,xI0,bI0,cI0,nI0,sI0,C1,I0,G0,gm0,oI0,zI0,R0,S0];simp only [pwA,seval,-iQ0];refine iteI (fun h1=>?_) fun h1=>?_
 ·simp only [pwA,seval,-iQ0]
  exact PSl.fin_tf (x:=[]) (zD _ _) (PSl.new _ 1 rfl (Nat.le_refl _)) fun u hu=>hk1 u [] (if_pos (beq_iff_eq.1 h1)) hu (by decide) fun a ha=>by cases ha
 simp only [pwA,seval,-iQ0];have eo:orF s=orL [] (spF 32 [] s):=if_neg fun e=>h1 (beq_iff_eq.2 e)
 refine QW (c:=32) (s:=s) (by omega) fun a=>?_
 have sl:=zAJ 32 s [];have hll:=zAR 32 s [] ;generalize spF 32 [] s=l at *
 simp only [pwA,seval,-iQ0];refine zB (fun m vs h=>∃(i:Nat) (v:PV) (O:List Int),i≤l.length∧m=l.length-i∧vs=[v,.fz true a l.length (pst l),.int .i64 i]∧O.length=i∧i≤6∧(∀a∈O,isP a)∧Keep σ h∧PSl σ.next 1 h v O.length (pis O)∧orL O (l.drop i)=orL [] l) l.length ?_ ?_
 ·exact⟨0,_,[],Nat.zero_le _,rfl,rfl,rfl,Nat.zero_le _,fun a ha=>(by cases ha),zD _ _,PSl.new _ 1 rfl (Nat.le_refl _),rfl⟩
 rintro m vs h ⟨i,v,O,hi,rfl,rfl,hOl,hi6,hO,kk,pa,eL⟩
 have h1:=pa.one;simp only [pwA,seval,-iQ0,h1];refine iteI (fun hlt=>?_) fun hge=>?_
 rotate_left
 ·have pa0:=pa
  obtain⟨sO,cap,rfl,q1,q2,q3,q4,q5⟩:=pa0;rw [List.drop_of_length_le (by omega),orL,←eo]at eL
  refine zGC q2 (by omega) hO fun r hr=>?_
  by_cases h7:prodL O≤729
  ·have r7:=hr.2 h7
   rw [if_pos h7]at eL
   simp only [pwA,seval,-iQ0,r7];exact PSl.fin_tf kk pa fun u hu=>hk1 u O eL.symm hu (by omega) hO
  ·have r7:¬r≤729:=fun e=>h7 (hr.1 e)
   rw [if_neg h7]at eL
   simp only [pwA,seval,-iQ0,r7];exact PSl.fin_tf kk pa fun u hu=>hk0 eL.symm u O hu
 have hlt':(i:Int)<(l.length:Int):=by omega
 have gc:(pst l)[i]? = some (.str l[i]):=qw hlt;rw [drop_at hlt,orL]at eL
 have hq:l[i].length≤1048576:=by have:=hll _ (List.getElem_mem hlt);simp only [List.length_nil]at this;omega
 simp only [pwA,seval,-iQ0,hlt,hlt',gc];refine QU hq ?_;generalize vlF l[i]=y at *
 have wi:=wrapS hlt (by omega:l.length≤4611686018427387904)
 simp only [pwA,seval,-iQ0];refine zC0 ?_
 by_cases hp:isP y
 rotate_left
 ·simp only [pwA,seval,-iQ0,hp]
  rw [if_neg (fun q=>hp q.1),←eo]at eL
  exact nil eL.symm kk
 by_cases h6:6≤i
 ·have h6':(6:Int)≤(i:Int):=by omega
  simp only [pwA,seval,-iQ0,hp,h6,h6'];rw [if_neg (fun q=>by omega),←eo]at eL
  exact nil eL.symm kk
 have h6':¬(6:Int)≤(i:Int):=by omega
 rw [if_pos ⟨hp,by omega⟩]at eL
 simp only [pwA,seval,-iQ0,hp,h6,h6',h1];refine PSl.push (σb:=σ) (bytes:=8) kk pa (by omega) (by omega) fun v2 h2 k2 a2=>?_
 have h3:=a2.one;simp only [pwA,seval,-iQ0,h3,wi];have e:pis (O++[y])=pis O++[.int .i64 y]:=by simp [pis]
 refine⟨_,by omega,i+1,v2,O++[y],by omega,rfl,rfl,by rw [List.length_append,hOl];rfl,by omega,fun a ha=>?_,k2,by rw [e,List.length_append];exact a2,eL⟩
 rcases List.mem_append.1 ha with ha|ha
 ·exact hO a ha
 ·rw [List.mem_singleton.1 ha];exact hp
def wpF (n:Int):List Int→List UInt8→Option (List Int)
 | acc,[]=>some acc
 | acc,c::r=>if 1≤(c.toNat:Int)-97+1∧(c.toNat:Int)-97+1≤n then wpF n (acc++[(c.toNat:Int)-97+1]) r else if 1≤(c.toNat:Int)-65+1∧(c.toNat:Int)-65+1≤n then wpF n (acc++[-((c.toNat:Int)-65+1)]) r else none
def lpF (n:Int) (s:List UInt8):Option (List Int):=if s=[49]then some []else if s=[]then none else wpF n [] s
theorem zIv {n:Nat} (hn:n≤6) (hs:s.length≤1048576) (hk0:lpF n s=none→∀v x,FI v x→K (.tup [v,.bool false]) σ) (hk1:∀v xs,lpF n s=some xs→FI v xs→(∀x∈xs,-6≤x∧x≤(n:Int)∧x≠0)→xs.length≤s.length→K (.tup [v,.bool true]) σ):zA Tryz.prog 79 [.int .i64 n,.str s] σ K:=by
 have nil:lpF n s=none→∀{h:PHeap},Keep σ h→Gh σ K (.tup [.fz true .nils 0 [],.bool false]) h:=fun e {h} kk=>zEV kk (hk0 e)
 refine zA.gh ?_;refine zt mix Tryz.func79 cf79 rfl ?_;dsimp only [if79,qI,eI,qD,mI0,kI0,tI0,bI0,cI0,sI0,mD0,I0,zI0,R0,S0];simp only [pwA,seval,-iQ0];refine iteI (fun h1=>?_) fun h1=>?_
 ·simp only [pwA,seval,-iQ0]
  exact PSl.fin_tf (x:=[]) (zD _ _) (PSl.new _ 1 rfl (Nat.le_refl _)) fun u hu=>hk1 u [] (if_pos (beq_iff_eq.1 h1)) hu (fun a ha=>by cases ha) (Nat.zero_le _)
 simp only [pwA,seval,-iQ0];have el0:lpF n s=if s=[]then none else wpF n [] s:=if_neg fun e=>h1 (beq_iff_eq.2 e)
 refine zB (fun m vs h=>∃(i:Nat) (v:PV) (xs:List Int),i≤s.length∧m=s.length-i∧vs=[.int .i64 n,.str s,v,.int .i64 i]∧xs.length=i∧(∀x∈xs,-6≤x∧x≤(n:Int)∧x≠0)∧Keep σ h∧PSl σ.next 1 h v xs.length (pis xs)∧wpF n xs (s.drop i)=wpF n [] s) s.length ?_ ?_
 ·exact⟨0,_,[],Nat.zero_le _,rfl,rfl,rfl,fun a ha=>(by cases ha),zD _ _,PSl.new _ 1 rfl (Nat.le_refl _),rfl⟩
 rintro m vs h ⟨i,v,xs,hi,rfl,rfl,hxl,hx,kk,pa,eL⟩
 have h1:=pa.one;simp only [pwA,seval,-iQ0,h1];refine iteI (fun hlt=>?_) fun hge=>?_
 rotate_left
 ·have hl:pLen v=some (.int .i64 xs.length):=by obtain⟨s',cap,rfl,_⟩:=pa;rfl
  rw [List.drop_of_length_le (by omega),wpF]at eL
  rw [←eL]at el0
  by_cases h0:s=[]
  ·have e:xs.length=0:=by rw [hxl,show i=s.length by omega,h0];rfl
   have hz:¬(0:Int)<(xs.length:Int):=by omega
   have hz':¬0<xs.length:=by omega
   simp only [pwA,seval,-iQ0,h1,hl];rw [decide_eq_false hz];rw [if_pos h0]at el0
   exact PSl.fin_tf kk pa fun u hu=>hk0 el0 u xs hu
  ·have hz:(0:Int)<(xs.length:Int):=by have:=List.length_pos_iff.2 h0;omega
   have hz':0<xs.length:=by omega
   simp only [pwA,seval,-iQ0,h1,hl];rw [decide_eq_true hz];rw [if_neg h0]at el0
   exact PSl.fin_tf kk pa fun u hu=>hk1 u xs el0 hu hx (by omega)
 have h00:s≠[]:=fun e=>by rw [e]at hlt;exact absurd hlt (Nat.not_lt_zero _)
 rw [if_neg h00]at el0
 rw [←el0,drop_at hlt,wpF]at eL
 have gs:s[i]? = some s[i]:=List.getElem?_eq_getElem hlt;have c0:(s[i].toNat:Int)<256:=by have:=s[i].toNat_lt;omega
 have c1:(0:Int)≤(s[i].toNat:Int):=by omega
 have wi:=wrapS hlt (by omega:s.length≤4611686018427387904)
 have q0:IntKind.i64.wrap (s[i].toNat:Int)=(s[i].toNat:Int):=wrap64 (by omega) (by omega)
 have q1:IntKind.i64.wrap ((s[i].toNat:Int)-97)=(s[i].toNat:Int)-97:=wrap64 (by omega) (by omega)
 have q2:IntKind.i64.wrap ((s[i].toNat:Int)-97+1)=(s[i].toNat:Int)-97+1:=wrap64 (by omega) (by omega)
 have q3:IntKind.i64.wrap ((s[i].toNat:Int)-65)=(s[i].toNat:Int)-65:=wrap64 (by omega) (by omega)
 have q4:IntKind.i64.wrap ((s[i].toNat:Int)-65+1)=(s[i].toNat:Int)-65+1:=wrap64 (by omega) (by omega)
 have q5:IntKind.i64.wrap (0-((s[i].toNat:Int)-65+1))=-((s[i].toNat:Int)-65+1):=by rw [wrap64 (by omega) (by omega)];omega
 simp only [pwA,seval,-iQ0,gs,q0,q1,q2,q3,q4,h1];refine zBa ?_;have put:∀{y:Int},(-6≤y∧y≤(n:Int)∧y≠0)→∀a∈xs++[y],-6≤a∧a≤(n:Int)∧a≠0:=fun {y} hy a ha=>by
  rcases List.mem_append.1 ha with ha|ha
  ·exact hx a ha
  ·rw [List.mem_singleton.1 ha];exact hy
 have e:∀y:Int,pis (xs++[y])=pis xs++[.int .i64 y]:=fun y=>by simp [pis]
 have el:∀y:Int,(xs++[y]).length=xs.length+1:=fun y=>by simp
 by_cases c2:1≤(s[i].toNat:Int)-97+1∧(s[i].toNat:Int)-97+1≤(n:Int)
 ·rw [if_pos c2]at eL
  simp only [pwA,seval,-iQ0,c2,h1];refine PSl.push (σb:=σ) (bytes:=8) kk pa (by omega) (by omega) fun v2 h2 k2 a2=>?_
  have h3:=a2.one;simp only [pwA,seval,-iQ0,h3,wi];exact⟨_,by omega,i+1,v2,xs++[(s[i].toNat:Int)-97+1],by omega,rfl,rfl,by rw [el,hxl],put (by omega),k2,by rw [e,el];exact a2,by rw [←el0];exact eL⟩
 rw [if_neg c2]at eL
 simp only [pwA,seval,-iQ0,c2,h1];refine zBa ?_
 by_cases c3:1≤(s[i].toNat:Int)-65+1∧(s[i].toNat:Int)-65+1≤(n:Int)
 ·rw [if_pos c3]at eL
  simp only [pwA,seval,-iQ0,c3,h1,q5];refine PSl.push (σb:=σ) (bytes:=8) kk pa (by omega) (by omega) fun v2 h2 k2 a2=>?_
  have h3:=a2.one;simp only [pwA,seval,-iQ0,h3,wi];exact⟨_,by omega,i+1,v2,xs++[-((s[i].toNat:Int)-65+1)],by omega,rfl,rfl,by rw [el,hxl],put (by omega),k2,by rw [e,el];exact a2,by rw [←el0];exact eL⟩
 rw [if_neg c3]at eL
 simp only [pwA,seval,-iQ0,c3,h1];exact nil eL.symm kk
def vcF:List Int→List Int→Option (List Int)
 | acc,[]=>some acc
 | acc,x::r=>if x<0 then none else vcF (acc.set (x-1).toNat (acc.getD (x-1).toNat 0+1)) r
theorem zHK {n:Nat} (hn:n≤6) (hv:FI v x) (hx:∀a∈x,-6≤a∧a≤(n:Int)∧a≠0) (hl:x.length≤1048576) (hk0:vcF (List.replicate n 0) x=none→∀h,Keep σ h→K (.tup [.fz true .nils 0 [],.bool false]) h) (hk1:∀ys,vcF (List.replicate n 0) x=some ys→ys.length=n→K (.tup [.sl σ.next 0 n (.known n),.bool true]) (σ.new (pis ys))):zA Tryz.prog 80 [.int .i64 n,v] σ K:=by
 obtain⟨w,a,rfl⟩:=hv;refine zS mix Tryz.func80 ?_;simp only [pwA,seval,-iQ0,Qi,mk8 (n:=n) (by omega),Go.Ab.mkL (n:=n) (by omega)]
 refine zB (fun m vs h=>∃(i:Nat) (ys:List Int),i≤x.length∧m=x.length-i∧vs=[.fz w a x.length (pis x),.sl σ.next 0 n (.known n),.int .i64 i]∧ys.length=n∧(∀y∈ys,0≤y∧y≤(i:Int))∧vcF ys (x.drop i)=vcF (List.replicate n 0) x∧h=σ.new (pis ys)) x.length ?_ ?_
 ·exact⟨0,List.replicate n 0,Nat.zero_le _,rfl,rfl,by simp,fun y hy=>by rw [(List.mem_replicate.1 hy).2];exact⟨Int.le_refl _,Int.le_refl _⟩,rfl,rfl⟩
 rintro m vs h ⟨i,ys,hi,rfl,rfl,hyl,hy,eL,rfl⟩
 simp only [pwA,seval,-iQ0];refine iteI (fun hlt=>?_) fun hge=>?_
 rotate_left
 ·rw [List.drop_of_length_le (by omega),vcF]at eL
  exact hk1 ys eL.symm hyl
 have hlt':(i:Int)<(x.length:Int):=by omega
 rw [drop_at hlt,vcF]at eL
 have gx:(pis x)[i]? = some (.int .i64 x[i]):=by rw [qM,gi hlt];rfl
 have xb:=hx _ (List.getElem_mem hlt);have wi:=wrapS hlt (by omega:x.length≤4611686018427387904)
 simp only [pwA,seval,-iQ0,hlt,hlt',gx];refine iteI (fun hneg=>?_) fun hpos=>?_
 ·rw [if_pos hneg]at eL
  exact hk0 eL.symm _ (zD _ _)
 obtain⟨j,hj⟩:∃j:Nat,x[i]=(j:Int)+1:=⟨(x[i] - 1).toNat,by omega⟩
 rw [if_neg hpos]at eL
 have hjn:j<n:=by omega
 have hjn':(j:Int)<(n:Int):=by omega
 have hjy:j<ys.length:=by omega
 rw [hj]at gx
 have w1:IntKind.i64.wrap ((j:Int)+1-1)=(j:Int):=by rw [wrap64 (by omega) (by omega)];omega
 have yb:=hy _ (List.getElem_mem hjy);have w2:IntKind.i64.wrap (ys[j] + 1)=ys[j] + 1:=wrap64 (by omega) (by omega)
 have gy:(pis ys)[j]? = some (.int .i64 ys[j]):=by rw [qM,gi hjy];rfl
 have wr:(σ.new (pis ys)).wr σ.next j [.int .i64 (ys[j] + 1)]=some ((σ.new (pis ys)).set σ.next (pis (ys.set j (ys[j] + 1)))):=zJT (by rw [zT,if_pos rfl]) hjy
 have e2:(σ.new (pis ys)).set σ.next (pis (ys.set j (ys[j] + 1)))=σ.new (pis (ys.set j (ys[j] + 1))):=by
  unfold PHeap.set PHeap.new
  congr 1
  funext q
  by_cases e:q=σ.next<;>simp [e]
 have rd:(σ.new (pis ys)).rd1 σ.next j=some (.int .i64 ys[j]):=by rw [qF (by rw [zT,if_pos rfl])];exact gy
 rw [e2]at wr
 have hjt:(x[i] - 1).toNat=j:=by omega
 have hyd:ys.getD j 0=ys[j]:=by rw [List.getD_eq_getElem?_getD,List.getElem?_eq_getElem hjy];rfl
 rw [hjt,hyd]at eL
 generalize hG:σ.new (pis ys)=G at *
 simp only [pwA,seval,-iQ0,hlt,hlt',gx,hj,w1,hjn,hjn',rd,w2,wr,wi];refine⟨_,by omega,i+1,ys.set j (ys[j] + 1),by omega,rfl,rfl,by rw [List.length_set];exact hyl,fun y hy'=>?_,eL,rfl⟩
 rcases List.mem_or_eq_of_mem_set hy' with hy' | rfl
 ·have:=hy y hy';omega
 ·omega
end Go.Proofs
namespace Go.Grp
end Go.Grp
namespace Go.Proofs
open Go.Ab Go.Lie Go.Grp
variable {σ σ0 h h':PHeap} {K:PV→PHeap→Prop} {b k r s0 i j n:Nat} {L L':Nat→Nat} {v vO vP vC c vX vS vL vM:PV} {x O xs bs:List Int} {P M:List (List Int)} {C:List (List (List Int))} {cs:List PV} {s t:List UInt8}
section
structure TBX (b:Nat) (h:PHeap) (O:List Int) (L:Nat→Nat) (P:List (List Int)) (C:List (List (List Int))) (r s:Nat) (vO vP vC:PV):Prop where
 res:h.obj r=some [.fz true .nils 0 [],.fz true .nils 0 [],.fz true .nils 0 []]
 hr:r<b
 ob:h.obj s=some [vO,vP,vC]
 pw:PX L b h O P C vO vP vC
 ls:L s=7
 ns:b≤s∧s<h.next
variable {s:Nat}
theorem TBX.r1 (a:TBX b h O L P C r s vO vP vC):h.rd1 s 1=some vP:=by rw [qF a.ob];rfl
theorem TBX.r2 (a:TBX b h O L P C r s vO vP vC):h.rd1 s 2=some vC:=by rw [qF a.ob];rfl
theorem TBX.r3 (a:TBX b h O L P C r s vO vP vC):h.rd s 0 3=some [vO,vP,vC]:=by rw [Z9 a.ob];rfl
theorem TBX.fin (a:TBX b h O L P C r s vO vP vC):h.wr r 0 [vO,vP,vC]=some (h.set r [vO,vP,vC])∧(h.set r [vO,vP,vC]).rd r 0 3=some [vO,vP,vC]∧PX L b (h.set r [vO,vP,vC]) O P C vO vP vC:=
 ⟨by rw [qg a.res,if_pos ⟨by simp,by simp [a.pw.hO.one,a.pw.hP.one,a.pw.hC.one]⟩];rfl,by rw [ZG,if_pos rfl];rfl,a.pw.set a.hr _⟩
theorem TBX.start (a:PX L b h O P C vO vP vC) (hr:r<b) (hres:h.obj r=some [.fz true .nils 0 [],.fz true .nils 0 [],.fz true .nils 0 []]) (hb:b≤h.next):TBX b (h.new [vO,vP,vC]) O (mkM L h.next 7) P C r h.next vO vP vC:=
 ⟨by rw [zT,if_neg (by omega)];exact hres,hr,by rw [zT,if_pos rfl],a.fresh _ _,Zt,⟨hb,Nat.lt_succ_self _⟩⟩
theorem TBX.keepL (a:TBX b h O L P C r s vO vP vC) (hn:h.next≤h'.next) (hr:h'.obj r=h.obj r) (ho:∀t,b≤t→t<h.next→h'.obj t=h.obj t) (hL:∀t,t<h.next→L' t=L t):TBX b h' O L' P C r s vO vP vC:=
 ⟨by rw [hr];exact a.res,a.hr,by rw [ho s a.ns.1 a.ns.2];exact a.ob,a.pw.keepL hn ho hL,by rw [hL s a.ns.2];exact a.ls,⟨a.ns.1,by have:=a.ns.2;omega⟩⟩
theorem TBX.rlt (a:TBX b h O L P C r s vO vP vC):r<h.next:=by have:=a.hr;have:=a.ns;omega
theorem TBX.keep (a:TBX b h O L P C r s vO vP vC) (kk:Keep h h'):TBX b h' O L P C r s vO vP vC:=a.keepL kk.next (kk.obj r a.rlt) (fun t _ ht=>kk.obj t ht) fun _ _=>rfl
theorem TBX.fresh (a:TBX b h O L P C r s vO vP vC) (cs:List PV) (k:Nat):TBX b (h.new cs) O (mkM L h.next k) P C r s vO vP vC:=
 a.keepL (Nat.le_succ _) (by rw [zT,if_neg (by have:=a.rlt;omega)]) (fun t _ ht=>by rw [zT,if_neg (by omega)]) (Z4 (Nat.le_refl _))
theorem TBX.wrote {P':List (List Int)} {C':List (List (List Int))} {t:Nat} (a:TBX b h O L P C r s vO vP vC) (ht:b≤t) (hL:L t≠7) {cs:List PV} (hL':∀t,L t≠8→L' t=L t) (p:PX L' b (h.set t cs) O P' C' vO vP vC):TBX b (h.set t cs) O L' P' C' r s vO vP vC:=
 ⟨by rw [zg,if_neg (by have:=a.hr;omega)];exact a.res,a.hr,by rw [zg,if_neg (fun e=>hL (by rw [←e];exact a.ls))];exact a.ob,p,by rw [hL' s (by rw [a.ls];decide)];exact a.ls,a.ns⟩
theorem TBX.putP (a:TBX b h O L P C r s vO vP vC) (hi:i<P.length) (hc:RowX L h b 8 x c):
  ∃sP cap ds L',vP=.sl sP 0 P.length cap∧b≤sP∧sP<h.next∧h.wr sP i [c]=some (h.set sP ds)∧TBX b (h.set sP ds) O L' (P.set i x) C r s vO vP vC:=by
 obtain⟨sP,cap,ds,L',e,h1,h2,h3,w,hL,p⟩:=a.pw.putP hi hc;exact⟨sP,cap,ds,L',e,h1,h2,w,a.wrote h1 h3 hL p⟩
theorem TBX.putC (a:TBX b h O L P C r s vO vP vC) (hi:i<C.length) (hj:j<(C.getD i []).length) (hc:RowX L h b 8 x c):
  ∃sC cap t cap' ds L',vC=.sl sC 0 C.length cap∧h.rd1 sC i=some (.sl t 0 (C.getD i []).length cap')∧b≤sC∧sC<h.next∧b≤t∧t<h.next∧h.wr t j [c]=some (h.set t ds)∧TBX b (h.set t ds) O L' P (C.set i ((C.getD i []).set j x)) r s vO vP vC:=by
 obtain⟨sC,cap,t,cap',ds,L',e,h1,h2,h3,h4,h5,h6,w,hL,p⟩:=a.pw.putC hi hj hc;exact⟨sC,cap,t,cap',ds,L',e,h1,h2,h3,h4,h5,w,a.wrote h4 h6 hL p⟩
end
def relJ (O:List Int) (P:List (List Int)) (C:List (List (List Int))) (d:List UInt8) (x y:Int) (v:List Int):Option (List (List Int)×List (List (List Int))):=
 if x<0∨(O.length:Int)≤x then none
 else if d=Lib.decDigits (at_ O x.toNat).toNat then some (P.set x.toNat v,C)
 else if y<0∨x≤y then none
 else some (P,C.set y.toNat ((C.getD y.toNat []).set (x-y-1).toNat v))
def relI (O:List Int) (P:List (List Int)) (C:List (List (List Int))) (p0:List UInt8) (w:Option (List Int)):Option (List (List Int)×List (List (List Int))):=
 match w with
 | none=>none
 | some w=>match vcF (List.replicate O.length 0) w with
  | none=>none
  | some v=>relJ O P C (p0.drop 3) (((p0.getD 1 0).toNat:Int)-97) (((p0.getD 3 0).toNat:Int)-97) v
def relH (O:List Int) (P:List (List Int)) (C:List (List (List Int))) (p0 p1:List UInt8):Option (List (List Int)×List (List (List Int))):=
 if p0.length=4∧(p0.getD 0 0).toNat=32∧(p0.getD 2 0).toNat=94 then relI O P C p0 (lpF O.length p1)else none
def relG (O:List Int) (P:List (List Int)) (C:List (List (List Int))) (l:List (List UInt8)):Option (List (List Int)×List (List (List Int))):=
 if l.length=2 then relH O P C (l.getD 0 []) (l.getD 1 [])else none
def relF (O:List Int) (P:List (List Int)) (C:List (List (List Int))) (s:List UInt8):Option (List (List Int)×List (List (List Int))):=relG O P C (spF 61 [] s)
theorem MX.mark {m:Nat} (a:MX L h b k M v) (hm:m≤b) (hL:∀t,b≤t→L' t=L t):MX L' h m k M v:=by
 obtain⟨s,cap,cs,e,h1,h2,h4,h5,h6,h8,h7⟩:=a;exact⟨s,cap,cs,e,h1,h2,by omega,h5,by rw [hL s h4];exact h6,h8,q8 h7 fun _ _ _ _ r=>r.mark hm hL⟩
theorem TX.mark {m:Nat} (a:TX L h b C v) (hm:m≤b) (hL:∀t,b≤t→L' t=L t):TX L' h m C v:=by
 obtain⟨s,cap,cs,e,h1,h2,h4,h5,h6,h7⟩:=a;exact⟨s,cap,cs,e,h1,h2,by omega,h5,by rw [hL s h4];exact h6,q8 h7 fun _ _ _ _ a=>a.imp id fun a=>a.mark hm hL⟩
theorem PX.mark {m:Nat} (a:PX L b h O P C vO vP vC) (hm:m≤b) (hL:∀t,b≤t→L' t=L t):PX L' m h O P C vO vP vC:=
 ⟨a.hO.imp id fun a=>a.mark hm hL,a.hP.imp id fun a=>a.mark hm hL,a.hC.imp id fun a=>a.mark hm hL⟩
set_option maxHeartbeats 1600000 in
theorem zFC (hR:IsPr vO vP vC O P C) (hO:O.length≤6) (hp:∀a∈O,isP a) (hq:PQ3 (fun m=>m=O.length) P C O.length O.length (fun i=>O.length-1-i)) (hs:s.length≤1048576)
  (hk0:relF O P C s=none→K (.tup [.agg [vO,vP,vC],.bool false]) σ)
  (hk1:∀wO wP wC P' C',relF O P C s=some (P',C')→IsPr wO wP wC O P' C'→K (.tup [.agg [wO,wP,wC],.bool true]) σ):zA Tryz.prog 51 [.agg [vO,vP,vC],.str s] σ K:=by
 have g0:=hR.O.one;have g1:=hR.P.one;have g2:=hR.C.one;have hR0:=hR;have bad:relF O P C s=none→∀{h:PHeap},Keep σ h→Gh σ K (.tup [.agg [vO,vP,vC],.bool false]) h:=fun e {h} kk=>Gh.fin0 kk ⟨⟨hR.O.bel _,hR.P.bel _,hR.C.bel _,trivial⟩,trivial,trivial⟩ (hk0 e)
 obtain⟨⟨wO,aO,rfl⟩,hRP,hRC⟩:=hR;refine zA.gh ?_;refine zS mix Tryz.func51 ?_;simp only [pwA,seval,-iQ0,g0,g1,g2];generalize hH:(σ.new [PV.fz wO aO O.length (pis O),vP,vC]).new [PV.fz true AV.nils 0 [],PV.fz true AV.nils 0 [],PV.fz true AV.nils 0 []]=H;have hHn:H.next=σ.next+2:=by rw [←hH];rfl
 have kH:Keep σ H:=by rw [←hH];exact(zD _ _).new _
 have obx:H.obj σ.next=some [PV.fz wO aO O.length (pis O),vP,vC]:=by rw [←hH];simp only [pwA,seval,-iQ0]
 have obr:H.obj (σ.next+1)=some [PV.fz true AV.nils 0 [],PV.fz true AV.nils 0 [],PV.fz true AV.nils 0 []]:=by rw [←hH];simp only [pwA,seval,-iQ0]
 clear hH;have fin0:∀{g:PHeap},Keep H g→g.rd σ.next 0 3=some [PV.fz wO aO O.length (pis O),vP,vC]∧g.wr (σ.next+1) 0 [PV.fz wO aO O.length (pis O),vP,vC]=some (g.set (σ.next+1) [PV.fz wO aO O.length (pis O),vP,vC])∧(g.set (σ.next+1) [PV.fz wO aO O.length (pis O),vP,vC]).rd (σ.next+1) 0 3=some [PV.fz wO aO O.length (pis O),vP,vC]∧(relF O P C s=none→Gh σ K (.tup [.agg [PV.fz wO aO O.length (pis O),vP,vC],.bool false]) (g.set (σ.next+1) [PV.fz wO aO O.length (pis O),vP,vC])):=fun {g} kg=>by
  refine⟨by rw [Z9 (by rw [kg.obj _ (by omega)];exact obx)];rfl,by rw [qg (by rw [kg.obj _ (by omega)];exact obr),if_pos ⟨by simp,by simp [g0,g1,g2]⟩];rfl,by rw [ZG,if_pos rfl];rfl,fun e=>bad e ((kH.trans kg).set (by omega) _)⟩
 obtain⟨e1,e2,e3,e4⟩:=fin0 (Keep.refl H);have eR:relF O P C s=relG O P C (spF 61 [] s):=rfl;refine QW (c:=61) (s:=s) (by omega) fun a=>?_
 have hll:=zAR 61 s [];generalize spF 61 [] s=l at *
 by_cases h2:l.length=2
 rotate_left
 ·have d2:¬((l.length:Nat):Int)=2:=by omega
  simp only [pwA,seval,-iQ0,d2,g0,g1,g2,e1,e2,e3];exact e4 (by rw [eR,relG,if_neg h2])
 have c0:(pst l)[0]? = some (.str l[0]):=qw (by omega)
 have c1:(pst l)[1]? = some (.str l[1]):=qw (by omega)
 have hp0l:l[0].length≤1048576:=by have:=hll _ (List.getElem_mem (by omega:0<l.length));simp only [List.length_nil]at this;omega
 have hp1l:l[1].length≤1048576:=by have:=hll _ (List.getElem_mem (by omega:1<l.length));simp only [List.length_nil]at this;omega
 have eR1:relF O P C s=relH O P C l[0] l[1]:=by
  rw [eR,relG,if_pos h2,List.getD_eq_getElem?_getD,List.getD_eq_getElem?_getD,List.getElem?_eq_getElem (by omega:0<l.length),List.getElem?_eq_getElem (by omega:1<l.length)];rfl
 generalize l[0]=p0 at *
 generalize l[1]=p1 at *
 rw [h2];generalize pst l=cells at *
 clear eR h2 hll;have d2:((2:Nat):Int)=2:=rfl;have z2:(0:Int)<((2:Nat):Int):=by decide
 have z12:(1:Int)<((2:Nat):Int):=by decide
 by_cases h4:p0.length=4
 rotate_left
 ·have d4:¬((p0.length:Nat):Int)=4:=by omega
  simp only [pwA,seval,-iQ0,d2,z2,c0,d4,g0,g1,g2,e1,e2,e3];exact e4 (by rw [eR1,relH,if_neg (fun q=>h4 q.1)])
 have gd:∀i,(h:i<p0.length)→p0.getD i 0=p0[i]:=fun i h=>by rw [List.getD_eq_getElem?_getD,List.getElem?_eq_getElem h];rfl
 have d4:((p0.length:Nat):Int)=4:=by omega
 by_cases h32:p0[0].toNat=32
 rotate_left
 ·have d5:¬((p0[0].toNat:Nat):Int)=32:=by omega
  simp only [pwA,seval,-iQ0,d2,z2,c0,d4,d5,g0,g1,g2,e1,e2,e3,Int.toNat_zero,List.getElem?_eq_getElem (by omega:0<p0.length)]
  exact e4 (by rw [eR1,relH,if_neg (fun q=>h32 (by rw [←gd 0 (by omega)];exact q.2.1))])
 have d5:((p0[0].toNat:Nat):Int)=32:=by omega
 have n2:(2:Int).toNat=2:=rfl;have n1:(1:Int).toNat=1:=rfl;have n3:(3:Int).toNat=3:=rfl
 by_cases h94:p0[2].toNat=94
 rotate_left
 ·have d6:¬((p0[2].toNat:Nat):Int)=94:=by omega
  simp only [pwA,seval,-iQ0,d2,z2,c0,d4,d5,d6,n2,g0,g1,g2,e1,e2,e3,Int.toNat_zero,Int.toNat_one,List.getElem?_eq_getElem (by omega:0<p0.length),List.getElem?_eq_getElem (by omega:1<p0.length),List.getElem?_eq_getElem (by omega:2<p0.length),List.getElem?_eq_getElem (by omega:3<p0.length)]
  exact e4 (by rw [eR1,relH,if_neg (fun q=>h94 (by rw [←gd 2 (by omega)];exact q.2.2))])
 have d6:((p0[2].toNat:Nat):Int)=94:=by omega
 simp only [pwA,seval,-iQ0,d2,z2,z12,c0,c1,d4,d5,d6,n2,g0,g1,g2,Int.toNat_zero,Int.toNat_one,List.getElem?_eq_getElem (by omega:0<p0.length),List.getElem?_eq_getElem (by omega:1<p0.length),List.getElem?_eq_getElem (by omega:2<p0.length),List.getElem?_eq_getElem (by omega:3<p0.length)]
 have eR2:relF O P C s=relI O P C p0 (lpF O.length p1):=by
  rw [eR1,relH,if_pos ⟨h4,by rw [gd 0 (by omega)];exact h32,by rw [gd 2 (by omega)];exact h94⟩]
 clear eR1;refine zIv (n:=O.length) hO (s:=p1) (by omega) (fun hw vu u hu=>?_) fun vu u hw hu huv hul=>?_
 ·have hu1:=hu.one
  simp only [pwA,seval,-iQ0,g0,g1,g2,e1,e2,e3,hu1];exact e4 (by rw [eR2,hw];rfl)
 have hu1:=hu.one;rw [hw]at eR2
 have b1:(p0[1].toNat:Int)<256:=by have:=p0[1].toNat_lt;omega
 have b3:(p0[3].toNat:Int)<256:=by have:=p0[3].toNat_lt;omega
 have q1:IntKind.i64.wrap (p0[1].toNat:Int)=(p0[1].toNat:Int):=wrap64 (by omega) (by omega)
 have q3:IntKind.i64.wrap (p0[3].toNat:Int)=(p0[3].toNat:Int):=wrap64 (by omega) (by omega)
 have q1':IntKind.i64.wrap ((p0[1].toNat:Int)-97)=(p0[1].toNat:Int)-97:=wrap64 (by omega) (by omega)
 have q3':IntKind.i64.wrap ((p0[3].toNat:Int)-97)=(p0[3].toNat:Int)-97:=wrap64 (by omega) (by omega)
 simp only [pwA,seval,-iQ0,hu1];refine zHK (n:=O.length) hO hu huv (by omega) (fun hv g kg=>?_) fun ys hv hys=>?_
 ·obtain⟨f1,f2,f3,f4⟩:=fin0 kg
  simp only [pwA,seval,-iQ0,z2,c0,n1,n3,q1,q3,q1',q3',g0,g1,g2,f1,f2,f3,Int.toNat_zero,Int.toNat_one,List.getElem?_eq_getElem (by omega:0<p0.length),List.getElem?_eq_getElem (by omega:1<p0.length),List.getElem?_eq_getElem (by omega:2<p0.length),List.getElem?_eq_getElem (by omega:3<p0.length)]
  exact f4 (by rw [eR2,relI,hv])
 have eR3:relF O P C s=relJ O P C (p0.drop 3) (((p0[1].toNat:Nat):Int)-97) (((p0[3].toNat:Nat):Int)-97) ys:=by
  rw [eR2,relI,hv];show relJ O P C (p0.drop 3) _ _ ys=_;rw [gd 1 (by omega),gd 3 (by omega)]
 clear eR2;have kg:=zD H (pis ys);have hH1n:(H.new (pis ys)).next=H.next+1:=rfl;have obv:(H.new (pis ys)).obj H.next=some (pis ys):=by rw [zT,if_pos rfl]
 have obx1:(H.new (pis ys)).obj σ.next=some [PV.fz wO aO O.length (pis O),vP,vC]:=by rw [zT,if_neg (by omega)];exact obx
 have obr1:(H.new (pis ys)).obj (σ.next+1)=some [PV.fz true AV.nils 0 [],PV.fz true AV.nils 0 [],PV.fz true AV.nils 0 []]:=by rw [zT,if_neg (by omega)];exact obr
 generalize H.new (pis ys)=H1 at *
 obtain⟨f1,f2,f3,f4⟩:=fin0 kg
 by_cases j0:(p0[1].toNat:Int)-97<0
 ·simp only [pwA,seval,-iQ0,z2,c0,n1,n3,q1,q3,q1',q3',j0,g0,g1,g2,f1,f2,f3,Int.toNat_zero,Int.toNat_one,List.getElem?_eq_getElem (by omega:0<p0.length),List.getElem?_eq_getElem (by omega:1<p0.length),List.getElem?_eq_getElem (by omega:2<p0.length),List.getElem?_eq_getElem (by omega:3<p0.length)]
  exact f4 (by rw [eR3,relJ,if_pos (.inl j0)])
 by_cases j1:(O.length:Int)≤(p0[1].toNat:Int)-97
 ·simp only [pwA,seval,-iQ0,z2,c0,n1,n3,q1,q3,q1',q3',j0,j1,g0,g1,g2,f1,f2,f3,Int.toNat_zero,Int.toNat_one,List.getElem?_eq_getElem (by omega:0<p0.length),List.getElem?_eq_getElem (by omega:1<p0.length),List.getElem?_eq_getElem (by omega:2<p0.length),List.getElem?_eq_getElem (by omega:3<p0.length)]
  exact f4 (by rw [eR3,relJ,if_pos (.inr j1)])
 simp only [pwA,seval,-iQ0,z2,c0,n1,n3,q1,q3,q1',q3',j0,j1,g0,g1,g2,f1,Int.toNat_zero,Int.toNat_one,List.getElem?_eq_getElem (by omega:0<p0.length),List.getElem?_eq_getElem (by omega:1<p0.length),List.getElem?_eq_getElem (by omega:2<p0.length),List.getElem?_eq_getElem (by omega:3<p0.length)]
 obtain⟨j,hj⟩:∃j:Nat,(p0[1].toNat:Int)-97=j:=⟨((p0[1].toNat:Int)-97).toNat,by omega⟩
 rw [hj]at j0 j1 eR3 ⊢
 have hjn:j<O.length:=by omega
 have hjn':(j:Int)<(O.length:Int):=by omega
 rw [relJ,if_neg (by omega),Int.toNat_natCast]at eR3
 refine zMA hR0 (by omega) (by rw [hq.pl];omega) (by rw [hq.cl];omega) (fun q hq'=>?_) (fun r hr=>by have:=hq.pq r hr;omega) (fun q hq' r hr=>by have:=hq.cq q hq' r hr;omega) fun L h uO uP uC k1 p1=>?_
 ·obtain⟨i,hi,rfl⟩:=List.mem_iff_getElem.1 hq'
  have:=hq.row i (by rw [←hq.cl];exact hi)
  rw [List.getD_eq_getElem?_getD,List.getElem?_eq_getElem hi]at this
  have e:C[i].length=O.length-1-i:=this;omega
 have hn1':=k1.next;have p2:=p1.mark (m:=H.next) (L':=mkM L H.next 8) (by omega) fun t ht=>by unfold mkM;rw [if_neg (by omega)]
 have a:=TBX.start p2 (r:=σ.next+1) (by omega) (by rw [k1.obj _ (by omega)];exact obr1) (by omega)
 have hrw:RowX (mkM (mkM L H.next 8) h.next 7) (h.new [uO,uP,uC]) H.next 8 ys (.sl H.next 0 O.length (.known O.length)):=by
  refine⟨H.next,.known O.length,by rw [hys],.inr (by rw [hys]),by rw [zT,if_neg (by omega),k1.obj _ (by omega)];exact obv,Nat.le_refl _,by show H.next<h.next+1;omega,?_⟩
  unfold mkM;rw [if_neg (by omega),if_pos rfl]
 have k2:Keep H1 (h.new [uO,uP,uC]):=k1.new _;simp only [pwA,seval,-iQ0,p2.hO.one,p2.hP.one,p2.hC.one];generalize h.next=sl at *
 generalize h.new [uO,uP,uC]=g at *
 clear p1 p2 k1;have ob:=hp _ (List.getElem_mem hjn);have ob7:=ob.b1;have gx:(pis O)[j]? = some (.int .i64 O[j]):=by rw [qM,gi hjn];rfl
 have rx:g.rd1 σ.next 0=some (.fz wO aO O.length (pis O)):=by rw [qF (by rw [k2.obj _ (by omega)];exact obx1)];rfl
 have fin:∀{g:PHeap} {L':Nat→Nat} {P':List (List Int)} {C':List (List (List Int))},relF O P C s=some (P',C')→Keep H g→TBX H.next g O L' P' C' (σ.next+1) sl uO uP uC→
   g.wr (σ.next+1) 0 [uO,uP,uC]=some (g.set (σ.next+1) [uO,uP,uC])∧(g.set (σ.next+1) [uO,uP,uC]).rd (σ.next+1) 0 3=some [uO,uP,uC]∧Gh σ K (.tup [.agg [uO,uP,uC],.bool true]) (g.set (σ.next+1) [uO,uP,uC]):=fun {g L' P' C'} e kg' a=>by
  obtain⟨e1,e2,e3⟩:=a.fin;exact⟨e1,e2,e3.fin2b ((kH.trans kg').set (by omega) _) (by omega) fun wO wP wC r1=>hk1 wO wP wC P' C' e r1⟩
 have l3:(3:Int)≤(p0.length:Int):=by omega
 have l3':3≤p0.length:=by omega
 have l34:(3:Int)≤((4:Nat):Int):=by decide
 simp only [pwA,seval,-iQ0,z2,c0,n3,rx,hjn,hjn',gx,l3,l3',h4,l34,Int.toNat_zero,Int.toNat_one,List.getElem?_eq_getElem (by omega:0<p0.length),List.getElem?_eq_getElem (by omega:1<p0.length),List.getElem?_eq_getElem (by omega:2<p0.length),List.getElem?_eq_getElem (by omega:3<p0.length)]
 have t10:(10:Int) ^ (5+1)=1000000:=by decide
 refine zGD (n:=O[j]) 5 ⟨by omega,by omega,by rw [t10];omega⟩ (by decide) fun d hd _=>?_
 have ed:List.drop 3 (List.take 4 p0)=p0.drop 3:=by rw [List.take_of_length_le (by omega)]
 rw [at_eq hjn,←hd]at eR3
 simp only [pwA,seval,-iQ0,z2,c0,n3,rx,hjn,hjn',gx,l3,l3',h4,l34,Int.toNat_zero,Int.toNat_one,List.getElem?_eq_getElem (by omega:0<p0.length),List.getElem?_eq_getElem (by omega:1<p0.length),List.getElem?_eq_getElem (by omega:2<p0.length),List.getElem?_eq_getElem (by omega:3<p0.length)]
 rw [ed]
 by_cases hbb:p0.drop 3=d
 ·obtain⟨sP,capP,ds,L',ePl,w1,w2,w3,a2⟩:=a.putP (by rw [hq.pl];exact hjn) hrw
  rw [hq.pl]at ePl
  subst ePl;rw [if_pos hbb]at eR3
  have k3:Keep H (g.set sP ds):=(kg.trans k2).set w1 _;obtain⟨f1,f2,f3⟩:=fin eR3 k3 a2;have r1:=a.r1;have r3:=a2.r3;generalize g.set sP ds=g2 at *
  rw [show(List.drop 3 p0 == d)=true from beq_iff_eq.2 hbb]
  simp only [pwA,seval,-iQ0,r1,hjn,hjn',w3,r3,f1,f2];exact f3
 rw [if_neg hbb]at eR3
 rw [show(List.drop 3 p0 == d)=false from beq_eq_false_iff_ne.2 hbb]
 simp only [pwA,seval,-iQ0]
 by_cases i0:(p0[3].toNat:Int)-97<0
 ·obtain⟨f1,f2,f3,f4⟩:=fin0 (kg.trans k2)
  simp only [pwA,seval,-iQ0,i0,f1,f2,f3,g0,g1,g2];exact f4 (by rw [eR3,if_pos (.inl i0)])
 obtain⟨i,hi⟩:∃i:Nat,(p0[3].toNat:Int)-97=i:=⟨((p0[3].toNat:Int)-97).toNat,by omega⟩
 rw [hi]at i0 eR3 ⊢
 by_cases i1:(j:Int)≤(i:Int)
 ·obtain⟨f1,f2,f3,f4⟩:=fin0 (kg.trans k2)
  simp only [pwA,seval,-iQ0,i0,i1,f1,f2,f3,g0,g1,g2];exact f4 (by rw [eR3,if_pos (.inr i1)])
 have hin:i<O.length:=by omega
 have hin':(i:Int)<(O.length:Int):=by omega
 have hji:j-i-1<O.length-1-i:=by omega
 have hji':((j-i-1:Nat):Int)<((O.length-1-i:Nat):Int):=by omega
 have wk:IntKind.i64.wrap ((j:Int)-(i:Int))=(j:Int)-(i:Int):=wrap64 (by omega) (by omega)
 have wk1:IntKind.i64.wrap ((j:Int)-(i:Int)-1)=((j-i-1:Nat):Int):=by rw [wrap64 (by omega) (by omega)];omega
 rw [if_neg (by omega),Int.toNat_natCast,show((j:Int)-(i:Int)-1).toNat=j-i-1 by omega]at eR3
 obtain⟨sC,capC,u',capu,ds,L',eCl,rC,w1,w2,w3,w4,w5,a2⟩:=a.putC (by rw [hq.cl];exact hin) (by rw [hq.row i hin];exact hji) hrw
 rw [hq.cl]at eCl
 subst eCl;rw [hq.row i hin]at rC
 have k3:Keep H (g.set u' ds):=(kg.trans k2).set w3 _;obtain⟨f1,f2,f3⟩:=fin eR3 k3 a2;have r2:=a.r2;have r3:=a2.r3;generalize g.set u' ds=g2 at *
 simp only [pwA,seval,-iQ0,i0,i1,r2,rC,hin,hin',hji,hji',wk,wk1,w5,r3,f1,f2];exact f3
end Go.Proofs
namespace Go.Grp
end Go.Grp
namespace Go.Proofs
open Go.Ab Go.Lie Go.Grp
variable {σ σ0 h h':PHeap} {K:PV→PHeap→Prop} {b k nP nC r s0 i j n:Nat} {v vO vP vC c vX vS vL vM:PV} {x O xs bs:List Int} {P M:List (List Int)} {C:List (List (List Int))} {cs:List PV} {s t:List UInt8}
def foldR (O:List Int):List (List Int)×List (List (List Int))→List (List UInt8)→Option (List (List Int)×List (List (List Int)))
 | pc,[]=>some pc
 | pc,s::r=>match relF O pc.1 pc.2 s with | none=>none | some pc'=>foldR O pc' r
def lpsL (O:Option (List Int)) (r:List (List UInt8)):Option (List Int×List (List Int)×List (List (List Int))):=
 match O with
 | none=>none
 | some O=>match foldR O (trP O.length O.length,trC O.length O.length) r with | none=>none | some pc=>some (O,pc.1,pc.2)
def lpsF (s:List UInt8):Option (List Int×List (List Int)×List (List (List Int))):=lpsL (orF ((spF 59 [] s).getD 0 [])) ((spF 59 [] s).drop 1)
theorem zHf:∀(w acc:List Int) {ys:List Int},vcF acc w=some ys→ys.length=acc.length
 | [],acc,ys,e=>by rw [vcF]at e;rw [←Option.some.inj e]
 | x::r,acc,ys,e=>by
  rw [vcF]at e
  split at e
  ·cases e
  ·rw [zHf r _ e,List.length_set]
abbrev Sq (O:List Int) (P:List (List Int)) (C:List (List (List Int))):Prop:=PQ3 (fun m=>m=O.length) P C O.length O.length (fun i=>O.length-1-i)
theorem sq_P {v:List Int} (q:Sq O P C) (hv:v.length=O.length) (i:Nat):Sq O (P.set i v) C:=
 ⟨by rw [List.length_set];exact q.pl,q.cl,fun r hr=>by rcases List.mem_or_eq_of_mem_set hr with h | rfl;exact q.pq r h;exact hv,q.row,q.cq⟩
theorem sq_C {v:List Int} (q:Sq O P C) (hv:v.length=O.length) (i j:Nat):Sq O P (C.set i ((C.getD i []).set j v)):=by
 refine⟨q.pl,by rw [List.length_set];exact q.cl,q.pq,fun k hk=>?_,fun c hc r hr=>?_⟩
 ·rw [List.getD_eq_getElem?_getD,List.getElem?_set]
  by_cases e:i=k
  ·subst e
   rw [if_pos rfl,if_pos (by rw [q.cl];exact hk)]
   show((C.getD i []).set j v).length=_
   rw [List.length_set];exact q.row i hk
  ·rw [if_neg e,←List.getD_eq_getElem?_getD];exact q.row k hk
 ·rcases List.mem_or_eq_of_mem_set hc with h | rfl
  ·exact q.cq c h r hr
  ·rcases List.mem_or_eq_of_mem_set hr with h | rfl
   ·rcases Nat.lt_or_ge i C.length with hi | hi
    ·rw [List.getD_eq_getElem?_getD,List.getElem?_eq_getElem hi]at h
     exact q.cq _ (List.getElem_mem hi) r h
    ·rw [List.getD_eq_getElem?_getD,List.getElem?_eq_none hi]at h;cases h
   ·exact hv
theorem zNG {pc:List (List Int)×List (List (List Int))} (q:Sq O P C) (e:relF O P C s=some pc):Sq O pc.1 pc.2:=by
 unfold relF relG relH relI at e
 split at e
 ·split at e
  ·split at e
   ·cases e
   ·split at e
    ·cases e
    ·next v hv=>
     have hl:=zHf _ _ hv;rw [List.length_replicate]at hl
     unfold relJ at e
     split at e
     ·cases e
     ·split at e
      ·rw [←Option.some.inj e];exact sq_P q hl _
      ·split at e
       ·cases e
       ·rw [←Option.some.inj e];exact sq_C q hl _ _
  ·cases e
 ·cases e
theorem tr_sq (O:List Int):Sq O (trP O.length O.length) (trC O.length O.length):=by
 refine⟨zEK _ _,Qf _ _,fun r hr=>by rw [(List.mem_replicate.1 hr).2];simp,fun i hi=>?_,fun q hq r hr=>?_⟩
 ·rw [List.getD_eq_getElem?_getD,trC,List.getElem?_map,List.getElem?_range hi];exact zEL _ _ _
 ·obtain⟨i,_,rfl⟩:=List.mem_map.1 hq
  obtain⟨k,_,rfl⟩:=List.mem_map.1 hr;exact Zl _ _
theorem zBr (hs:s.length≤1048576) (hk0:(∀O P C,lpsF s=some (O,P,C)→zK O P C→prT O P C≠s)→K (.tup [.agg [.fz true .nils 0 [],.fz true .nils 0 [],.fz true .nils 0 []],.int .i64 6]) σ)
  (hk1:∀wO wP wC O P C,lpsF s=some (O,P,C)→zK O P C→prT O P C=s→IsPr wO wP wC O P C→K (.tup [.agg [wO,wP,wC],.int .i64 0]) σ):zA Tryz.prog 21 [.str s] σ K:=by
 have nil:(∀O P C,lpsF s=some (O,P,C)→zK O P C→prT O P C≠s)→∀{h:PHeap},Keep σ h→Gh σ K (.tup [.agg [.fz true .nils 0 [],.fz true .nils 0 [],.fz true .nils 0 []],.int .i64 6]) h:=fun e {h} kk=>Gh.fin0 kk ⟨⟨trivial,trivial,trivial,trivial⟩,trivial,trivial⟩ (hk0 e)
 refine zA.gh ?_;refine zS mix Tryz.func21 ?_;simp only [pwA,seval,-iQ0];have eS:lpsF s=lpsL (orF ((spF 59 [] s).getD 0 [])) ((spF 59 [] s).drop 1):=rfl;refine QW (c:=59) (s:=s) (by omega) fun a=>?_
 have sl:=zAJ 59 s [];have hll:=zAR 59 s [];generalize spF 59 [] s=l at *
 have c0:(pst l)[0]? = some (.str l[0]):=qw (by omega)
 have z0:(0:Int)<(l.length:Int):=by omega
 have z0':0<l.length:=by omega
 have hq0:l[0].length≤1048576:=by have:=hll _ (List.getElem_mem z0');simp only [List.length_nil]at this;omega
 rw [show l.getD 0 []=l[0] by rw [List.getD_eq_getElem?_getD,List.getElem?_eq_getElem z0'];rfl]at eS
 simp only [pwA,seval,-iQ0,z0,z0',c0];refine zHL hq0 (fun eO vX x hX=>?_) fun vX O eO hX hO6 hOp=>?_
 ·have hX1:=hX.one
  rw [eO,lpsL]at eS
  simp only [pwA,seval,-iQ0,hX1];exact nil (fun _ _ _ e=>by rw [eS]at e;cases e) (zD _ _)
 have hX1:=hX.one;rw [eO]at eS
 simp only [pwA,seval,-iQ0,hX1];refine zFB hX (by omega) fun wO wP wC hR=>?_
 have hq:=tr_sq O;have eF:∀pc,foldR O (trP O.length O.length,trC O.length O.length) (l.drop 1)=pc→lpsF s=match pc with | none=>none | some pc=>some (O,pc.1,pc.2):=fun pc e=>by rw [eS,lpsL,e]
 clear eS;have o1:=hR.O.one;have o2:=hR.P.one;have o3:=hR.C.one;simp only [pwA,seval,-iQ0,o1,o2,o3];have nil3:∀{h:PHeap},Keep σ h→σ.next<h.next→h.obj σ.next=some [PV.fz true AV.nils 0 [],PV.fz true AV.nils 0 [],PV.fz true AV.nils 0 []]→
   h.wr σ.next 0 [.fz true .nils 0 [],.fz true .nils 0 [],.fz true .nils 0 []]=some (h.set σ.next [.fz true .nils 0 [],.fz true .nils 0 [],.fz true .nils 0 []])∧(h.set σ.next [.fz true .nils 0 [],.fz true .nils 0 [],.fz true .nils 0 []]).rd σ.next 0 3=some [.fz true .nils 0 [],.fz true .nils 0 [],.fz true .nils 0 []]∧((∀O P C,lpsF s=some (O,P,C)→zK O P C→prT O P C≠s)→Gh σ K (.tup [.agg [.fz true .nils 0 [],.fz true .nils 0 [],.fz true .nils 0 []],.int .i64 6]) (h.set σ.next [.fz true .nils 0 [],.fz true .nils 0 [],.fz true .nils 0 []])):=fun {h} kh hl ho=>
  ⟨by rw [qg ho,if_pos ⟨by simp,rfl⟩];rfl,by rw [ZG,if_pos rfl];rfl,fun e=>nil e (kh.set (Nat.le_refl _) _)⟩
 refine zB (fun m vs h=>∃(i:Nat) (wO wP wC:PV) (P:List (List Int)) (C:List (List (List Int))),1≤i∧i≤l.length∧m=l.length-i∧vs=[.str s,.ptr σ.next 0,.fz true a l.length (pst l),.ptr (σ.next+1) 0,.int .i64 i]∧IsPr wO wP wC O P C∧PQ3 (fun m=>m=O.length) P C O.length O.length (fun j=>O.length-1-j)∧
  Keep σ h∧σ.next+1<h.next∧h.obj σ.next=some [PV.fz true AV.nils 0 [],PV.fz true AV.nils 0 [],PV.fz true AV.nils 0 []]∧h.obj (σ.next+1)=some [wO,wP,wC]∧foldR O (P,C) (l.drop i)=foldR O (trP O.length O.length,trC O.length O.length) (l.drop 1)) (l.length-1) ?_ ?_
 ·exact⟨1,wO,wP,wC,_,_,Nat.le_refl _,sl.1,rfl,rfl,hR,hq,(zD _ _).new _,by show _<σ.next+2;omega,by simp only [pwA,seval,-iQ0],by simp only [pwA,seval,-iQ0],rfl⟩
 clear hR hq o1 o2 o3
 rintro m vs h ⟨i,wO,wP,wC,P,C,hi1,hi,rfl,rfl,hR,hq,kk,hl,ob0,ob1,eL⟩
 have o1:=hR.O.one;have o2:=hR.P.one;have o3:=hR.C.one;have r3:h.rd (σ.next+1) 0 3=some [wO,wP,wC]:=by rw [Z9 ob1];rfl
 have fm:Fm 6 O P C:=⟨hO6,fun a ha=>(hOp a ha).b1,hq⟩
 simp only [pwA,seval,-iQ0];refine iteI (fun hlt=>?_) fun hge=>?_
 ·have hlt':(i:Int)<(l.length:Int):=by omega
  have ci:(pst l)[i]? = some (.str l[i]):=qw hlt;have wi:=wrapS hlt (by omega:l.length≤4611686018427387904)
  have hqi:l[i].length≤1048576:=by have:=hll _ (List.getElem_mem hlt);simp only [List.length_nil]at this;omega
  rw [drop_at hlt,foldR]at eL
  simp only [pwA,seval,-iQ0,r3,hlt,hlt',ci];refine zFC hR hO6 hOp hq hqi (fun eR=>?_) fun uO uP uC P' C' eR hR'=>?_
  ·have w:h.wr (σ.next+1) 0 [wO,wP,wC]=some (h.set (σ.next+1) [wO,wP,wC]):=by rw [qg ob1,if_pos ⟨by simp,by simp [o1,o2,o3]⟩];rfl
   have kk':Keep σ (h.set (σ.next+1) [wO,wP,wC]):=kk.set (by omega) _
   have hl':σ.next+1<(h.set (σ.next+1) [wO,wP,wC]).next:=hl;have ob0':(h.set (σ.next+1) [wO,wP,wC]).obj σ.next=some [PV.fz true AV.nils 0 [],PV.fz true AV.nils 0 [],PV.fz true AV.nils 0 []]:=by rw [zg,if_neg (by omega)];exact ob0
   obtain⟨f1,f2,f3⟩:=nil3 kk' (by omega) ob0'
   rw [eR]at eL
   have eF':=eF none eL.symm;generalize h.set (σ.next+1) [wO,wP,wC]=g at *
   simp only [pwA,seval,-iQ0,o1,o2,o3,w,f1,f2];exact f3 fun _ _ _ e=>by rw [eF']at e;cases e
  have hq':=zNG hq eR;rw [eR]at eL
  have g1:=hR'.O.one;have g2:=hR'.P.one;have g3:=hR'.C.one;have w:h.wr (σ.next+1) 0 [uO,uP,uC]=some (h.set (σ.next+1) [uO,uP,uC]):=by rw [qg ob1,if_pos ⟨by simp,by simp [g1,g2,g3]⟩];rfl
  have kk':Keep σ (h.set (σ.next+1) [uO,uP,uC]):=kk.set (by omega) _
  have hl':σ.next+1<(h.set (σ.next+1) [uO,uP,uC]).next:=hl;have ob0':(h.set (σ.next+1) [uO,uP,uC]).obj σ.next=some [PV.fz true AV.nils 0 [],PV.fz true AV.nils 0 [],PV.fz true AV.nils 0 []]:=by rw [zg,if_neg (by omega)];exact ob0
  have ob1':(h.set (σ.next+1) [uO,uP,uC]).obj (σ.next+1)=some [uO,uP,uC]:=by rw [zg,if_pos rfl]
  generalize h.set (σ.next+1) [uO,uP,uC]=g at *
  simp only [pwA,seval,-iQ0,g1,g2,g3,w,wi];exact⟨_,by omega,i+1,uO,uP,uC,P',C',by omega,by omega,rfl,rfl,hR',hq',kk',hl',ob0',ob1',eL⟩
 have eF':lpsF s=some (O,P,C):=eF (some (P,C)) (by rw [←eL,List.drop_of_length_le (by omega),foldR])
 have un:∀{O' P' C'},lpsF s=some (O',P',C')→O'=O∧P'=P∧C'=C:=fun {O' P' C'} e=>by rw [eF']at e;cases e;exact⟨rfl,rfl,rfl⟩
 simp only [pwA,seval,-iQ0,r3];refine QT hR (fm.sz (by decide)) fun t ht=>?_
 obtain⟨f1,f2,f3⟩:=nil3 kk (by omega) ob0
 cases t
 ·simp only [pwA,seval,-iQ0,f1,f2]
  exact f3 fun O' P' C' e hp=>by obtain⟨rfl,rfl,rfl⟩:=un e;exact absurd (ht.2 hp) (by decide)
 simp only [pwA,seval,-iQ0,r3];refine zKb hR (ht.1 rfl) fun q eq _=>?_
 cases hqs:q == s
 ·have hne:¬q=s:=fun e=>by rw [e]at hqs;simp at hqs
  simp only [pwA,seval,-iQ0,hqs,f1,f2];exact f3 fun O' P' C' e hp=>by obtain⟨rfl,rfl,rfl⟩:=un e;rw [←eq];exact hne
 have w:h.wr σ.next 0 [wO,wP,wC]=some (h.set σ.next [wO,wP,wC]):=by rw [qg ob0,if_pos ⟨by simp,by simp [o1,o2,o3]⟩];rfl
 have r:(h.set σ.next [wO,wP,wC]).rd σ.next 0 3=some [wO,wP,wC]:=by rw [ZG,if_pos rfl];rfl
 simp only [pwA,seval,-iQ0,hqs,r3,w,r,o1,o2,o3];exact Gh.fin0 (kk.set (Nat.le_refl _) _) ⟨⟨hR.O.bel _,hR.P.bel _,hR.C.bel _,trivial⟩,trivial,trivial⟩ (hk1 wO wP wC O P C eF' (ht.1 rfl) (by rw [←eq];exact beq_iff_eq.1 hqs) hR)
end Go.Proofs
namespace Go.Grp
end Go.Grp
namespace Go.Ab
open Go.RowKit
variable {P:Program} {σ:PHeap} {K:PV→PHeap→Prop}
theorem zA.quietV {f:FuncId} {args:List PV} {v:PV} (hv:∀Z h n,VOK Z h n v)
  (H:∀(ι:Nat→Nat) (Z:Nat→Prop) (h:AHeap),Rel ι Z σ h→VOKs Z h σ.next args→∀(B:Nat) (w0:World) (j:Inj) (w:World) (cargs:List Value),MR B w0 j h w→VIs j (ers ι args) cargs→
   Calls P f cargs.toArray w fun e w'=>(∃cv,e=.returned cv∧VI j (er ι v) cv)∧Below w.heap.size w w') (hk:K v σ):zA P f args σ K:=
 fun ι Z h r va B w0 j w cargs m vi=>(H ι Z h r va B w0 j w cargs m vi).mono fun e w' ⟨⟨cv,he,hc⟩,hb⟩=>
  ⟨er ι v,h,j,cv,he,FR.refl _ _,m.quiet hb,hc,v,σ,ι,Z,r,⟨Nat.le_refl _,Nat.le_refl _,fun _ _=>rfl,fun o ho=>⟨ho,rfl⟩,fun _ _ x=>x,fun s cs hs ho=>by rw [r.wf s hs]at ho;cases ho⟩,hv _ _ _,rfl,hk⟩
theorem zFW {Z:Nat→Prop} {h:AHeap} {n:Nat}:∀l:List (List UInt8),VOKs Z h n (l.map PV.str)
 | []=>trivial
 | _::l=>⟨trivial,zFW l⟩
theorem zDB (ι:Nat→Nat):∀l:List (List UInt8),ers ι (l.map PV.str)=l.map AV.str
 | []=>rfl
 | q::l=>by simp only [List.map_cons,ers,er,zDB ι l]
theorem zFX (j:Inj):∀l:List (List UInt8),VIs j (l.map AV.str) (l.map fun q=>Value.string ⟨q.toArray⟩)
 | []=>rfl
 | q::l=>⟨_,_,rfl,rfl,zFX j l⟩
theorem zA.quietN {f:FuncId} {args:List PV} {l:List (List UInt8)} {ty:TypeId}
  (H:∀(ι:Nat→Nat) (Z:Nat→Prop) (h:AHeap),Rel ι Z σ h→VOKs Z h σ.next args→∀(B:Nat) (w0:World) (j:Inj) (w:World) (cargs:List Value),MR B w0 j h w→VIs j (ers ι args) cargs→
   Calls P f cargs.toArray w fun e w'=>∃w1,Below w.heap.size w w1∧e=.returned (.slice (some ⟨w1.heap.size,0,none⟩) l.length l.length)∧w'=w1.alloc (.cells (l.map fun q=>Value.string ⟨q.toArray⟩).toArray ty))
  (hk:K (.sl σ.next 0 l.length (.known l.length)) (σ.new (l.map PV.str))):zA P f args σ K:=by
 intro ι Z h r va B w0 j w cargs m vi;refine(H ι Z h r va B w0 j w cargs m vi).mono ?_
 rintro e w' ⟨w1,hb,rfl,rfl⟩
 obtain⟨r2,a2⟩:=r.new (cs:=l.map PV.str) (zFW l);obtain⟨m2,f2⟩:=(m.quiet hb).new (cells:=ers ι (l.map PV.str)) (cur:=(l.map fun q=>Value.string ⟨q.toArray⟩).toArray) (ty:=ty) (room:=l.length) (by rw [zDB];simp [List.all_map];intro q _;rfl) (by
  rw [zDB,List.length_map,List.take_of_length_le (by simp)]
  exact zFX j l) (by simp)
 exact⟨.sl h.next 0 l.length (.known l.length),_,_,_,rfl,f2,m2,⟨⟨w1.heap.size,0,l.length⟩,_,by simp [Inj.put],rfl,.inl rfl⟩,.sl σ.next 0 l.length (.known l.length),_,_,Z,r2,a2,Nat.lt_succ_self _,by simp [er,putι],hk⟩
def PHeap.bare (σ:PHeap):PHeap:=⟨σ.next,σ.top,fun _=>Option.none⟩
theorem zA.thaw {f:FuncId} {args:List PV} {args2:(Nat→Nat)→List PV}
  (hA:∀ι,ers ι (args2 ι)=ers ι args) (hV:∀{ι:Nat→Nat} {Z Z2:Nat→Prop} {h:AHeap},Rel ι Z σ h→(∀s ds,σ.obj s=some ds→Z2 (ι s))→VOKs Z2 h σ.next (args2 ι))
  (c:∀aa,zA P f (args2 aa) σ.bare fun v _=>leafy v∧K v σ):zA P f args σ K:=by
 intro ι Z h r va;obtain⟨Z2,hZ2⟩:∃Z2:Nat→Prop,Z2=fun o=>Z o∨∃t ds,σ.obj t=some ds∧o=ι t:=⟨_,rfl⟩
 have hz2:∀o,Z2 o↔(Z o∨∃t ds,σ.obj t=some ds∧o=ι t):=fun o=>by rw [hZ2]
 clear hZ2;have r2:Rel ι Z2 σ.bare h:=by
  refine⟨r.hwf,fun o ho=>?_,r.top,fun t ht=>rfl,fun t ds ht=>(by cases ht),fun t t' ds ds' ht=>(by cases ht)⟩
  rcases(hz2 o).1 ho with ho|⟨t,ds,ht,rfl⟩
  ·exact r.zlt o ho
  ·exact r.hwf.lt (r.obj t ds ht).1
 have:=c ι ι Z2 h r2 (hV r fun s ds hs=>(hz2 _).2 (.inr ⟨s,ds,hs,rfl⟩))
 rw [hA]at this
 refine this.mono ?_
 rintro v h' ⟨pv,σ',ι',Z',p1,p2,p3,rfl,hl,hk⟩
 have ob:∀t ds,σ.obj t=some ds→h'.obj (ι t)=h.obj (ι t):=fun t ds ht=>(p2.z _ ((hz2 _).2 (.inr ⟨t,ds,ht,rfl⟩))).2
 have hzz:∀o,Z o→Z o∧h'.obj o=h.obj o:=fun o ho=>⟨ho,(p2.z o ((hz2 o).2 (.inl ho))).2⟩
 exact⟨pv,σ,ι,Z,⟨p1.hwf,fun o ho=>Nat.lt_of_lt_of_le (r.zlt o ho) p2.hnext,Nat.le_trans r.top p2.hnext,r.wf,fun t ds ht=>⟨by rw [ob t ds ht];exact(r.obj t ds ht).1,(r.obj t ds ht).2.1.mono hzz (Nat.le_refl _),(r.obj t ds ht).2.2⟩,r.inj⟩,⟨Nat.le_refl _,p2.hnext,fun _ _=>rfl,hzz,fun _ _ h=>h,fun t ds ht hd=>absurd (r.none_lt hd) (by omega)⟩,zAt hl _,zBZ hl _ _,hk⟩
theorem TR.slotZ {ts:List TR} {b:Nat} (hok:TR.oks σ b ts) {ι:Nat→Nat} {Z2:Nat→Prop} (hz:∀s ds,σ.obj s=some ds→Z2 (ι s)):∀s∈TR.slotss ts,Z2 (ι s):=fun s hs=>by
 obtain⟨_,cs,q⟩:=TR.slots_obj hok s hs;exact hz s cs q
theorem zA.thawP {f:FuncId} {ts:List TR} {s b:Nat} (hs:σ.obj s=some (TR.pvs ts)) (hok:TR.oks σ b ts)
  (c:∀aa:Nat→Nat,zA P f [.fp (.ptr (aa s) 0) (TR.fzs aa ts)] σ.bare fun v _=>leafy v∧K v σ):zA P f [.ptr s 0] σ K:=by
 refine zA.thaw (args2:=fun aa=>[.fp (.ptr (aa s) 0) (TR.fzs aa ts)]) (fun ι=>rfl) (fun {ι Z Z2 h} r hz=>⟨⟨⟨rfl,.inr ⟨ι s,0,rfl,hz s _ hs,?_⟩⟩,?_⟩,trivial⟩) c
 ·have q:=(r.obj s _ hs).1
  rw [←TR.ers_fz idz hok]at q
  exact Qh q rfl
 ·exact(TR.voks r hok (TR.slotZ hok hz)).mono (fun o ho=>⟨ho,rfl⟩) (Nat.zero_le _)
theorem zA.thawV {f:FuncId} {ts:List TR} {b:Nat} (hok:TR.oks σ b ts)
  (c:∀aa,zA P f [.agg (TR.fzs aa ts)] σ.bare fun v _=>leafy v∧K v σ):zA P f [.agg (TR.pvs ts)] σ K:=
 zA.thaw (args2:=fun aa=>[.agg (TR.fzs aa ts)]) (fun ι=>by simp only [ers,er,TR.ers_fz ι hok]) (fun r hz=>⟨(TR.voks r hok (TR.slotZ hok hz)).mono (fun o ho=>⟨ho,rfl⟩) (Nat.zero_le _),trivial⟩) c
end Go.Ab
namespace Go.Proofs
open Go.RowKit Go.Ab Go.Lie Go.Grp
variable {σ h:PHeap} {K:PV→PHeap→Prop} {B:Nat} {w0 w:World} {j:Inj} {hh:AHeap} {s:List UInt8}
theorem zKU (m:MR B w0 j hh w):∃n,w.cell? ⟨2,0,none⟩=some (.int .i64 n):=by
 obtain⟨n,hn⟩:=m.gd.num;have h:=m.gd.lt;exact⟨n,(m.below.cell (p:=⟨gdM,0,none⟩) (Nat.lt_of_le_of_lt (by decide:2≤3) h)).trans hn⟩
theorem zOO (m:MR B w0 j hh w):∃t v,w.cell? ⟨0,0,none⟩=some (.iface t v):=by
 obtain⟨t,v,hn⟩:=m.gd.syn;have h:=m.gd.lt;exact⟨t,v,(m.below.cell (p:=⟨gdS,0,none⟩) (Nat.lt_of_le_of_lt (by decide:0≤3) h)).trans hn⟩
theorem zOU (m:MR B w0 j hh w):∃t v,w.cell? ⟨1,0,none⟩=some (.iface t v):=by
 obtain⟨t,v,hn⟩:=m.gd.rng;have h:=m.gd.lt;exact⟨t,v,(m.below.cell (p:=⟨gdR,0,none⟩) (Nat.lt_of_le_of_lt (by decide:1≤3) h)).trans hn⟩
def splL (sep s:List UInt8):List (List UInt8):=(Lib.splitB ⟨sep.toArray⟩ 0 (Lib.countB ⟨s.toArray⟩ ⟨sep.toArray⟩) ⟨s.toArray⟩).map fun q=>q.data.toList
theorem zCn (sep:ByteArray):∀(k:Nat) (s:ByteArray),∀q∈Lib.splitB sep 0 k s,q.size≤s.size
 | 0,s,q,hq=>by
  rw [Lib.splitB,List.mem_singleton]at hq
  rw [hq];exact Nat.le_refl _
 | k+1,s,q,hq=>by
  rw [Lib.splitB]at hq
  split at hq
  ·rw [List.mem_singleton]at hq
   rw [hq];exact Nat.le_refl _
  ·rcases List.mem_cons.1 hq with rfl | hq
   ·rw [ByteArray.size_extract];omega
   ·have:=zCn sep k _ q hq
    rw [ByteArray.size_extract]at this
    omega
theorem Qq {sep:List UInt8}:∀q∈splL sep s,q.length≤s.length:=fun q hq=>by
 obtain⟨b,hb,rfl⟩:=List.mem_map.1 hq
 have:=zCn _ _ _ b hb
 exact this
theorem Qg {sep:List UInt8} (h1:1≤sep.length):(splL sep s).length=Lib.countB ⟨s.toArray⟩ ⟨sep.toArray⟩+1∧(splL sep s).length≤s.length+1:=by
 have e:(splL sep s).length=Lib.countB ⟨s.toArray⟩ ⟨sep.toArray⟩+1:=by
  rw [splL,List.length_map];exact Lib.splitB_all ⟨sep.toArray⟩ (by simpa [ByteArray.size]using h1) 0 _ _ rfl
 have:=Lib.countB_le ⟨sep.toArray⟩ (by simpa [ByteArray.size]using h1) _ ⟨s.toArray⟩ (Nat.le_refl _)
 refine⟨e,?_⟩;rw [e];have e2:(⟨s.toArray⟩:ByteArray).size=s.length:=by simp [ByteArray.size]
 omega
theorem zAk {sep:List UInt8} (hs:s.length≤1048576) (h1:1≤sep.length) (hk:K (.sl σ.next 0 (splL sep s).length (.known (splL sep s).length)) (σ.new (pst (splL sep s)))):zA Tryz.prog 69 [.str s,.str sep] σ K:=by
 refine zA.quietN (l:=splL sep s) (ty:=9) (fun ι Z h r va B w0 j w cargs m vi=>?_) hk
 obtain⟨_,_,rfl,rfl,_,_,rfl,rfl,rfl⟩:=vi;obtain⟨n,hn⟩:=zKU m;refine(Tryz.strings_Split ⟨s.toArray⟩ ⟨sep.toArray⟩ n w (by simp [ByteArray.size];omega) hn (by simpa [ByteArray.size]using h1)).mono ?_
 rintro e w' ⟨rfl,rfl⟩
 refine⟨w,Below.refl _ _,by rw [(Qg h1).1],?_⟩
 congr 3
 rw [splL,List.map_map];apply List.map_congr_left;intro q _
 rfl
theorem zEJ {sep:List UInt8} (hs:s.length≤1048576) (hk:K (.tup [.str (Lib.cut s sep).1,.str (Lib.cut s sep).2.1,.bool (Lib.cut s sep).2.2]) σ):zA Tryz.prog 95 [.str s,.str sep] σ K:=by
 refine zA.quietV (v:=.tup [.str (Lib.cut s sep).1,.str (Lib.cut s sep).2.1,.bool (Lib.cut s sep).2.2]) (fun Z h n=>⟨trivial,trivial,trivial,trivial⟩) (fun ι Z h r va B w0 j w cargs m vi=>?_) hk
 obtain⟨_,_,rfl,rfl,_,_,rfl,rfl,rfl⟩:=vi;obtain⟨n,hn⟩:=zKU m;refine(Tryz.strings_Cut ⟨s.toArray⟩ ⟨sep.toArray⟩ n w (by simp [ByteArray.size];omega) hn).mono ?_
 rintro e w' ⟨rfl,k,rfl⟩
 exact⟨⟨_,rfl,[_,_,_],⟨_,_,rfl,rfl,_,_,rfl,rfl,_,_,rfl,rfl,rfl⟩,rfl⟩,below_drewN (Below.refl _ _) _⟩
theorem zA8 (hs:s.length≤1048576) (hk0:(∀v,Lib.parseIntB 64 s≠.ok v)→∀n:Int,K (.tup [.int .i64 n,.err false]) σ) (hk1:∀v,Lib.parseIntB 64 s=.ok v→K (.tup [.int .i64 v,.err true]) σ):zA Tryz.prog 70 [.str s,.int .i64 10,.int .i64 64] σ K:=by
 have e0:(⟨s.toArray⟩:ByteArray).size=s.length:=by simp [ByteArray.size]
 cases hp:Lib.parseIntB 64 s with
 | ok v=>
  refine zA.quietV (v:=.tup [.int .i64 v,.err true]) (fun Z h n=>⟨trivial,trivial,trivial⟩) (fun ι Z h r va B w0 j w cargs m vi=>?_) (hk1 v hp)
  obtain⟨_,_,rfl,rfl,_,_,rfl,rfl,_,_,rfl,rfl,rfl⟩:=vi;refine(Tryz.strconv_ParseInt_10_at64_ok ⟨s.toArray⟩ (by omega) v hp w).mono ?_
  rintro e w' ⟨rfl,hw⟩
  refine⟨⟨_,rfl,[_,_],⟨_,_,rfl,rfl,_,_,rfl,rfl,rfl⟩,rfl⟩,?_⟩;rcases hw with rfl|⟨t,rfl⟩
  ·exact Below.refl _ _
  ·exact Lib.bytesWorld_below _ _ _
 | «syntax»=>
  refine zA.quietV (v:=.tup [.int .i64 0,.err false]) (fun Z h n=>⟨trivial,trivial,trivial⟩) (fun ι Z h r va B w0 j w cargs m vi=>?_) (hk0 (fun v e=>by rw [hp]at e;cases e) 0)
  obtain⟨_,_,rfl,rfl,_,_,rfl,rfl,_,_,rfl,rfl,rfl⟩:=vi;obtain⟨te,pe,he⟩:=zOO m;refine(Tryz.strconv_ParseInt_10_at64_syntax ⟨s.toArray⟩ (by omega) hp _ w he (.inr ⟨te,pe,rfl⟩)).mono ?_
  rintro e w' ⟨N,rfl,_,_,hb⟩
  exact⟨⟨_,rfl,[_,_],⟨_,_,rfl,rfl,_,_,rfl,⟨_,_,rfl⟩,rfl⟩,rfl⟩,hb⟩
 | range=>
  refine zA.quietV (v:=.tup [.int .i64 (Lib.intSat 64 s),.err false]) (fun Z h n=>⟨trivial,trivial,trivial⟩) (fun ι Z h r va B w0 j w cargs m vi=>?_) (hk0 (fun v e=>by rw [hp]at e;cases e) _)
  obtain⟨_,_,rfl,rfl,_,_,rfl,rfl,_,_,rfl,rfl,rfl⟩:=vi;obtain⟨te,pe,he⟩:=zOU m;refine(Tryz.strconv_ParseInt_10_at64_range ⟨s.toArray⟩ (by omega) hp _ w he (.inr ⟨te,pe,rfl⟩)).mono ?_
  rintro e w' ⟨N,rfl,_,_,hb⟩
  exact⟨⟨_,rfl,[_,_],⟨_,_,rfl,rfl,_,_,rfl,⟨_,_,rfl⟩,rfl⟩,rfl⟩,hb⟩
end Go.Proofs
namespace Go.Proofs
section
open Go.RowKit
set_option maxRecDepth 100000
def ltN (c:Nat):Int:=if c<97 then 65-(c:Int)-1 else(c:Int)-97+1
def rwF (k:Int):List Int→List UInt8→Option (List Int)
 | acc,[]=>some acc
 | acc,c::r=>if c.toNat<65∨ltN c.toNat=0∨¬(-k≤ltN c.toNat∧ltN c.toNat≤k)then none else rwF k (acc++[ltN c.toNat]) r
theorem zNs:(Tryz.prog.info? 2).map (fun i=>(i.zero,i.size,i.bytes))=some (some (.int .i64 0),1,8):=by kernel_rfl
theorem zHz:Tryz.prog.underlying 22=some (.slice 2):=by kernel_rfl
theorem zMW {s:List UInt8} {q:Nat} {c:UInt8} (h:s[q]? = some c):s.drop q=c::s.drop (q+1):=by
 obtain⟨hl,rfl⟩:=List.getElem?_eq_some_iff.1 h
 simp
def zOy (k:Int) (s:List UInt8) (w:World) (e:Ending) (w':World):Prop:=(∃v t xs,e=.returned (.tuple #[v,.bool t])∧w'.ownsRow (w.heap.size+1) 2 1 v xs.length (xs.map (Value.int .i64))∧(t=true→s≠[]∧rwF k [] s=some xs)∧(t=false→xs=[]∧(s=[]∨rwF k [] s=none)))∧Below w.heap.size w w'
set_option maxHeartbeats 1600000 in
theorem zIL (k:Int) (hk0:0≤k) (hk1:k≤1000) (s:List UInt8) (hs:s.length≤1048576) (w:World) (h1:s≠[49]):
  Calls Tryz.prog 123 #[.int .i64 k,.string ⟨s.toArray⟩] w fun e w'=>zOy k s w e w':=by
 obtain⟨i0,hi,hz0,hz1,hz2⟩:=info_parts zNs;have e1:(⟨s.toArray⟩:ByteArray).size=s.length:=by simp [ByteArray.size]
 have hcv:=Lib.run_convert_string_bytes (P:=Tryz.prog) w 9 127 5 ⟨s.toArray⟩ (u:=.string) (by kernel_rfl) (by kernel_rfl) (by kernel_rfl)
 have hB:∀j,j<s.length→(Lib.bytesWorld w 5 ⟨s.toArray⟩).cell? ⟨w.heap.size,j,none⟩=some (.int .u8 (s.getD j 0).toNat):=fun j hj=>by
  have:=Lib.bytesWorld_cell w 5 ⟨s.toArray⟩ j (by rw [e1];exact hj)
  exact this
 have hb0:=Lib.bytesWorld_below w 5 ⟨s.toArray⟩;have hsz:=Lib.bytesWorld_size w 5 ⟨s.toArray⟩;rw [e1]at hcv
 have hq1:(s == [49])=false:=by simpa using h1
 generalize Lib.bytesWorld w 5 ⟨s.toArray⟩=W1 at *
 generalize grownCap w s.length 0 5=gc at *
 go_enter Tryz.func123,Tryz.ntmps123
 go_wp2
 go_loopw [6,15] (fun v i wr=>∃q xs,q≤s.length∧i=.int .i64 (q:Nat)∧xs.length=q∧rwF k xs (s.drop q)=rwF k [] s∧wr.ownsRow (w.heap.size+1) 2 1 v xs.length (xs.map (Value.int .i64))∧Below (w.heap.size+1) W1 wr) (fun _ i _=>s.length-(intOf i).toNat)
 case atStart=>exact⟨0,[],Nat.zero_le _,rfl,rfl,rfl,World.ownsRow_nil _ _ _ _,Below.refl _ _⟩
 case round=>
  obtain⟨q,xs,hq,rfl,hx,eL,hown,hnx⟩:=hrel;have hsz2:=hnx.size
  by_cases hqs:q<s.length
  ·obtain⟨c,hc⟩:∃c,s[q]? = some c:=⟨s[q],List.getElem?_eq_getElem hqs⟩
   have hcx:wr.cell? ⟨w.heap.size,q,none⟩=some (.int .u8 c.toNat):=by
    rw [hnx.cell (by show w.heap.size<w.heap.size+1;omega),hB q hqs,List.getD_eq_getElem?_getD,hc];rfl
   rw [zMW hc,rwF]at eL
   have c0:=c.toNat_lt;obtain⟨n,hn⟩:∃n,n=c.toNat:=⟨_,rfl⟩
   rw [←hn]at hcx eL c0
   have HN:Hid (n=c.toNat):=Lib.hid hn;clear hn hB hcv hc
   by_cases h97:n<97
   ·have h97':(n:Int)<97:=by omega
    have el:ltN n=65-(n:Int)-1:=by unfold ltN;rw [if_pos h97]
    rw [el]at eL
    go_wp2_with (first
     | (at_builtin;refine wpList_append_own _ rfl _ _ 22 rfl (w.heap.size+1) 2 i0 (.int .i64 0) 1 8 zHz hi hz0 hz1 hz2 rfl (by decide) _ _ _ rfl (hown.alloc _) ⟨wr.heap.size,0,none⟩ 1 1 [.int .i64 (65-(n:Int)-1)] rfl rfl ?c1 ?c2 ?c3 ?c4 ?c5 ?c6)
     | go_in)
    case c1=>
     intro j u hj
     match j,hj with
     | 0,hj=>simp at hj;subst hj;simp [Addr.add]
    case c2=>intro u hu;simp at hu;subst hu;rfl
    case c3=>unfold maxLen;omega
    case c4=>omega
    case c5=>simp;omega
    case c6=>
     intro v' w1 hown' hgrow _;rw [if_neg (by simp_all;omega)]at eL
     have hnx':Below (w.heap.size+1) W1 w1:=(hnx.alloc (by omega) _).grown hgrow (by simp;omega) (fun j hj=>(hown.lt j hj).1)
     clear hgrow hown hnx hcx
     go_wp2
     go_roundw
     case rel=>exact⟨q+1,xs++[65-(n:Int)-1],by omega,by go_num,by simp [hx],eL,by simpa [hx]using hown',hnx'⟩
     case measure=>simp [intOf];omega
    all_goals
     go_ret2
     rw [if_pos (by simp_all;omega)]at eL
     exact⟨⟨_,false,[],rfl,World.ownsRow_nil _ _ _ _,(fun h=>by cases h),fun _=>⟨rfl,.inr eL.symm⟩⟩,hb0.trans (hnx.mono (Nat.le_succ _))⟩
   ·have h97':¬(n:Int)<97:=by omega
    have el:ltN n=(n:Int)-97+1:=by unfold ltN;rw [if_neg h97]
    rw [el]at eL
    go_wp2_with (first
     | (at_builtin;refine wpList_append_own _ rfl _ _ 22 rfl (w.heap.size+1) 2 i0 (.int .i64 0) 1 8 zHz hi hz0 hz1 hz2 rfl (by decide) _ _ _ rfl (hown.alloc _) ⟨wr.heap.size,0,none⟩ 1 1 [.int .i64 ((n:Int)-97+1)] rfl rfl ?d1 ?d2 ?d3 ?d4 ?d5 ?d6)
     | go_in)
    case d2=>rfl
    case d3=>unfold maxLen;omega
    case d4=>omega
    case d5=>omega
    case d6=>
     intro v' w1 hown' hgrow _;rw [if_neg (by simp_all;omega)]at eL
     have hnx':Below (w.heap.size+1) W1 w1:=(hnx.alloc (by omega) _).grown hgrow (by simp;omega) (fun j hj=>(hown.lt j hj).1)
     clear hgrow hown hnx hcx
     go_wp2
     go_roundw
     case rel=>exact⟨q+1,xs++[(n:Int)-97+1],by omega,by go_num,by simp [hx],eL,by simpa [hx]using hown',hnx'⟩
     case measure=>simp [intOf];omega
    all_goals
     go_ret2
     rw [if_pos (by simp_all;omega)]at eL
     exact⟨⟨_,false,[],rfl,World.ownsRow_nil _ _ _ _,(fun h=>by cases h),fun _=>⟨rfl,.inr eL.symm⟩⟩,hb0.trans (hnx.mono (Nat.le_succ _))⟩
  ·have e:q=s.length:=by omega
   subst e;rw [List.drop_length,rwF]at eL
   have hbe:=hb0.trans (hnx.mono (Nat.le_succ _))
   by_cases h0:s=[]
   ·have hq0:(s == [])=true:=by simpa using h0
    go_wp2
    go_ret2
    refine⟨⟨_,false,xs,?_,hown,(fun h=>by cases h),fun _=>⟨List.eq_nil_of_length_eq_zero (by rw [hx,h0];rfl),.inl h0⟩⟩,hbe⟩
    simp [h0]
   ·have hq0:(s == [])=false:=by simpa using h0
    go_wp2
    go_ret2
    refine⟨⟨_,true,xs,?_,hown,fun _=>⟨h0,eL.symm⟩,fun h=>by cases h⟩,hbe⟩
    simp [h0]
end
end Go.Proofs
namespace Go.Grp
end Go.Grp
namespace Go.Ab
open Go.RowKit
variable {P:Program} {B:Nat} {w0 w w':World} {j:Inj} {h h':AHeap} {ι:Nat→Nat} {Z:Nat→Prop} {σ:PHeap} {n:Nat}
theorem MR.newAt (m0:MR B w0 j h w) (hb:Below w.heap.size w w') {cells:List AV} {cur:Array Value} {ty:TypeId} {room g:Nat} (hg:w.heap.size≤g) (hgo:w'.heap[g]? = some (.cells cur ty (0,0))) (hone:cells.all AV.one=true)
  (hc:VIs j cells (cur.toList.take cells.length)) (hroom:room≤cur.size):
  MR B w0 (j.put h.next ⟨g,0,room⟩) (h.new ⟨true,cells⟩) w'∧FR j h (j.put h.next ⟨g,0,room⟩) (h.new ⟨true,cells⟩):=by
 have old:∀{p:Nat} {ob:AObj} {l:Loc},h.obj p=some ob→j p=some l→l.blk<w.heap.size:=by
  intro p ob l a b;obtain⟨cur,ty,fz,hrow,_⟩:=(m0.obj p ob l a b).row;exact(Array.getElem?_eq_some_iff.1 hrow).1
 have hB:=m0.bnd;have m:=m0.quiet hb;have hle:=m.put_le ⟨g,0,room⟩;refine⟨⟨m.below,m.bnd,m.gd,?_,?_,?_⟩,?_⟩
 ·intro o ho
  simp only [AHeap.new]at ho
  simp only [AHeap.new,Inj.put,if_neg (show ¬o=h.next by omega)]
  exact m.fresh o (by omega)
 ·intro o ob l ho hl
  by_cases e:o=h.next
  ·subst e
   simp only [AHeap.new,if_true,Option.some.injEq]at ho
   simp only [Inj.put,if_true,Option.some.injEq]at hl
   subst ho;subst hl;refine⟨hone,cur,ty,(0,0),hgo,fun i v hv=>?_,fun _=>⟨rfl,by simpa using hroom,by show B≤g;omega⟩,fun x=>by cases x⟩
   obtain⟨cv,a,b⟩:=hc.get hv;refine⟨cv,?_,VI.mono hle _ _ b⟩;rw [List.getElem?_take]at a
   split at a
   ·simpa using a
   ·cases a
  ·simp only [AHeap.new,if_neg e]at ho
   simp only [Inj.put,if_neg e]at hl
   have k:=m.obj o ob l ho hl;obtain⟨cur,ty,fz,hrow,hc,hr⟩:=k.row;exact⟨k.one,cur,ty,fz,hrow,fun i v hv=>by obtain⟨cv,a,b⟩:=hc i v hv;exact⟨cv,a,VI.mono hle _ _ b⟩,hr⟩
 ·intro o o' ob ob' l l' hne ho ho' hl hl' hrw
  by_cases e:o=h.next
  ·have e':o'≠h.next:=fun x=>hne (e.trans x.symm)
   subst e;simp only [Inj.put,if_true,Option.some.injEq]at hl
   simp only [Inj.put,if_neg e']at hl'
   simp only [AHeap.new,if_neg e']at ho'
   have:=old ho' hl'
   subst hl;show g≠_;omega
  ·simp only [AHeap.new,if_neg e]at ho
   simp only [Inj.put,if_neg e]at hl
   by_cases e':o'=h.next
   ·subst e'
    simp only [Inj.put,if_true,Option.some.injEq]at hl'
    have:=old ho hl
    subst hl';show _≠g;omega
   ·simp only [AHeap.new,if_neg e']at ho'
    simp only [Inj.put,if_neg e']at hl'
    exact m.apart o o' ob ob' l l' hne ho ho' hl hl' hrw
 ·refine⟨by simp [AHeap.new],fun o ho=>?_,fun o ho _=>?_⟩
  ·simp [Inj.put,Nat.ne_of_lt ho]
  ·simp [AHeap.new,Nat.ne_of_lt ho]
theorem zGH (j:Inj):∀l:List Int,VIs j (l.map (AV.int .i64)) (l.map (Value.int .i64))
 | []=>rfl
 | q::l=>⟨_,_,rfl,rfl,zGH j l⟩
theorem zDM (ι:Nat→Nat):∀l:List Int,ers ι (pis l)=l.map (AV.int .i64)
 | []=>rfl
 | q::l=>by simp only [pis,List.map_cons,ers,er];rw [show ers ι (l.map (PV.int .i64))=l.map (AV.int .i64) from zDM ι l]
theorem zGG {n:Nat}:∀l:List Int,VOKs Z h n (pis l)
 | []=>trivial
 | _::l=>⟨trivial,zGG l⟩
theorem zA.quietI {f:FuncId} {args:List PV} {K:PV→PHeap→Prop}
  (H:∀(ι:Nat→Nat) (Z:Nat→Prop) (h:AHeap),Rel ι Z σ h→VOKs Z h σ.next args→∀(B:Nat) (w0:World) (j:Inj) (w:World) (cargs:List Value),MR B w0 j h w→VIs j (ers ι args) cargs→
   Calls P f cargs.toArray w fun e w'=>(∃v t xs b ty,e=.returned (.tuple #[v,.bool t])∧w.heap.size≤b∧w'.ownsRow b ty 1 v xs.length (xs.map (Value.int .i64))∧(xs=[]→K (.tup [.fz true .nils 0 [],.bool t]) σ)∧∀cap,full 1 cap xs.length→K (.tup [.sl σ.next 0 xs.length cap,.bool t]) (σ.new (pis xs)))∧Below w.heap.size w w'):zA P f args σ K:=by
 intro ι Z h r va B w0 j w cargs m vi;refine(H ι Z h r va B w0 j w cargs m vi).mono ?_
 rintro e w' ⟨⟨v,t,xs,b,ty,rfl,hbs,hown,k0,k1⟩,hb⟩
 rcases hown.2 with ⟨rfl,h0⟩|⟨g,c,cur,rfl,hg,hgo,hle,hmx,hsz,hcs⟩
 ·have hx:xs=[]:=List.eq_nil_of_length_eq_zero h0
  exact⟨er ι (.tup [.fz true .nils 0 [],.bool t]),h,j,_,rfl,FR.refl _ _,m.quiet hb,⟨_,⟨_,_,rfl,rfl,_,_,rfl,rfl,rfl⟩,rfl⟩,.tup [.fz true .nils 0 [],.bool t],σ,ι,Z,r,⟨Nat.le_refl _,Nat.le_refl _,fun _ _=>rfl,fun o ho=>⟨ho,rfl⟩,fun _ _ x=>x,fun s cs hs ho=>by rw [r.wf s hs]at ho;cases ho⟩,⟨⟨.inl ⟨rfl,rfl,rfl⟩,trivial⟩,trivial,trivial⟩,rfl,k0 hx⟩
 ·obtain⟨r2,a2⟩:=r.new (cs:=pis xs) (zGG xs)
  rw [Nat.mul_one]at hsz hcs
  obtain⟨m2,f2⟩:=m.newAt hb (cells:=ers ι (pis xs)) (cur:=cur) (ty:=ty) (room:=c) (g:=g) (by omega) hgo (by rw [zDM];simp [List.all_map];intro q _;rfl) (by
   rw [zDM,List.length_map,hcs];exact zGH j xs) (by omega)
  exact⟨.tup [.sl h.next 0 xs.length (.grown 1),.bool t],_,_,_,rfl,f2,m2,⟨_,⟨_,_,rfl,⟨⟨g,0,c⟩,c,0,by simp [Inj.put],rfl,hle,.inl rfl,fun _ _=>by simp⟩,_,_,rfl,rfl,rfl⟩,rfl⟩,.tup [.sl σ.next 0 xs.length (.grown 1),.bool t],_,_,Z,r2,a2,⟨Nat.lt_succ_self _,trivial,trivial⟩,by simp [er,ers,putι],k1 _ (.inl rfl)⟩
end Go.Ab
namespace Go.Proofs
open Go.RowKit Go.Ab Go.Lie Go.Grp
variable {σ h:PHeap} {K:PV→PHeap→Prop} {b k r s0 i j n:Nat} {L L':Nat→Nat} {v vO vP vC c vX vL:PV} {x O xs:List Int} {P M:List (List Int)} {C:List (List (List Int))} {cs:List PV} {s:List UInt8}
def rdF (k:Int) (s:List UInt8):Option (List Int):=if s=[49]then some []else if s=[]then none else rwF k [] s
theorem zIM (k:Int) (w:World):Calls Tryz.prog 123 #[.int .i64 k,.string ⟨#[49]⟩] w fun e w'=>e=.returned (.tuple #[.slice none 0 0,.bool true])∧w'=w:=by
 go_enter Tryz.func123,Tryz.ntmps123
 go_wp2
 go_ret2
 exact⟨rfl,rfl⟩
theorem zCq {k:Int} (hk0:0≤k) (hk1:k≤1000) (hs:s.length≤1048576) (k0:rdF k s=none→∀v,FI v []→K (.tup [v,.bool false]) σ) (k1:∀v x,rdF k s=some x→FI v x→K (.tup [v,.bool true]) σ):zA Tryz.prog 123 [.int .i64 k,.str s] σ K:=by
 have fin:∀{t:Bool} {xs:List Int},(∀v,FI v xs→K (.tup [v,.bool t]) σ)→(xs=[]→Gh σ K (.tup [.fz true .nils 0 [],.bool t]) σ)∧∀cap,full 1 cap xs.length→Gh σ K (.tup [.sl σ.next 0 xs.length cap,.bool t]) (σ.new (pis xs)):=fun {t xs} hk=>by
  refine⟨fun h0=>?_,fun cap hc=>PSl.fin_tf (zD _ _) ⟨σ.next,cap,rfl,hc,by rw [zT,if_pos rfl],by rw [qi,Nat.mul_one],Nat.le_refl _,Nat.lt_succ_self _⟩ hk⟩
  exact Gh.ret (hk _ ⟨true,.nils,by rw [h0];rfl⟩)
 refine zA.gh (zA.quietI fun ι Z h r va B w0 j w cargs m vi=>?_)
 obtain⟨_,_,rfl,rfl,_,_,rfl,rfl,rfl⟩:=vi
 by_cases h1:s=[49]
 ·subst h1
  refine(zIM k w).mono ?_
  rintro e w' ⟨rfl,rfl⟩
  have f:=fin (t:=true) (xs:=[]) fun v hv=>k1 v [] (if_pos rfl) hv
  exact⟨⟨_,true,[],w'.heap.size,2,rfl,Nat.le_refl _,World.ownsRow_nil _ _ _ _,f.1,f.2⟩,Below.refl _ _⟩
 have e1:rdF k s=if s=[]then none else rwF k [] s:=if_neg h1
 refine(zIL k hk0 hk1 s hs w h1).mono ?_
 rintro e w' ⟨⟨v,t,xs,rfl,ho,q1,q2⟩,hb⟩
 refine⟨⟨v,t,xs,w.heap.size+1,2,rfl,Nat.le_succ _,ho,?_⟩,hb⟩;cases t
 ·obtain⟨hx0,q5⟩:=q2 rfl
  subst hx0;refine fin fun v hv=>k0 ?_ v hv
  rw [e1];rcases q5 with q|q
  ·rw [if_pos q]
  ·rw [q];split<;>rfl
 ·obtain⟨q3,q4⟩:=q1 rfl
  exact fin fun v hv=>k1 v xs (by rw [e1,if_neg q3];exact q4) hv
theorem zJd {k:Int}:∀(s:List UInt8) (acc:List Int) {xs:List Int},rwF k acc s=some xs→(∀x∈acc,-k≤x∧x≤k∧x≠0)→(∀x∈xs,-k≤x∧x≤k∧x≠0)∧xs.length=acc.length+s.length
 | [],acc,xs,e,ha=>by rw [rwF]at e;cases e;exact⟨ha,by simp⟩
 | c::r,acc,xs,e,ha=>by
  rw [rwF]at e
  split at e
  ·cases e
  ·next hn=>
   have:=zJd r _ e fun x hx=>by
    rcases List.mem_append.1 hx with hx|hx
    ·exact ha x hx
    ·rw [List.mem_singleton.1 hx];omega
   simp only [List.length_append,List.length_cons,List.length_nil]at this ⊢
   exact⟨this.1,by omega⟩
theorem zOa {k:Int} (e:rdF k s=some xs):(∀x∈xs,-k≤x∧x≤k∧x≠0)∧xs.length≤s.length:=by
 unfold rdF at e
 split at e
 ·cases e;exact⟨(fun x hx=>by cases hx),Nat.zero_le _⟩
 ·split at e
  ·cases e
  ·have:=zJd s [] e fun x hx=>by cases hx
   exact⟨this.1,by rw [this.2];simp⟩
def exF (n:Nat) (s:List UInt8):Option (List Int):=match rdF n s with | none=>none | some xs=>vcF (List.replicate n 0) xs
theorem zJU {n:Nat} {ok:Bool} (hn:n≤6) (hx:∀a∈x,-(n:Int)≤a∧a≤(n:Int)∧a≠0) (hl:x.length≤1048576)
  (hk0:vcF (List.replicate n 0) x=none→∀h,Keep σ h→K (.tup [.fz true .nils 0 [],.bool false]) h) (hk1:∀ys,vcF (List.replicate n 0) x=some ys→ys.length=n→K (.tup [.sl σ.next 0 n (.known n),.bool ok]) (σ.new (pis ys)))
  (hw:zA Tryz.prog 123 [.int .i64 n,.str s] σ fun v h=>(∃u,FI u x∧v=.tup [u,.bool ok])∧h=σ):zA Tryz.prog 96 [.int .i64 n,.str s] σ K:=by
 refine zS mix Tryz.func96 ?_;simp only [pwA,seval,-iQ0];refine hw.mono ?_
 rintro _ g ⟨⟨_,⟨w,a,rfl⟩,rfl⟩,hg⟩
 obtain rfl:=hg.symm;simp only [pwA,seval,-iQ0,Qi,mk8 (n:=n) (by omega),Go.Ab.mkL (n:=n) (by omega)]
 refine zB (fun m vs h=>∃(i:Nat) (ys:List Int),i≤x.length∧m=x.length-i∧vs=[.bool ok,.sl σ.next 0 n (.known n),.fz w a x.length (pis x),.int .i64 x.length,.int .i64 i]∧ys.length=n∧(∀y∈ys,0≤y∧y≤(i:Int))∧vcF ys (x.drop i)=vcF (List.replicate n 0) x∧h=σ.new (pis ys)) x.length ?_ ?_
 ·exact⟨0,List.replicate n 0,Nat.zero_le _,rfl,rfl,by simp,fun y hy=>by rw [(List.mem_replicate.1 hy).2];exact⟨Int.le_refl _,Int.le_refl _⟩,rfl,rfl⟩
 rintro m vs h ⟨i,ys,hi,rfl,rfl,hyl,hy,eL,rfl⟩
 simp only [pwA,seval,-iQ0];refine iteI (fun hlt=>?_) fun hge=>?_
 rotate_left
 ·rw [List.drop_of_length_le (by omega),vcF]at eL
  exact hk1 ys eL.symm hyl
 have hlt':(i:Int)<(x.length:Int):=by omega
 rw [drop_at hlt,vcF]at eL
 have gx:(pis x)[i]? = some (.int .i64 x[i]):=by rw [qM,gi hlt];rfl
 have xb:=hx _ (List.getElem_mem hlt);have wi:=wrapS hlt (by omega:x.length≤4611686018427387904)
 simp only [pwA,seval,-iQ0,hlt,hlt',gx];refine iteI (fun hneg=>?_) fun hpos=>?_
 ·rw [if_pos hneg]at eL
  exact hk0 eL.symm _ (zD _ _)
 obtain⟨j,hj⟩:∃j:Nat,x[i]=(j:Int)+1:=⟨(x[i] - 1).toNat,by omega⟩
 rw [if_neg hpos]at eL
 have hjn:j<n:=by omega
 have hjn':(j:Int)<(n:Int):=by omega
 have hjy:j<ys.length:=by omega
 rw [hj]at gx
 have w1:IntKind.i64.wrap ((j:Int)+1-1)=(j:Int):=by rw [wrap64 (by omega) (by omega)];omega
 have yb:=hy _ (List.getElem_mem hjy);have w2:IntKind.i64.wrap (ys[j] + 1)=ys[j] + 1:=wrap64 (by omega) (by omega)
 have gy:(pis ys)[j]? = some (.int .i64 ys[j]):=by rw [qM,gi hjy];rfl
 have wr:(σ.new (pis ys)).wr σ.next j [.int .i64 (ys[j] + 1)]=some ((σ.new (pis ys)).set σ.next (pis (ys.set j (ys[j] + 1)))):=zJT (by rw [zT,if_pos rfl]) hjy
 have e2:(σ.new (pis ys)).set σ.next (pis (ys.set j (ys[j] + 1)))=σ.new (pis (ys.set j (ys[j] + 1))):=by
  unfold PHeap.set PHeap.new
  congr 1
  funext q
  by_cases e:q=σ.next<;>simp [e]
 have rd:(σ.new (pis ys)).rd1 σ.next j=some (.int .i64 ys[j]):=by rw [qF (by rw [zT,if_pos rfl])];exact gy
 rw [e2]at wr
 have hjt:(x[i] - 1).toNat=j:=by omega
 have hyd:ys.getD j 0=ys[j]:=by rw [List.getD_eq_getElem?_getD,List.getElem?_eq_getElem hjy];rfl
 rw [hjt,hyd]at eL
 generalize hG:σ.new (pis ys)=G at *
 simp only [pwA,seval,-iQ0,hlt,hlt',gx,hj,w1,hjn,hjn',rd,w2,wr,wi];refine⟨_,by omega,i+1,ys.set j (ys[j] + 1),by omega,rfl,rfl,by rw [List.length_set];exact hyl,fun y hy'=>?_,eL,rfl⟩
 rcases List.mem_or_eq_of_mem_set hy' with hy' | rfl
 ·have:=hy y hy';omega
 ·omega
theorem zBK {n:Nat} (hn:n≤6) (hs:s.length≤1048576) (k0:exF n s=none→∀v h,Keep σ h→v.one=true→K (.tup [v,.bool false]) h) (k1:∀ys,exF n s=some ys→ys.length=n→K (.tup [.sl σ.next 0 n (.known n),.bool true]) (σ.new (pis ys))):zA Tryz.prog 96 [.int .i64 n,.str s] σ K:=by
 cases hr:rdF n s with
 | none=>
  have e:exF n s=none:=by unfold exF;rw [hr]
  refine zJU (x:=[]) (ok:=false) hn (fun a ha=>by cases ha) (Nat.zero_le _) (fun _ h kk=>k0 e _ h kk rfl) (fun ys hy hl=>k0 e _ _ (zD _ _) rfl) ?_
  exact zCq (by omega) (by omega) hs (fun _ v hv=>⟨⟨v,hv,rfl⟩,rfl⟩) fun v x e' _=>by rw [hr]at e';cases e'
 | some xs=>
  have e:exF n s=vcF (List.replicate n 0) xs:=by unfold exF;rw [hr]
  have hb:=zOa hr;refine zJU (x:=xs) (ok:=true) hn hb.1 (by omega) (fun e' h kk=>k0 (e.trans e') _ h kk rfl) (fun ys hy hl=>k1 ys (e.trans hy) hl) ?_
  exact zCq (by omega) (by omega) hs (fun e' v hv=>by rw [hr]at e';cases e') fun v x e' hv=>by rw [hr]at e';cases e';exact⟨⟨v,hv,rfl⟩,rfl⟩
def geF (n:Nat) (s:List UInt8):Option Nat:=match s with | [c]=>if 97≤c.toNat∧c.toNat-97<n then some (c.toNat-97)else none | _=>none
theorem zCC {n i:Nat} (e:geF n s=some i):i<n:=by
 unfold geF at e
 split at e
 ·split at e
  ·next h=>cases e;exact h.2
  ·cases e
 ·cases e
theorem ZV {n:Nat} (hn:n≤1000) (hs:s.length≤1048576) (k0:geF n s=none→K (.tup [.int .i64 0,.bool false]) σ) (k1:∀i:Nat,geF n s=some i→K (.tup [.int .i64 i,.bool true]) σ):zA Tryz.prog 97 [.int .i64 n,.str s] σ K:=by
 refine zS mix Tryz.func97 ?_
 by_cases h1:s.length=1
 rotate_left
 ·have d1:¬((s.length:Nat):Int)=1:=by omega
  simp only [pwA,seval,-iQ0,d1];refine k0 ?_;unfold geF
  split
  ·next c=>exact absurd rfl h1
  ·rfl
 obtain⟨c,rfl⟩:∃c,s=[c]:=List.length_eq_one_iff.1 h1
 have d0:((1:Nat):Int)=1:=rfl;have eg:geF n [c]=if 97≤c.toNat∧c.toNat-97<n then some (c.toNat-97)else none:=rfl
 have cb:=c.toNat_lt;have g0:[c][(0:Int).toNat]? = some c:=rfl
 by_cases h2:c.toNat<97
 ·have d2:((c.toNat:Nat):Int)<97:=by omega
  simp only [pwA,seval,-iQ0,d0,g0,d2,Int.toNat_zero,List.getElem?_cons_zero];exact k0 (by rw [eg,if_neg (by omega)])
 have d2:¬((c.toNat:Nat):Int)<97:=by omega
 have w1:IntKind.u8.wrap ((c.toNat:Int)-97)=((c.toNat-97:Nat):Int):=by rw [zAQ (by omega) (by omega)];omega
 have w2:IntKind.i64.wrap ((c.toNat-97:Nat):Int)=((c.toNat-97:Nat):Int):=wrap64 (by omega) (by omega)
 by_cases h3:n≤c.toNat-97
 ·have d3:(n:Int)≤((c.toNat-97:Nat):Int):=by omega
  simp only [pwA,seval,-iQ0,d0,g0,d2,w1,w2,d3,h3,Int.toNat_zero,List.getElem?_cons_zero];exact k0 (by rw [eg,if_neg (by omega)])
 have d3:¬(n:Int)≤((c.toNat-97:Nat):Int):=by omega
 simp only [pwA,seval,-iQ0,d0,g0,d2,w1,w2,d3,h3,Int.toNat_zero,List.getElem?_cons_zero];exact k1 _ (by rw [eg,if_pos ⟨by omega,by omega⟩])
end Go.Proofs
namespace Go.Grp
end Go.Grp
namespace Go.Proofs
open Go.Ab Go.Lie Go.Grp
variable {σ σ0 h h':PHeap} {K:PV→PHeap→Prop} {b s t n k r s0 i j:Nat} {L L':Nat→Nat} {v vO vP vC c vX vL:PV} {x O:List Int} {P M:List (List Int)} {C:List (List (List Int))} {cs:List PV}
theorem zMu {s off l:Nat} {cap:Cap} {xs:List Int} (hr:σ.rd s off l=some (pis xs)) (hs:s<σ.next) (hl:l=xs.length) (hb:xs.length≤1000000) (hk:∀cap,full 1 cap xs.length→K (.sl σ.next 0 xs.length cap) (σ.new (pis xs))):zA Tryz.prog 63 [.sl s off l cap] σ K:=by
 subst hl;refine zA.gh ?_;refine zS mix Tryz.func63 ?_;simp only [pwA,seval,-iQ0];refine PSl.app (b:=0) (bytes:=8) (σb:=σ) (n:=0) (cs:=[]) (m:=xs.length) (news:=pis xs) (zD σ _) (Nat.zero_le _) (PSl.new _ 1 rfl (Nat.le_refl _)) rfl (fun h0=>?_) (by rw [qi];omega) (by omega) (by omega) fun v' h' hk' ha=>?_
 ·rw [Qr,if_neg h0,if_pos (Nat.le_refl _),Nat.mul_one]
  rw [zBF,if_neg (by omega)]
  exact hr
 ·simp only [pwA,seval,-iQ0]at ha ⊢
  exact ha.out hk' (Zy _ _) hk
def CloR (g g':PHeap) (O:List Int) (v:PV):Prop:=Keep g g'∧((O=[]∧v=.fz true .nils 0 [])∨∃cap,full 1 cap O.length∧v=.sl g.next 0 O.length cap∧g'.obj g.next=some (pis O)∧g.next<g'.next)
set_option maxHeartbeats 1600000 in
theorem Qp (hlen:pLen vX=some (.int .i64 O.length)) (hb:O.length≤900)
  (hcl:∀{g:PHeap} {K':PV→PHeap→Prop},Keep σ g→(∀v g',CloR g g' O v→K' v g')→zA Tryz.prog 63 [vX] g K')
  (hk:∀L h vO vP vC,Keep σ h→PX L σ.next h O (trP O.length O.length) (trC O.length O.length) vO vP vC→K (.agg [vO,vP,vC]) h):zA Tryz.prog 94 [vX] σ K:=by
 refine zS mix Tryz.func94 ?_;simp only [pwA,seval,-iQ0,hlen];refine hcl (zD _ _) fun vO H hO=>?_
 have kH:=hO.1;have hHn:=kH.next;have hHn':σ.next+1≤H.next:=hHn;have o1:vO.one=true:=by rcases hO.2 with ⟨_,rfl⟩ | ⟨_,_,rfl,_⟩<;>rfl
 have o2:vO.cells=[vO]:=by rcases hO.2 with ⟨_,rfl⟩ | ⟨_,_,rfl,_⟩<;>rfl
 have ob0:H.obj σ.next=some [.fz true .nils 0 [],.fz true .nils 0 [],.fz true .nils 0 []]:=by rw [kH.obj σ.next (Nat.lt_succ_self _),zT,if_pos rfl]
 simp only [pwA,seval,-iQ0,o1,o2];generalize hn:O.length=n at *
 refine zB (fun m vs h=>∃(i:Nat) (L:Nat→Nat) (vP vC:PV),i≤n∧m=n-i∧vs=[.ptr σ.next 0,.int .i64 n,.ptr H.next 0,.int .i64 n,.int .i64 i]∧TvX σ h O L (trP n i) (trC n i) σ.next H.next vO vP vC) n ?_ ?_
 ·obtain⟨L0,hL0⟩:∃L0:Nat→Nat,L0=fun t=>if t=σ.next+1∧t<H.next then 5 else 7:=⟨_,rfl⟩
  refine⟨0,L0,_,_,Nat.zero_le _,rfl,rfl,(((zD _ _).trans kH).new _),by rw [zT,if_neg (by omega)];exact ob0,by simp only [pwA,seval,-iQ0],⟨?_,.inl ⟨rfl,rfl⟩,.inl ⟨rfl,rfl⟩⟩,by rw [hL0];exact if_neg (by omega),by rw [hL0];exact if_neg (by omega),by omega,⟨Nat.le_refl _,by show σ.next<H.next+1;omega⟩,⟨by omega,by show H.next<H.next+1;omega⟩⟩
  rcases hO.2 with e|⟨cap,hc,e,q1,q2⟩
  ·exact .inl e
  ·have q2':σ.next+1<H.next:=q2
   exact .inr ⟨σ.next+1,cap,e,hc,by rw [zT,if_neg (by omega)];exact q1,by omega,by show σ.next+1<H.next+1;omega,by rw [hL0];exact if_pos ⟨rfl,q2'⟩⟩
 rintro m vs h ⟨i,L,vP,vC,hi,rfl,rfl,a⟩
 have hnn:=a.ns.2;simp only [pwA,seval,-iQ0];refine iteI (fun hlt=>?_) fun hge=>?_
 rotate_left
 ·have e:i=n:=by omega
  subst e;obtain⟨e1,e2,e3,e4⟩:=a.fin;simp only [pwA,seval,-iQ0,a.r3,e1,e2];exact hk L _ _ _ vC e3 e4
 have n1:¬H.next=h.next:=by omega
 have n2:¬H.next=h.next+1:=by omega
 simp only [pwA,seval,-iQ0,a.r1,n1,n2,Qi,mk8 (n:=n) (by omega),Go.Ab.mkL (n:=n) (by omega)]
 have a1:=a.fresh (pis (List.replicate n 0)) 8;have hrow:RowX (mkM L h.next 8) (h.new (pis (List.replicate n 0))) σ.next 8 (List.replicate n 0) (.sl h.next 0 n (.known n)):=RowX.freshN (by simp) (by omega) (by simp [full])
 refine PX.pushP a1.pw hrow a1.keep (Nat.le_refl _) (by show σ.next≤h.next+1;omega) (by rw [zEK];omega) fun v1 h1 L1 k1 p1 l1 o1' m1=>?_
 rw [zFT]at p1
 have hs1:=a1.old m1;have w1:h1.wr H.next 1 [v1]=some (h1.set H.next [vO,v1,vC]):=by rw [qg hs1,if_pos ⟨by simp,by simp [p1.hP.one]⟩];rfl
 have a2:=a1.step k1 p1 (Nat.le_of_lt l1) m1;have l1':h.next+1<h1.next:=l1;have wi:IntKind.i64.wrap ((i:Int)+1)=((i+1:Nat):Int):=by rw [wrap64 (by omega) (by omega)];omega
 simp only [pwA,seval,-iQ0,w1,p1.hP.cells,wi];generalize hg2:h1.set H.next [vO,v1,vC]=g2 at *
 have hb2:H.next<g2.next:=by rw [←hg2];show _<h1.next;omega
 clear hs1 w1 m1 p1 k1 hrow a1 a o1';refine zB (fun m vs h=>∃(j:Nat) (L:Nat→Nat) (vR:PV),i+1≤j∧j≤n∧m=n-j∧vs=[.ptr σ.next 0,.int .i64 n,.ptr H.next 0,vR,.int .i64 j,.int .i64 n,.int .i64 i]∧TvX σ h O L (trP n (i+1)) (trC n i) σ.next H.next vO v1 vC∧MXN L h σ.next (10+i) (trJ n i (j-(i+1))) vR) (n-(i+1)) ?_ ?_
 ·exact⟨i+1,_,_,Nat.le_refl _,hlt,rfl,rfl,a2,.inl ⟨by rw [Nat.sub_self];rfl,rfl⟩⟩
 clear a2 hg2 l1 l1'
 rintro m vs h ⟨j,L,vR,hij,hj,rfl,rfl,a,mR⟩
 have hnn:=a.ns.2;have n1:¬H.next=h.next:=by omega
 simp only [pwA,seval,-iQ0];refine iteI (fun hjt=>?_) fun hge=>?_
 rotate_left
 ·have e:j=n:=by omega
  subst e;simp only [pwA,seval,-iQ0,a.r2,mR.one,mR.cells];refine PX.pushC a.pw (by rw [Qf];exact mR) a.keep (Nat.le_refl _) (by omega) (by rw [Qf];omega) fun v2 h2 L2 k2 p2 l2 o2' m2=>?_
  rw [show j-(i+1)=j-1-i by omega,zFV]at p2
  have w2:h2.wr H.next 2 [v2]=some (h2.set H.next [vO,v1,v2]):=by rw [qg (a.old m2),if_pos ⟨by simp,by simp [p2.hC.one]⟩];rfl
  have a2:=a.step k2 p2 (Nat.le_of_lt l2) m2;simp only [pwA,seval,-iQ0,w2,p2.hC.cells,wi];exact⟨_,by omega,i+1,L2,v1,v2,by omega,rfl,rfl,a2⟩
 simp only [pwA,seval,-iQ0];refine zBj (by omega) hjt fun cap2 hc2=>?_
 have a1:=a.fresh (pis (unitL n j)) 8;have hrow:RowX (mkM L h.next 8) (h.new (pis (unitL n j))) σ.next 8 (unitL n j) (.sl h.next 0 n cap2):=RowX.freshN (Zl n j) (by omega) hc2
 simp only [pwA,seval,-iQ0];refine MXN.push (k:=10+i) (mR.keepF _ 8) (by omega) hrow a1.keep (Nat.le_refl _) (by show σ.next≤h.next+1;omega) (by rw [zEL];omega) fun v2 h2 L2 k2 p2 l2 hL2 ho2 _=>?_
 have e:unitL n j=unitL n (i+1+(j-(i+1))):=by rw [show i+1+(j-(i+1))=j by omega]
 rw [e,zFU]at p2
 have wj:IntKind.i64.wrap ((j:Int)+1)=((j+1:Nat):Int):=by rw [wrap64 (by omega) (by omega)];omega
 simp only [pwA,seval,-iQ0,wj];refine⟨_,by omega,j+1,L2,v2,by omega,by omega,rfl,rfl,a1.keepM k2 (Nat.le_of_lt l2) (i:=i) ho2 hL2 (by rw [Qf];exact Nat.le_refl _),?_⟩
 rw [show j+1-(i+1)=j-(i+1)+1 by omega];exact .inr p2
end Go.Proofs
namespace Go.Grp
end Go.Grp
namespace Go.Proofs
open Go.Ab Go.Lie Go.Grp
variable {σ σ0 h h':PHeap} {K:PV→PHeap→Prop} {b t k r s0 i j:Nat} {L L':Nat→Nat} {v vO vP vC c vX vL:PV} {x O:List Int} {P M:List (List Int)} {C:List (List (List Int))} {cs:List PV} {s:List UInt8}
theorem zH6 {g:PHeap} (hv:PAcc b 1 h v O.length (pis O)) (hl:O.length≤1000000) (kg:Keep h g) (k':∀v g',CloR g g' O v→K v g'):zA Tryz.prog 63 [v] g K:=by
 have fin:∀cap,full 1 cap O.length→K (.sl g.next 0 O.length cap) (g.new (pis O)):=fun cap hc=>k' _ _ ⟨zD _ _,.inr ⟨cap,hc,rfl,by rw [zT,if_pos rfl],Nat.lt_succ_self _⟩⟩
 rcases hv with ⟨rfl,h0,_⟩|⟨so,cap,rfl,hc,q1,q2,q3,q4⟩
 ·have e:O=[]:=List.eq_nil_of_length_eq_zero h0
  subst e;exact zMv (xs:=[]) rfl (by simp) ⟨fun _=>k' _ _ ⟨Keep.refl _,.inl ⟨rfl,rfl⟩⟩,fin⟩
 ·have:=kg.next
  exact zMu (by rw [Z9 (by rw [kg.obj _ q4];exact q1),List.drop_zero,if_pos (by rw [qi];omega),List.take_of_length_le (by rw [qi];exact Nat.le_refl _)]) (by omega) rfl hl fin
theorem PAcc.pLen1 (hv:PAcc b 1 h v t cs):pLen v=some (.int .i64 t):=by
 rcases hv with ⟨rfl,rfl,_⟩|⟨so,cap,rfl,_⟩<;>rfl
mutual
theorem zHh {b':Nat} (hb:b'≤b):∀{t:TR},t.ok h b→t.ok h b'
 | .leaf v,a=>a
 | .nil,_=>trivial
 | .lst s cap kids,a=>⟨⟨a.1.1,a.1.2.1,Nat.le_trans hb a.1.2.2.1,a.1.2.2.2⟩,zBO hb a.2⟩
 | .cut s off l cap kids,a=>a.elim
 | .agg kids,a=>zBO (ts:=kids) hb a
 | .tup kids,a=>zBO (ts:=kids) hb a
theorem zBO {b':Nat} (hb:b'≤b):∀{ts:List TR},TR.oks h b ts→TR.oks h b' ts
 | [],_=>trivial
 | t::ts,a=>⟨zHh hb a.1,zBO hb a.2⟩
end
theorem PX.finO2b {e:Bool} (a:PX L b h O P C vO vP vC) (hk:Keep σ h) (hb:σ.next≤b) (k:∀wO wP wC t,IsPr wO wP wC O P C→Owns σ.top t [wO,wP,wC]→σ.top≤t→K (.tup [.agg [wO,wP,wC],.bool e]) (σ.up t)):Gh σ K (.tup [.agg [vO,vP,vC],.bool e]) h:=by
 obtain⟨t1,t2,t3,h1,rfl,rfl,rfl,h3,h4⟩:=a.treeN;have et:(TR.tup [TR.agg [t1,t2,t3],.leaf (.bool e)]).pv=.tup [.agg [t1.pv,t2.pv,t3.pv],.bool e]:=by simp only [TR.pv,TR.pvs]
 rw [←et];refine Gh.treeO hk (zHh hb (t:=TR.tup [TR.agg [t1,t2,t3],.leaf (.bool e)]) ⟨h1,trivial,trivial⟩) ?_ fun aa T ho hT=>?_
 ·simpa only [TR.slots,TR.slotss,List.append_nil]using h4
 ·simp only [TR.fz,TR.fzs]at ho ⊢
  refine k _ _ _ T (h3 aa) ⟨ho.wh.1,?_,fun o q=>ho.lt o ?_⟩ hT
  ·have:=ho.nd
   simp only [ead,eads,List.append_nil]at this ⊢
   exact this
  ·simp only [ead,eads,List.append_nil]at q ⊢
   exact q
def ordI:List Int→List (List UInt8)→Option (List Int)
 | acc,[]=>some acc
 | acc,q::r=>match Lib.parseIntB 64 q with | .ok v=>ordI (acc++[v]) r | _=>none
def orI (p0:List UInt8):Option (List Int):=if p0=[49]then some []else ordI [] (splL [32] p0)
def relK (n:Nat) (P:List (List Int)) (C:List (List (List Int))) (v:List Int) (j:Nat) (i:Option Nat):List (List Int)×List (List (List Int)):=
 match i with
 | none=>(P.set j v,C)
 | some i=>if i<j then(P,C.set i ((C.getD i []).set (j-i-1) v))else(P,C)
def relP (n:Nat) (P:List (List Int)) (C:List (List (List Int))) (s:List UInt8):Option (List (List Int)×List (List (List Int))):=
 match exF n (Lib.cut s [61]).2.1 with
 | none=>none
 | some v=>match geF n (Lib.cut (Lib.cut s [61]).1 [94]).1 with
  | none=>none
  | some j=>some (relK n P C v j (geF n (Lib.cut (Lib.cut s [61]).1 [94]).2.1))
def foldI (n:Nat):List (List Int)×List (List (List Int))→List (List UInt8)→Option (List (List Int)×List (List (List Int)))
 | pc,[]=>some pc
 | pc,s::r=>match relP n pc.1 pc.2 s with | none=>none | some pc'=>foldI n pc' r
def lpJ (O:List Int) (r:List (List UInt8)):Option (List Int×List (List Int)×List (List (List Int))):=
 if 6<O.length then none else match foldI O.length (trP O.length O.length,trC O.length O.length) r with | none=>none | some pc=>some (O,pc.1,pc.2)
def lpH (O:Option (List Int)) (r:List (List UInt8)):Option (List Int×List (List Int)×List (List (List Int))):=match O with | none=>none | some O=>lpJ O r
def lpI (s:List UInt8):Option (List Int×List (List Int)×List (List (List Int))):=lpH (orI ((splL [59,32] s).getD 0 [])) ((splL [59,32] s).drop 1)
theorem Sq.sz (q:Sq O P C) (hO:O.length≤6):SzP O P C:=by
 refine⟨by omega,⟨by rw [q.pl];omega,fun r hr=>by have:=q.pq r hr;omega⟩,⟨by rw [q.cl];omega,fun w hw=>⟨?_,fun r hr=>by have:=q.cq w hw r hr;omega⟩⟩⟩
 obtain⟨i,hi,rfl⟩:=List.mem_iff_getElem.1 hw
 have:=q.row i (by rw [←q.cl];exact hi)
 rw [List.getD_eq_getElem?_getD,List.getElem?_eq_getElem hi]at this
 have e:C[i].length=O.length-1-i:=this;omega
def relQ (n:Nat) (P:List (List Int)) (C:List (List (List Int))) (v:Option (List Int)) (j i:Option Nat):Option (List (List Int)×List (List (List Int))):=
 match v with
 | none=>none
 | some v=>match j with
  | none=>none
  | some j=>some (relK n P C v j i)
theorem zNF (n:Nat) (P:List (List Int)) (C:List (List (List Int))) (s:List UInt8):relP n P C s=relQ n P C (exF n (Lib.cut s [61]).2.1) (geF n (Lib.cut (Lib.cut s [61]).1 [94]).1) (geF n (Lib.cut (Lib.cut s [61]).1 [94]).2.1):=rfl
theorem zEA (s p:List UInt8):(Lib.cut s p).1.length≤s.length∧(Lib.cut s p).2.1.length≤s.length:=by
 unfold Lib.cut
 split
 ·simp only [List.length_take,List.length_drop];omega
 ·exact⟨Nat.le_refl _,Nat.zero_le _⟩
set_option maxHeartbeats 3200000 in
theorem zBw (hs:s.length≤1048576) (hne:(splL [59,32] s).getD 0 []≠[49]) (hk0:(∀O P C,lpI s=some (O,P,C)→zK O P C→prT O P C≠s)→K (.tup [.agg [.fz true .nils 0 [],.fz true .nils 0 [],.fz true .nils 0 []],.bool false]) σ)
  (hk1:∀wO wP wC O P C t,lpI s=some (O,P,C)→zK O P C→prT O P C=s→IsPr wO wP wC O P C→Owns σ.top t [wO,wP,wC]→σ.top≤t→K (.tup [.agg [wO,wP,wC],.bool true]) (σ.up t)):zA Tryz.prog 61 [.str s] σ K:=by
 have fin0:∀{g:PHeap},Keep σ g→g.obj σ.next=some [.fz true .nils 0 [],.fz true .nils 0 [],.fz true .nils 0 []]→(∀O P C,lpI s=some (O,P,C)→zK O P C→prT O P C≠s)→
   g.wr σ.next 0 [.fz true .nils 0 [],.fz true .nils 0 [],.fz true .nils 0 []]=some (g.set σ.next [.fz true .nils 0 [],.fz true .nils 0 [],.fz true .nils 0 []])∧(g.set σ.next [.fz true .nils 0 [],.fz true .nils 0 [],.fz true .nils 0 []]).rd σ.next 0 3=some [.fz true .nils 0 [],.fz true .nils 0 [],.fz true .nils 0 []]∧
   Gh σ K (.tup [.agg [.fz true .nils 0 [],.fz true .nils 0 [],.fz true .nils 0 []],.bool false]) (g.set σ.next [.fz true .nils 0 [],.fz true .nils 0 [],.fz true .nils 0 []]):=fun {g} kg ho e=>
  ⟨by rw [qg ho,if_pos ⟨by simp,rfl⟩];rfl,by rw [ZG,if_pos rfl];rfl,Gh.fin0 (kg.set (Nat.le_refl _) _) ⟨⟨trivial,trivial,trivial,trivial⟩,trivial,trivial⟩ (hk0 e)⟩
 have no:∀{A:Prop},lpI s=none→∀O P C,lpI s=some (O,P,C)→zK O P C→prT O P C≠s:=fun {_} e O P C e'=>by rw [e]at e';cases e'
 refine zA.gh ?_;refine zt mix Tryz.func61 cf61 rfl ?_;dsimp only [if61,qI,eI,mI0,kI0,tI0,lI0,LI0,fI0,xI0,bI0,cI0,nI0,sI0,eI0,C1,C2,I0,G0,gm0,oI0,zI0,yI0,vI0,R0,S0];simp only [pwA,seval,-iQ0];refine zAk (sep:=[59,32]) hs (by decide) ?_
 have eS:lpI s=lpH (orI ((splL [59,32] s).getD 0 [])) ((splL [59,32] s).drop 1):=rfl;have sl:=Qg (s:=s) (sep:=[59,32]) (by decide)
 have hll:=Qq (s:=s) (sep:=[59,32]);have sl1:1≤(splL [59,32] s).length:=by rw [sl.1];omega
 have sl2:=sl.2;clear sl;generalize splL [59,32] s=l at *
 have z0:(0:Int)<(l.length:Int):=by omega
 have z0':0<l.length:=by omega
 rw [show l.getD 0 []=l[0] by rw [List.getD_eq_getElem?_getD,List.getElem?_eq_getElem z0'];rfl]at eS hne
 have hpo:((σ.new [.fz true .nils 0 [],.fz true .nils 0 [],.fz true .nils 0 []]).new (pst l)).obj (σ.next+1)=some (pst l):=by simp only [pwA,seval,-iQ0]
 have hr0:((σ.new [.fz true .nils 0 [],.fz true .nils 0 [],.fz true .nils 0 []]).new (pst l)).obj σ.next=some [.fz true .nils 0 [],.fz true .nils 0 [],.fz true .nils 0 []]:=by simp only [pwA,seval,-iQ0]
 have kk:Keep σ ((σ.new [.fz true .nils 0 [],.fz true .nils 0 [],.fz true .nils 0 []]).new (pst l)):=(zD _ _).new _;have hln:σ.next+1<((σ.new [.fz true .nils 0 [],.fz true .nils 0 [],.fz true .nils 0 []]).new (pst l)).next:=by show σ.next+1<σ.next+2;omega
 have hrd:((σ.new [.fz true .nils 0 [],.fz true .nils 0 [],.fz true .nils 0 []]).new (pst l)).rd1 (σ.next+1) 0=some (.str l[0]):=by rw [qF hpo];exact qw z0'
 rw [show(σ.new [.fz true .nils 0 [],.fz true .nils 0 [],.fz true .nils 0 []]).next=σ.next+1 from rfl]
 generalize (σ.new [.fz true .nils 0 [],.fz true .nils 0 [],.fz true .nils 0 []]).new (pst l)=h at *
 have h1:¬l[0]=[49]:=hne;have eS2:lpI s=lpH (ordI [] (splL [32] l[0])) (l.drop 1):=by rw [eS,orI,if_neg h1]
 clear eS;have hq0:l[0].length≤1048576:=by have:=hll _ (List.getElem_mem z0');omega
 have bne:(l[0] == [49])=false:=by simpa using h1
 simp only [pwA,seval,-iQ0,z0,z0',hrd,bne];refine zAk (sep:=[32]) hq0 (by decide) ?_
 have tl:=Qg (s:=l[0]) (sep:=[32]) (by decide)
 have tll:=Qq (s:=l[0]) (sep:=[32]);have tl2:=tl.2;clear tl;generalize splL [32] l[0]=ws at *
 have hpo2:(h.new (pst ws)).obj (σ.next+1)=some (pst l):=by rw [zT,if_neg (by omega)];exact hpo
 have hr2:(h.new (pst ws)).obj σ.next=some [.fz true .nils 0 [],.fz true .nils 0 [],.fz true .nils 0 []]:=by rw [zT,if_neg (by omega)];exact hr0
 have hw2:(h.new (pst ws)).obj h.next=some (pst ws):=by rw [zT,if_pos rfl]
 have kk2:Keep σ (h.new (pst ws)):=kk.new _;have hln2:σ.next+1<(h.new (pst ws)).next∧h.next<(h.new (pst ws)).next:=⟨by show _<h.next+1;omega,Nat.lt_succ_self _⟩
 generalize h.new (pst ws)=h0 at *
 simp only [pwA,seval,-iQ0];refine zB (fun m vs g=>∃(i:Nat) (v:PV) (O:List Int),i≤ws.length∧m=ws.length-i∧vs=[.str s,.ptr σ.next 0,.sl (σ.next+1) 0 l.length (.known l.length),v,.sl h.next 0 ws.length (.known ws.length),.int .i64 ws.length,.int .i64 i]∧O.length=i∧Keep h0 g∧PAcc h0.next 1 g v O.length (pis O)∧ordI O (ws.drop i)=ordI [] ws) ws.length ?_ ?_
 ·exact⟨0,_,[],Nat.zero_le _,rfl,rfl,rfl,Keep.refl _,PAcc.nil _ _ _,rfl⟩
 clear kk hpo hr0 hrd
 rintro m vs g ⟨i,v,O,hi,rfl,rfl,hOl,kg,hv,eL⟩
 have kk:Keep σ g:=kk2.trans kg;have hpo:g.obj (σ.next+1)=some (pst l):=by rw [kg.obj _ hln2.1];exact hpo2
 have hr0:g.obj σ.next=some [.fz true .nils 0 [],.fz true .nils 0 [],.fz true .nils 0 []]:=by rw [kg.obj _ (by omega)];exact hr2
 have hone:=hv.one;simp only [pwA,seval,-iQ0,hone];refine iteI (fun hlt=>?_) fun hge=>?_
 ·have hlt':(i:Int)<(ws.length:Int):=by omega
  have rq:g.rd1 h.next i=some (.str ws[i]):=by rw [qF (by rw [kg.obj _ hln2.2];exact hw2)];exact qw hlt
  have hqi:=tll _ (List.getElem_mem hlt);rw [drop_at hlt,ordI]at eL
  have wi:=wrapS hlt (by omega:ws.length≤4611686018427387904)
  simp only [pwA,seval,-iQ0,hlt,hlt',rq,hone];refine zA8 (by omega) (fun hp n=>?_) fun n hp=>?_
  ·obtain⟨f1,f2,f3⟩:=fin0 kk hr0 (no (A:=True) (by
    rw [eS2,←eL];cases hq:Lib.parseIntB 64 ws[i]with
    | ok v=>exact absurd hq (hp v)
    | «syntax»=>rfl
    | range=>rfl))
   simp only [pwA,seval,-iQ0,f1,f2];exact f3
  rw [hp]at eL
  simp only [pwA,seval,-iQ0,hone];refine PAcc.push (bytes:=8) kg hv (by omega) (by omega) fun v' g' k' a'=>?_
  have h1':=a'.one;simp only [pwA,seval,-iQ0,h1',wi];have e:pis (O++[n])=pis O++[.int .i64 n]:=by simp [pis]
  exact⟨_,by omega,i+1,v',O++[n],by omega,rfl,rfl,by rw [List.length_append,hOl];rfl,k',by rw [e,List.length_append];exact .inr a',eL⟩
 rw [List.drop_of_length_le (by omega),ordI]at eL
 rw [←eL]at eS2
 have eL2:lpI s=lpJ O (l.drop 1):=eS2;clear eS2 eL;have hng:=kg.next;have hln3:σ.next+1<g.next:=by omega
 have hv3:PAcc σ.next 1 g v O.length (pis O):=hv.low (by have:=kk2.next;omega)
 clear hln hone hv kg kk2 hpo2 hr2 hw2 hge;generalize hgg:g=h9 at *
 have hl:=PAcc.pLen1 hv3;have hon1:=hv3.one
 by_cases h6:6<O.length
 ·have d6:(6:Int)<(O.length:Int):=by omega
  obtain⟨f1,f2,f3⟩:=fin0 kk hr0 (no (A:=True) (by rw [eL2,lpJ,if_pos h6]))
  simp only [pwA,seval,-iQ0,hon1,hl,d6,f1,f2];exact f3
 have d6:¬(6:Int)<(O.length:Int):=by omega
 rw [lpJ,if_neg h6]at eL2
 have eF:∀pc,foldI O.length (trP O.length O.length,trC O.length O.length) (l.drop 1)=pc→lpI s=match pc with | none=>none | some pc=>some (O,pc.1,pc.2):=fun pc e=>by rw [eL2,e]
 clear eL2;simp only [pwA,seval,-iQ0,hon1,hl,d6];refine Qp hl (by omega) (fun {g K'} kg k'=>zH6 hv3 (by omega) kg k') fun L h2 vO vP vC k2 p2=>?_
 have hn2:=k2.next;have hq:=tr_sq O;have a:=TBX.start p2 (r:=σ.next) (by omega) (by rw [k2.obj _ (by omega)];exact hr0) k2.next
 have o1:=p2.hO.one;have o2:=p2.hP.one;have o3:=p2.hC.one;have b1:1≤l.length:=by omega
 have b1':(1:Int)≤(l.length:Int):=by omega
 have e1:((l.length:Int)-1).toNat=l.length-1:=by omega
 obtain⟨of,hof⟩:∃of,of=if l.length=1 then 0 else 1:=⟨_,rfl⟩
 have hof1:1<l.length→of=1:=fun h=>by rw [hof,if_neg (by omega)]
 simp only [pwA,seval,-iQ0,o1,o2,o3,b1,b1',←hof,Option.isNone_none,Option.isSome_none,Bool.false_eq_true,and_false,if_false,e1];clear hof;refine zB (fun m vs g=>∃(i:Nat) (L:Nat→Nat) (P:List (List Int)) (C:List (List (List Int))),i≤l.length-1∧m=l.length-1-i∧vs=[.str s,.ptr σ.next 0,.int .i64 O.length,.ptr h2.next 0,.sl (σ.next+1) of (l.length-1) (.known (l.length-1)),.int .i64 (l.length-1:Nat),.int .i64 i]∧Keep h9 g∧TBX h9.next g O L P C σ.next h2.next vO vP vC∧Sq O P C∧foldI O.length (P,C) (l.drop (i+1))=foldI O.length (trP O.length O.length,trC O.length O.length) (l.drop 1)) (l.length-1) ?_ ?_
 ·exact⟨0,_,_,_,Nat.zero_le _,rfl,rfl,k2.new _,a,hq,rfl⟩
 clear a p2 k2 hq
 rintro m vs g ⟨i,L,P,C,hi,rfl,rfl,kg,a,hq,eL⟩
 have kσ:Keep σ g:=kk.trans kg;have hng:=kg.next;have hpg:g.obj (σ.next+1)=some (pst l):=by rw [kg.obj _ hln3];exact hpo
 simp only [pwA,seval,-iQ0];refine iteI (fun hlt=>?_) fun hge=>?_
 ·have hlt':(i:Int)<((l.length-1:Nat):Int):=by omega
  have hli:i+1<l.length:=by omega
  have rq:g.rd1 (σ.next+1) (of+i)=some (.str l[i+1]):=by rw [qF hpg,hof1 (by omega),show 1+i=i+1 by omega];exact qw hli
  have hql:=hll _ (List.getElem_mem hli);rw [drop_at hli,foldI]at eL
  have wi:=wrapS hlt (by omega:l.length-1≤4611686018427387904)
  simp only [pwA,seval,-iQ0,hlt,hlt',rq];generalize l[i+1]=q at *
  refine zEJ (sep:=[61]) (by omega) ?_
  simp only [pwA,seval,-iQ0];have c1:=zEA q [61];have er:relP O.length P C q=relQ O.length P C (exF O.length (Lib.cut q [61]).2.1) (geF O.length (Lib.cut (Lib.cut q [61]).1 [94]).1) (geF O.length (Lib.cut (Lib.cut q [61]).1 [94]).2.1):=zNF _ _ _ _;refine zEJ (sep:=[94]) (by omega) ?_
  simp only [pwA,seval,-iQ0];have c2:=zEA (Lib.cut q [61]).1 [94];generalize (Lib.cut (Lib.cut q [61]).1 [94]).2.1=q3 at *
  generalize (Lib.cut (Lib.cut q [61]).1 [94]).1=q2 at *
  generalize (Lib.cut q [61]).2.1=q1 at *
  refine zBK (n:=O.length) (by omega) (by omega) (fun ee v h3 k3 v1=>?_) fun ys ee hys=>?_
  ·rw [ee]at er
   rw [er]at eL
   have eN:=eF none eL.symm;have a3:=a.keep k3;have kσ3:=kσ.trans k3;simp only [pwA,seval,-iQ0,v1];refine ZV (n:=O.length) (by omega) (by omega) (fun _=>?_) fun j _=>?_
   ·obtain⟨f1,f2,f3⟩:=fin0 kσ3 a3.res (no (A:=True) eN)
    simp only [pwA,seval,-iQ0,f1,f2];exact f3
   ·obtain⟨f1,f2,f3⟩:=fin0 kσ3 a3.res (no (A:=True) eN)
    simp only [pwA,seval,-iQ0,f1,f2];exact f3
  rw [ee]at er
  have a3:=a.fresh (pis ys) 8;have hrow:RowX (mkM L g.next 8) (g.new (pis ys)) h9.next 8 ys (.sl g.next 0 O.length (.known O.length)):=RowX.freshN hys hng (by simp [full])
  have kσ3:=kσ.new (pis ys);have kg3:=kg.new (pis ys);have hng3:g.next<(g.new (pis ys)).next:=Nat.lt_succ_self _;generalize hg3:g.new (pis ys)=g3 at *
  simp only [pwA,seval,-iQ0];refine ZV (n:=O.length) (by omega) (by omega) (fun eg=>?_) fun j eg=>?_
  ·rw [eg]at er
   rw [er]at eL
   have eN:=eF none eL.symm;obtain⟨f1,f2,f3⟩:=fin0 kσ3 a3.res (no (A:=True) eN);simp only [pwA,seval,-iQ0,f1,f2];exact f3
  rw [eg]at er
  have hj:=zCC eg;have hj':(j:Int)<(O.length:Int):=by omega
  simp only [pwA,seval,-iQ0];refine ZV (n:=O.length) (by omega) (by omega) (fun ei=>?_) fun i2 ei=>?_
  ·rw [ei]at er
   rw [er]at eL
   obtain⟨sP,cap,ds,L2,eP,w1,w2,w3,a4⟩:=a3.putP (by rw [hq.pl];exact hj) hrow
   rw [hq.pl]at eP
   subst eP;simp only [pwA,seval,-iQ0,a3.r1,hj,hj',w3,wi];exact⟨_,by omega,i+1,L2,_,_,by omega,rfl,rfl,kg3.set w1 _,a4,sq_P hq hys _,eL⟩
  rw [ei]at er
  have hi2:=zCC ei;have hi2':(i2:Int)<(O.length:Int):=by omega
  by_cases hij:i2<j
  ·have hij':(i2:Int)<(j:Int):=by omega
   rw [er,relQ,relK,if_pos hij]at eL
   have hjj:j-i2-1<O.length-1-i2:=by omega
   have hjj':((j-i2-1:Nat):Int)<((O.length-1-i2:Nat):Int):=by omega
   have wk:IntKind.i64.wrap ((j:Int)-(i2:Int))=(j:Int)-(i2:Int):=wrap64 (by omega) (by omega)
   have wk1:IntKind.i64.wrap ((j:Int)-(i2:Int)-1)=((j-i2-1:Nat):Int):=by rw [wrap64 (by omega) (by omega)];omega
   obtain⟨sC,cap,t,cap',ds,L2,eC,rC,w1,w2,w3,w4,w5,a4⟩:=a3.putC (by rw [hq.cl];exact hi2) (by rw [hq.row i2 hi2];exact hjj) hrow
   rw [hq.cl]at eC
   subst eC;rw [hq.row i2 hi2]at rC
   simp only [pwA,seval,-iQ0,hij',a3.r2,rC,hi2,hi2',hjj,hjj',wk,wk1,w5,wi];exact⟨_,by omega,i+1,L2,_,_,by omega,rfl,rfl,kg3.set w3 _,a4,sq_C hq hys _ _,eL⟩
  ·have hij':¬(i2:Int)<(j:Int):=by omega
   rw [er,relQ,relK,if_neg hij]at eL
   simp only [pwA,seval,-iQ0,hij',wi];exact⟨_,by omega,i+1,_,_,_,by omega,rfl,rfl,kg3,a3,hq,eL⟩
 have eF':lpI s=some (O,P,C):=eF (some (P,C)) (by rw [←eL,List.drop_of_length_le (by omega),foldI])
 have un:∀{O' P' C'},lpI s=some (O',P',C')→O'=O∧P'=P∧C'=C:=fun {O' P' C'} e=>by rw [eF']at e;cases e;exact⟨rfl,rfl,rfl⟩
 obtain⟨t1,t2,t3,hok,rfl,rfl,rfl,hpr,hnd⟩:=a.pw.treeN;simp only [pwA,seval,-iQ0,a.r3];refine zA.thawV (ts:=[t1,t2,t3]) hok fun aa=>Z7 (hpr aa) (hq.sz (by omega)) fun t ht=>⟨trivial,?_⟩
 cases t
 ·obtain⟨f1,f2,f3⟩:=fin0 kσ a.res (fun O' P' C' e hp=>by obtain⟨rfl,rfl,rfl⟩:=un e;exact absurd (ht.2 hp) (by decide))
  simp only [pwA,seval,-iQ0,f1,f2];exact f3
 simp only [pwA,seval,-iQ0];refine zA.thawP (ts:=[t1,t2,t3]) a.ob hok fun aa=>Zq (hpr aa) (ht.1 rfl) ⟨trivial,?_⟩
 by_cases hps:prT O P C=s
 ·obtain⟨f1,f2,f3⟩:=a.fin
  have hbe:(prT O P C == s)=true:=by rw [hps];simp
  simp only [pwA,seval,-iQ0,hbe,a.r3,f1,f2];exact f3.finO2b (kσ.set (Nat.le_refl _) _) (by omega) fun wO wP wC t h1 h2 h3=>hk1 wO wP wC O P C t eF' (ht.1 rfl) hps h1 h2 h3
 ·obtain⟨f1,f2,f3⟩:=fin0 kσ a.res (fun O' P' C' e hp=>by obtain⟨rfl,rfl,rfl⟩:=un e;exact hps)
  have hbe:(prT O P C == s)=false:=by simpa using hps
  simp only [pwA,seval,-iQ0,hbe,f1,f2];exact f3
end Go.Proofs
namespace Go.Grp
end Go.Grp
set_option linter.unusedSimpArgs false
set_option linter.unusedVariables false
set_option linter.unusedSectionVars false
namespace Go.Ab
variable {P:Program} {σ σ0 σ1:PHeap} {K:PV→PHeap→Prop} {a:Nat→Nat} {b lo hi:Nat}
theorem zA.thawS {f:FuncId} {s:Nat} {cs:List PV} {cs2:(Nat→Nat)→List PV} (hs:σ.obj s=some cs)
  (hA:∀{ι:Nat→Nat} {Z:Nat→Prop} {h:AHeap},Rel ι Z σ h→ers ι (cs2 ι)=ers ι cs)
  (hV:∀{ι:Nat→Nat} {Z Z2:Nat→Prop} {h:AHeap},Rel ι Z σ h→(∀o,Z o→Z2 o)→(∀t ds,t≠s→σ.obj t=some ds→Z2 (ι t))→VOKs Z2 h 0 (cs2 ι))
  (c:∀aa,zA P f [.ptr s 0] (σ.bare.set s (cs2 aa)) fun v σ'=>σ'=σ.bare.set s (cs2 aa)∧leafy v∧K v σ):zA P f [.ptr s 0] σ K:=by
 intro ι Z h r va;have hlt:=r.none_lt hs;obtain⟨Z2,hZ2⟩:∃Z2:Nat→Prop,Z2=fun o=>Z o∨∃t ds,t≠s∧σ.obj t=some ds∧o=ι t:=⟨_,rfl⟩
 have hz2:∀o,Z2 o↔(Z o∨∃t ds,t≠s∧σ.obj t=some ds∧o=ι t):=fun o=>by rw [hZ2]
 clear hZ2;have vv:VOKs Z2 h 0 (cs2 ι):=hV r (fun o ho=>(hz2 o).2 (.inl ho)) fun t ds ht hd=>(hz2 _).2 (.inr ⟨t,ds,ht,hd,rfl⟩)
 have hns:¬Z2 (ι s):=fun hq=>by
  rcases(hz2 _).1 hq with hq|⟨t,ds,ht,hd,e⟩
  ·exact(r.obj s _ hs).2.2 hq
  ·exact ht (r.inj t s ds cs hd hs e.symm)
 have conv:∀{t ds},(σ.bare.set s (cs2 ι)).obj t=some ds→t=s∧ds=cs2 ι:=fun {t ds} ht=>by
  simp only [PHeap.set,PHeap.bare]at ht
  split at ht
  ·exact⟨by assumption,(Option.some.inj ht).symm⟩
  ·cases ht
 have r2:Rel ι Z2 (σ.bare.set s (cs2 ι)) h:=by
  refine⟨r.hwf,fun o ho=>?_,r.top,fun t ht=>?_,fun t ds ht=>?_,fun t t' ds ds' ht ht' _=>(conv ht).1.trans (conv ht').1.symm⟩
  ·rcases(hz2 o).1 ho with ho | ⟨t,ds,_,ht,rfl⟩
   ·exact r.zlt o ho
   ·exact r.hwf.lt (r.obj t ds ht).1
  ·have ht':σ.next≤t:=ht
   simp only [PHeap.set,PHeap.bare];rw [if_neg (by omega)]
  ·obtain⟨rfl,rfl⟩:=conv ht
   exact⟨by rw [hA r];exact(r.obj t cs hs).1,vv.mono (fun o ho=>⟨ho,rfl⟩) (Nat.zero_le _),hns⟩
 have:=c ι ι Z2 h r2 ⟨hlt,trivial⟩
 refine this.mono ?_
 rintro v h' ⟨pv,σ',ι',Z',p1,p2,p3,rfl,rfl,hl,hk⟩
 have es:ι' s=ι s:=p2.inj s hlt;have hso:h'.obj (ι s)=h.obj (ι s):=by
  have q:=(p1.obj s (cs2 ι) (by simp [PHeap.set])).1
  rw [es,Zb (p1.obj s (cs2 ι) (by simp [PHeap.set]) |>.2.1.of_bel (n':=0) ?_ ),←Zb (ι:=ι) vv,hA r]at q
  ·rw [q];exact(r.obj s cs hs).1.symm
  ·exact VOKs.bel vv
 have ob:∀t ds,σ.obj t=some ds→h'.obj (ι t)=h.obj (ι t):=fun t ds ht=>by
  by_cases e:t=s
  ·rw [e];exact hso
  ·exact(p2.z _ ((hz2 _).2 (.inr ⟨t,ds,e,ht,rfl⟩))).2
 have hzz:∀o,Z o→Z o∧h'.obj o=h.obj o:=fun o ho=>⟨ho,(p2.z o ((hz2 o).2 (.inl ho))).2⟩
 exact⟨pv,σ,ι,Z,⟨p1.hwf,fun o ho=>Nat.lt_of_lt_of_le (r.zlt o ho) p2.hnext,Nat.le_trans r.top p2.hnext,r.wf,fun t ds ht=>⟨by rw [ob t ds ht];exact(r.obj t ds ht).1,(r.obj t ds ht).2.1.mono hzz (Nat.le_refl _),(r.obj t ds ht).2.2⟩,r.inj⟩,⟨Nat.le_refl _,p2.hnext,fun _ _=>rfl,hzz,fun _ _ h=>h,fun t ds ht hd=>absurd (r.none_lt hd) (by omega)⟩,zAt hl _,zBZ hl _ _,hk⟩
mutual
def TR.lab:TR→List (Nat ⊕ Nat)
 | .leaf v=>(ead v).map .inr
 | .nil=>[]
 | .lst s _ kids=>.inl s::TR.labs kids
 | .cut s _ _ _ kids=>.inl s::TR.labs kids
 | .agg kids=>TR.labs kids
 | .tup kids=>TR.labs kids
def TR.labs:List TR→List (Nat ⊕ Nat)
 | []=>[]
 | t::ts=>TR.lab t++TR.labs ts
end
mutual
def TR.whF:TR→Prop
 | .leaf v=>Wh v
 | .nil=>True
 | .lst _ _ kids=>TR.whFs kids
 | .cut _ _ _ _ _=>False
 | .agg kids=>TR.whFs kids
 | .tup kids=>TR.whFs kids
def TR.whFs:List TR→Prop
 | []=>True
 | t::ts=>TR.whF t∧TR.whFs ts
end
mutual
theorem TR.ead_subF:∀{t:TR},t.whF→(ead (t.fz a)).Sublist (t.lab.map (Sum.elim a id))∧Wh (t.fz a)
 | .leaf v,ht=>by
  refine⟨?_,ht⟩;simp only [TR.fz,TR.lab,List.map_map];rw [show(Sum.elim a id ∘ Sum.inr:Nat→Nat)=id from rfl,List.map_id]
  exact List.Sublist.refl _
 | .nil,_=>⟨List.Sublist.refl _,.inl rfl⟩
 | .lst s cap kids,ht=>by
  obtain⟨h1,h2⟩:=TR.eads_subF ht;simp only [TR.fz,TR.lab,List.map_cons,Sum.elim_inl]
  by_cases hn:TR.fzs a kids=[]
  ·rw [hn];exact⟨List.nil_sublist _,.inl rfl⟩
  ·rw [QB hn]
   exact⟨List.Sublist.cons_cons _ h1,.inr ⟨rfl,rfl,h2⟩⟩
 | .cut _ _ _ _ _,ht=>ht.elim
 | .agg kids,ht=>TR.eads_subF (ts:=kids) ht
 | .tup kids,ht=>TR.eads_subF (ts:=kids) ht
theorem TR.eads_subF:∀{ts:List TR},TR.whFs ts→(eads (TR.fzs a ts)).Sublist ((TR.labs ts).map (Sum.elim a id))∧Whs (TR.fzs a ts)
 | [],_=>⟨List.Sublist.refl _,trivial⟩
 | t::ts,ht=>by
  obtain⟨h1,h2⟩:=TR.ead_subF ht.1;obtain⟨h3,h4⟩:=TR.eads_subF ht.2;simp only [TR.fzs,TR.labs,eads,List.map_append];exact⟨h1.append h3,h2,h4⟩
end
mutual
theorem TR.lab_z {ι:Nat→Nat} {Z:Nat→Prop} {h:AHeap} (r:Rel ι Z σ h):∀{n:Nat} {t:TR},t.okF σ b→VOK Z h n t.pv→∀o,.inr o∈t.lab→Z o
 | n,.leaf v,ht,hv,o,ho=>by
  simp only [TR.lab,List.mem_map,Sum.inr.injEq,exists_eq_right]at ho
  exact zEe hv o (zEw ho)
 | n,.nil,_,_,o,ho=>by cases ho
 | n,.lst s cap kids,⟨⟨h1,h2,h3,h4⟩,ht⟩,hv,o,ho=>by
  simp only [TR.lab,List.mem_cons,reduceCtorEq,false_or]at ho
  exact TR.labs_z r ht (r.obj s _ h2).2.1 o ho
 | n,.cut s off l cap kids,⟨⟨h1,h2,h3,h4,h5⟩,ht⟩,hv,o,ho=>by
  simp only [TR.lab,List.mem_cons,reduceCtorEq,false_or]at ho
  exact TR.labs_z r ht (r.obj s _ h2).2.1 o ho
 | n,.agg kids,ht,hv,o,ho=>TR.labs_z (ts:=kids) r ht hv o ho
 | n,.tup kids,ht,hv,o,ho=>TR.labs_z (ts:=kids) r ht hv o ho
theorem TR.labs_z {ι:Nat→Nat} {Z:Nat→Prop} {h:AHeap} (r:Rel ι Z σ h):∀{n:Nat} {ts:List TR},TR.okFs σ b ts→VOKs Z h n (TR.pvs ts)→∀o,.inr o∈TR.labs ts→Z o
 | n,[],_,_,o,ho=>by cases ho
 | n,t::ts,ht,hv,o,ho=>by
  simp only [TR.labs,List.mem_append]at ho
  rcases ho with ho|ho
  ·exact TR.lab_z r ht.1 hv.1 o ho
  ·exact TR.labs_z r ht.2 hv.2 o ho
end
mutual
theorem TR.lab_slot:∀{t:TR} {s:Nat},.inl s∈t.lab→s∈t.slots
 | .leaf v,s,ho=>by simp [TR.lab]at ho
 | .nil,s,ho=>by cases ho
 | .lst s' cap kids,s,ho=>by
  simp only [TR.lab,List.mem_cons,Sum.inl.injEq,TR.slots]at ho ⊢
  exact ho.imp id TR.labs_slot
 | .cut s' off l cap kids,s,ho=>by
  simp only [TR.lab,List.mem_cons,Sum.inl.injEq,TR.slots]at ho ⊢
  exact ho.imp id TR.labs_slot
 | .agg kids,s,ho=>TR.labs_slot (ts:=kids) ho
 | .tup kids,s,ho=>TR.labs_slot (ts:=kids) ho
theorem TR.labs_slot:∀{ts:List TR} {s:Nat},.inl s∈TR.labs ts→s∈TR.slotss ts
 | [],s,ho=>by cases ho
 | t::ts,s,ho=>by
  simp only [TR.labs,List.mem_append,TR.slotss]at ho ⊢
  exact ho.imp TR.lab_slot TR.labs_slot
end
theorem zEU {α:Type} {f:α→Nat} {xs:List α} (hn:xs.Nodup) (hi:∀s∈xs,∀s'∈xs,f s=f s'→s=s'):(xs.map f).Nodup:=by
 induction xs with
 | nil=>exact List.nodup_nil
 | cons x xs ih=>
  rw [List.nodup_cons]at hn
  rw [List.map_cons,List.nodup_cons];refine⟨fun hm=>?_,ih hn.2 fun s hs s' hs'=>hi s (List.mem_cons_of_mem _ hs) s' (List.mem_cons_of_mem _ hs')⟩
  obtain⟨y,hy,e⟩:=List.mem_map.1 hm
  have:=hi y (List.mem_cons_of_mem _ hy) x (List.mem_cons_self ..) e
  exact hn.1 (this ▸ hy)
theorem Gh.treeFO {t:TR} (hk:Keep σ0 σ1) (ht:t.okF σ1 σ0.next) (hw:t.whF) (hn:t.lab.Nodup) (hl:∀o,.inr o∈t.lab→σ0.top≤o∧o<σ1.top)
  (k:∀a T,Own σ0.top T (t.fz a)→σ0.top≤T→K (t.fz a) (σ0.up T)):Gh σ0 K t.pv σ1:=by
 intro w ι Z h b r hv h1 h2 h3 h4;have hso:=TR.slot_objF ht;have hlt:∀{s:Nat} {cs:List PV},σ1.obj s=some cs→ι s<h.next:=fun hs=>r.hwf.lt (r.obj _ _ hs).1
 have hz1:∀o,Z o→(Z o∨∃s∈t.slots,o=ι s)∧h.obj o=h.obj o:=fun o ho=>⟨.inl ho,rfl⟩
 obtain⟨v1,v2⟩:=TR.vokF (Z':=fun o=>Z o∨∃s∈t.slots,o=ι s) r (fun o ho=>.inl ho) ht hv fun s hs=>.inr ⟨s,hs,rfl⟩
 have hzl:=TR.lab_z r ht hv;have hown:Own σ0.top h.next (t.fz ι):=by
  obtain⟨e1,e2⟩:=TR.ead_subF (a:=ι) hw;refine⟨e2,(zEU hn fun x hx y hy e=>?_).sublist e1,fun o ho=>?_⟩
  ·cases x with
   | inl s=>
    obtain⟨_,cs,g⟩:=hso s (TR.lab_slot hx);cases y with
    | inl s'=>
     obtain⟨_,cs',g'⟩:=hso s' (TR.lab_slot hy);rw [r.inj s s' cs cs' g g' e]
    | inr o=>exact absurd (hzl o hy) (by rw [←show ι s=o from e];exact(r.obj s cs g).2.2)
   | inr o=>
    cases y with
    | inl s'=>
     obtain⟨_,cs',g'⟩:=hso s' (TR.lab_slot hy);exact absurd (hzl o hx) (by rw [show o=ι s' from e];exact(r.obj s' cs' g').2.2)
    | inr o'=>rw [show o=o' from e]
  ·obtain⟨x,hx,rfl⟩:=List.mem_map.1 (e1.subset ho)
   cases x with
   | inl s=>
    obtain⟨g0,cs,g⟩:=hso s (TR.lab_slot hx);exact⟨Nat.le_trans h2 (h3 s cs g0 g),hlt g⟩
   | inr o=>
    have q:=hl o hx
    have:=r.top
    exact⟨q.1,by show o<_;omega⟩
 refine⟨t.fz ι,σ0.up h.next,ι,fun o=>Z o∨∃s∈t.slots,o=ι s,⟨r.hwf,?_,Nat.le_refl _,w.wf,fun s cs hs=>?_,fun s s' cs cs' hs hs' he=>?_⟩,v1.mono (fun o ho=>⟨ho,rfl⟩) (Nat.zero_le _),Nat.le_refl _,fun _ _=>rfl,fun _ ho=>.inl ho,fun s cs hs hc=>?_,fun s hs hn=>hn,v2 ι,k ι h.next hown (Nat.le_trans hk.top r.top)⟩
 ·rintro o (ho | ⟨s,hs,rfl⟩)
  ·exact r.zlt o ho
  ·obtain⟨_,cs,g⟩:=hso s hs
   exact hlt g
 ·have hl:=w.lt hs
  have hs1:σ1.obj s=some cs:=by rw [hk.obj s hl];exact hs
  obtain⟨q1,q2,q3⟩:=r.obj s cs hs1;refine⟨q1,(q2.of_bel (w.bel s cs hs)).mono hz1 (Nat.le_refl _),?_⟩
  rintro (hz | ⟨s',hs',e⟩)
  ·exact q3 hz
  ·obtain⟨g0,cs',g⟩:=hso s' hs'
   have:=r.inj s s' cs cs' hs1 g e
   omega
 ·exact r.inj s s' cs cs' (by rw [hk.obj s (w.lt hs)];exact hs) (by rw [hk.obj s' (w.lt hs')];exact hs') he
 ·have:=w.lt hc
  omega
mutual
theorem TR.lab_ok:∀{t:TR},t.ok σ b→t.lab=t.slots.map .inl∧t.whF
 | .leaf v,ht=>by
  obtain⟨h1,h2⟩:=zEo ht;exact⟨by simp only [TR.lab,TR.slots,h1,List.map_nil],h2⟩
 | .nil,_=>⟨rfl,trivial⟩
 | .lst s cap kids,⟨_,ht⟩=>by
  obtain⟨h1,h2⟩:=TR.labs_ok ht;exact⟨by simp only [TR.lab,TR.slots,h1,List.map_cons],h2⟩
 | .cut _ _ _ _ _,ht=>ht.elim
 | .agg kids,ht=>TR.labs_ok (ts:=kids) ht
 | .tup kids,ht=>TR.labs_ok (ts:=kids) ht
theorem TR.labs_ok:∀{ts:List TR},TR.oks σ b ts→TR.labs ts=(TR.slotss ts).map .inl∧TR.whFs ts
 | [],_=>⟨rfl,trivial⟩
 | t::ts,ht=>by
  obtain⟨h1,h2⟩:=TR.lab_ok ht.1;obtain⟨h3,h4⟩:=TR.labs_ok ht.2;exact⟨by simp only [TR.labs,TR.slotss,h1,h3,List.map_append],h2,h4⟩
end
end Go.Ab
namespace Go.Proofs
open Go.Ab Go.Lie Go.Grp
variable {σ σ0 h h':PHeap} {K:PV→PHeap→Prop} {b s t n k r s0 i j:Nat} {L L':Nat→Nat} {E:Nat→Prop} {v c:PV} {x O:List Int} {M:List (List Int)} {cs:List PV}
def MY (L:Nat→Nat) (h:PHeap) (b:Nat) (M:List (List Int)) (v:PV):Prop:=∃s cap cs,v=.sl s 0 M.length cap∧full 1 cap M.length∧h.obj s=some cs∧b≤s∧s<h.next∧L s=1000∧A2i (fun i c x=>RowN L h b (2000+i) x c) cs M
def MYN (L:Nat→Nat) (h:PHeap) (b:Nat) (M:List (List Int)) (v:PV):Prop:=(M=[]∧v=.fz true .nils 0 [])∨MY L h b M v
theorem MYN.one (a:MYN L h b M v):v.one=true:=by rcases a with ⟨_,rfl⟩ | ⟨s,cap,cs,rfl,_⟩<;>rfl
theorem MYN.cells (a:MYN L h b M v):v.cells=[v]:=by rcases a with ⟨_,rfl⟩ | ⟨s,cap,cs,rfl,_⟩<;>rfl
theorem MYN.nil:MYN L h b [] (.fz true .nils 0 []):=.inl ⟨rfl,rfl⟩
theorem MYN.keepE (a:MYN L h b M v) (hj:∀m,1000≤m→¬E m) (hn:h.next≤h'.next) (ho:∀t,b≤t→t<h.next→¬E (L t)→h'.obj t=h.obj t) (hL:∀t,t<h.next→¬E (L t)→L' t=L t):MYN L' h' b M v:=by
 refine a.imp id ?_
 rintro ⟨s,cap,cs,rfl,h1,h2,h4,h5,h6,h7⟩
 have hne:¬E (L s):=by rw [h6];exact hj _ (by omega)
 exact⟨s,cap,cs,rfl,h1,by rw [ho s h4 h5 hne];exact h2,h4,by omega,by rw [hL s h5 hne];exact h6,q8 h7 fun i c x hi r=>r.keepE (hj _ (by omega)) hn ho hL⟩
theorem MYN.keepL (a:MYN L h b M v) (hn:h.next≤h'.next) (ho:∀t,b≤t→t<h.next→h'.obj t=h.obj t) (hL:∀t,t<h.next→L' t=L t):MYN L' h' b M v:=
 a.keepE (E:=fun _=>False) (fun _ _ h=>h) hn (fun t hb ht _=>ho t hb ht) fun t ht _=>hL t ht
theorem MYN.set (a:MYN L h b M v) (hs:s<b) (ds:List PV):MYN L (h.set s ds) b M v:=a.keepL (Nat.le_refl _) (fun t hb _=>by rw [zg,if_neg (by omega)]) fun _ _=>rfl
theorem MYN.kill (a:MYN L h b M v) (hs:s<b):MYN L (h.kill s) b M v:=a.keepL (Nat.le_refl _) (fun t hb _=>by simp only [PHeap.kill];rw [if_neg (by omega)]) fun _ _=>rfl
theorem MYN.up (a:MYN L h b M v) (t:Nat):MYN L (h.up t) b M v:=a.keepL (Nat.le_refl _) (fun _ _ _=>rfl) fun _ _=>rfl
theorem MYN.treeN (a:MYN L h b M v):∃t:TR,t.ok h b∧t.pv=v∧(∀aa,FII (t.fz aa) M)∧t.slots.Nodup:=by
 rcases a with ⟨rfl,rfl⟩|⟨s,cap,cs,rfl,h1,h2,h4,h5,h6,h7⟩
 ·exact⟨.nil,trivial,rfl,fun aa=>⟨true,.nils,[],rfl,All2.nil _⟩,List.nodup_nil⟩
 obtain⟨ts,g1,g2,g3,g4,g5⟩:=zBf (h:=h) (b:=b) (L:=L) (S:=FI) (R:=fun i c x=>RowN L h b (2000+i) x c) (m:=fun i=>2000+i) (fun i=>Nat.le_succ _) (fun i c y a=>a.treeN) (cs:=cs) (xs:=M) 0 (q8 h7 fun i c y _ r=>by rw [Nat.zero_add];exact r)
 have e1:ts.length=M.length:=by rw [←h7.1,←g2,Q9]
 refine⟨.lst s cap ts,⟨⟨by rw [e1];exact h1,by rw [g2];exact h2,h4,h5⟩,g1⟩,by simp only [TR.pv,e1],fun aa=>⟨true,.sl (aa s) 0 ts.length cap,TR.fzs aa ts,by simp only [TR.fz,e1],g3 aa⟩,?_⟩
 rw [TR.slots,List.nodup_cons];exact⟨fun hm=>by have:=(g5 s hm).1;omega,g4⟩
theorem MYN.push {KA:PV×PHeap→Prop} (a:MYN L h b M v) (hc:RowN L h b 8 x c) (hk:Keep σ h) (hb:σ.next≤b) (hbn:b≤h.next) (hn:M.length≤1048576)
  (kk:∀v' h' L',Keep σ h'→MYN L' h' b (M++[x]) v'→h.next<h'.next→(∀t,t<b→h'.obj t=h.obj t)→KA (v',h')):optK (qd 1 24 (h.new [c]) v (.sl h.next 0 1 (.known 1))) KA:=by
 have acc:∃cs,PAcc b 1 h v M.length cs∧A2i (fun i c x=>RowN L h b (2000+i) x c) cs M∧∀t off l c,v=.sl t off l c→L t=1000:=by
  rcases a with ⟨rfl,rfl⟩|⟨s,cap,cs,rfl,h1,h2,h4,h5,h6,h7⟩
  ·exact⟨[],PAcc.nil _ _ _,zBM,fun t off l c e=>by cases e⟩
  ·exact⟨cs,.inr ⟨s,cap,rfl,h1,h2,by have:=h7.1;omega,h4,h5⟩,h7,fun t off l c e=>by simp only [PV.sl.injEq]at e;rw [←e.1];exact h6⟩
 obtain⟨cs,acc,hcs,hL⟩:=acc;refine PAcc.pushS hk (acc.low hb) rfl (by omega) (by omega) fun v' h' k1 a1 o1 n1 l1=>?_
 obtain⟨s',cap',rfl,g1,g2,g3,g4,g5⟩:=a1;have hs':h.next≤s':=by
  rcases Nat.lt_or_ge s' h.next with q|q
  ·exact absurd rfl (n1 s' q 0 _ cap')
  ·exact q
 have ob:∀t,t<h.next→L t≠1000→h'.obj t=h.obj t:=fun t ht hne=>o1 t ht fun off l c e=>hne (hL t off l c e)
 have hnx:h.next≤h'.next:=by omega
 have low:∀t,t<b→h'.obj t=h.obj t:=fun t ht=>by
  refine o1 t (by omega) fun off l c e=>?_
  rcases acc with ⟨rfl,_,_⟩|⟨s,cap,rfl,q1,q2,q3,q4,q5⟩
  ·cases e
  ·simp only [PV.sl.injEq]at e;omega
 have el:(M++[x]).length=M.length+1:=by simp
 rcases hc with ⟨rfl,rfl⟩|⟨sc,capc,rfl,c1,c2,c3,c4,c5⟩
 ·have e1:∀t,t<h.next→mkM L s' 1000 t=L t:=Z4 hs'
  refine kk _ h' (mkM L s' 1000) k1 (.inr ⟨s',cap',_,by rw [el],by rw [el];exact g1,g2,by omega,g5,Zt,zBg (q8 hcs fun i c y hi r=>?_) (.inl ⟨rfl,rfl⟩)⟩) l1 low
  exact r.keepE (E:=fun m=>m=1000) (by omega) hnx (fun t _ ht hne=>ob t ht (by omega)) fun t ht hne=>e1 t ht
 obtain⟨L',hL'⟩:∃L':Nat→Nat,L'=mkM (mkM L s' 1000) sc (2000+M.length):=⟨_,rfl⟩
 have e0:L' s'=1000:=by rw [hL'];unfold mkM;rw [if_neg (by omega),if_pos rfl]
 have e1:∀t,t<h.next→L t≠8→L' t=L t:=fun t ht hne=>by
  rw [hL'];unfold mkM;rw [if_neg (fun e=>hne (by rw [e];exact c5)),if_neg (by omega)]
 have e2:L' sc=2000+M.length:=by rw [hL'];exact Zt
 clear hL';refine kk _ h' L' k1 (.inr ⟨s',cap',_,by rw [el],by rw [el];exact g1,g2,by omega,g5,e0,zBg (q8 hcs fun i c y hi r=>?_) (.inr ⟨sc,capc,rfl,c1,by rw [ob sc c4 (by rw [c5];omega)];exact c2,c3,by omega,e2⟩)⟩) l1 low
 exact r.keepE (E:=fun m=>m=8∨m=1000) (by omega) hnx (fun t _ ht hne=>ob t ht (by omega)) fun t ht hne=>e1 t ht (by omega)
end Go.Proofs
namespace Go.Grp
end Go.Grp
set_option linter.unusedSimpArgs false
set_option linter.unusedVariables false
set_option linter.unusedSectionVars false
namespace Go.Proofs
open Go.Ab Go.Lie Go.Grp
variable {σ σ0 h h':PHeap} {K:PV→PHeap→Prop} {b t k r s0 i j:Nat} {L L':Nat→Nat} {v vO vP vC c vX vL:PV} {x O:List Int} {P M:List (List Int)} {C:List (List (List Int))} {cs:List PV} {s:List UInt8}
set_option maxHeartbeats 3200000 in
theorem zBx (hs:s.length≤1048576) (hne:(splL [59,32] s).getD 0 []=[49]) (hk0:(∀O P C,lpI s=some (O,P,C)→zK O P C→prT O P C≠s)→K (.tup [.agg [.fz true .nils 0 [],.fz true .nils 0 [],.fz true .nils 0 []],.bool false]) σ)
  (hk1:∀wO wP wC O P C t,lpI s=some (O,P,C)→zK O P C→prT O P C=s→IsPr wO wP wC O P C→Owns σ.top t [wO,wP,wC]→σ.top≤t→K (.tup [.agg [wO,wP,wC],.bool true]) (σ.up t)):zA Tryz.prog 61 [.str s] σ K:=by
 have fin0:∀{g:PHeap},Keep σ g→g.obj σ.next=some [.fz true .nils 0 [],.fz true .nils 0 [],.fz true .nils 0 []]→(∀O P C,lpI s=some (O,P,C)→zK O P C→prT O P C≠s)→
   g.wr σ.next 0 [.fz true .nils 0 [],.fz true .nils 0 [],.fz true .nils 0 []]=some (g.set σ.next [.fz true .nils 0 [],.fz true .nils 0 [],.fz true .nils 0 []])∧(g.set σ.next [.fz true .nils 0 [],.fz true .nils 0 [],.fz true .nils 0 []]).rd σ.next 0 3=some [.fz true .nils 0 [],.fz true .nils 0 [],.fz true .nils 0 []]∧
   Gh σ K (.tup [.agg [.fz true .nils 0 [],.fz true .nils 0 [],.fz true .nils 0 []],.bool false]) (g.set σ.next [.fz true .nils 0 [],.fz true .nils 0 [],.fz true .nils 0 []]):=fun {g} kg ho e=>
  ⟨by rw [qg ho,if_pos ⟨by simp,rfl⟩];rfl,by rw [ZG,if_pos rfl];rfl,Gh.fin0 (kg.set (Nat.le_refl _) _) ⟨⟨trivial,trivial,trivial,trivial⟩,trivial,trivial⟩ (hk0 e)⟩
 have no:∀{A:Prop},lpI s=none→∀O P C,lpI s=some (O,P,C)→zK O P C→prT O P C≠s:=fun {_} e O P C e'=>by rw [e]at e';cases e'
 refine zA.gh ?_;refine zt mix Tryz.func61 cf61 rfl ?_;dsimp only [if61,qI,eI,mI0,kI0,tI0,lI0,LI0,fI0,xI0,bI0,cI0,nI0,sI0,eI0,C1,C2,I0,G0,gm0,oI0,zI0,yI0,vI0,R0,S0];simp only [pwA,seval,-iQ0];refine zAk (sep:=[59,32]) hs (by decide) ?_
 have eS:lpI s=lpH (orI ((splL [59,32] s).getD 0 [])) ((splL [59,32] s).drop 1):=rfl;have sl:=Qg (s:=s) (sep:=[59,32]) (by decide)
 have hll:=Qq (s:=s) (sep:=[59,32]);have sl1:1≤(splL [59,32] s).length:=by rw [sl.1];omega
 have sl2:=sl.2;clear sl;generalize splL [59,32] s=l at *
 have z0:(0:Int)<(l.length:Int):=by omega
 have z0':0<l.length:=by omega
 rw [show l.getD 0 []=l[0] by rw [List.getD_eq_getElem?_getD,List.getElem?_eq_getElem z0'];rfl]at eS hne
 have hpo:((σ.new [.fz true .nils 0 [],.fz true .nils 0 [],.fz true .nils 0 []]).new (pst l)).obj (σ.next+1)=some (pst l):=by simp only [pwA,seval,-iQ0]
 have hr0:((σ.new [.fz true .nils 0 [],.fz true .nils 0 [],.fz true .nils 0 []]).new (pst l)).obj σ.next=some [.fz true .nils 0 [],.fz true .nils 0 [],.fz true .nils 0 []]:=by simp only [pwA,seval,-iQ0]
 have kk:Keep σ ((σ.new [.fz true .nils 0 [],.fz true .nils 0 [],.fz true .nils 0 []]).new (pst l)):=(zD _ _).new _;have hln:σ.next+1<((σ.new [.fz true .nils 0 [],.fz true .nils 0 [],.fz true .nils 0 []]).new (pst l)).next:=by show σ.next+1<σ.next+2;omega
 have hrd:((σ.new [.fz true .nils 0 [],.fz true .nils 0 [],.fz true .nils 0 []]).new (pst l)).rd1 (σ.next+1) 0=some (.str l[0]):=by rw [qF hpo];exact qw z0'
 rw [show(σ.new [.fz true .nils 0 [],.fz true .nils 0 [],.fz true .nils 0 []]).next=σ.next+1 from rfl]
 generalize (σ.new [.fz true .nils 0 [],.fz true .nils 0 [],.fz true .nils 0 []]).new (pst l)=h at *
 have h1:l[0]=[49]:=hne;have eL2:lpI s=lpJ [] (l.drop 1):=by rw [eS,orI,if_pos h1];rfl
 clear eS;have beq:(l[0] == [49])=true:=by simpa using h1
 have eF:∀pc,foldI 0 (trP 0 0,trC 0 0) (l.drop 1)=pc→lpI s=match pc with | none=>none | some pc=>some ([],pc.1,pc.2):=fun pc e=>by rw [eL2,lpJ,if_neg (by simp)];show(match foldI 0 (trP 0 0,trC 0 0) (l.drop 1)with | none=>none | some pc=>some ([],pc.1,pc.2))=_;rw [e]
 clear eL2;have hln3:=hln;generalize hgg:h=h9 at *
 have hl:pLen (.fz true .nils 0 [])=some (.int .i64 ([]:List Int).length):=rfl;simp only [pwA,seval,-iQ0,z0,z0',hrd,beq];refine Qp (O:=[]) hl (by simp) (fun {g K'} kg k'=>zH6 (h:=h9) (b:=σ.next) (O:=[]) (PAcc.nil _ _ _) (by simp) kg k') fun L h2 vO vP vC k2 p2=>?_
 have hn2:=k2.next;have hq:=tr_sq [];have a:=TBX.start p2 (r:=σ.next) (by omega) (by rw [k2.obj _ (by omega)];exact hr0) k2.next
 have o1:=p2.hO.one;have o2:=p2.hP.one;have o3:=p2.hC.one;have b1:1≤l.length:=by omega
 have b1':(1:Int)≤(l.length:Int):=by omega
 have e1:((l.length:Int)-1).toNat=l.length-1:=by omega
 obtain⟨of,hof⟩:∃of,of=if l.length=1 then 0 else 1:=⟨_,rfl⟩
 have hof1:1<l.length→of=1:=fun h=>by rw [hof,if_neg (by omega)]
 simp only [pwA,seval,-iQ0,o1,o2,o3,b1,b1',←hof,Option.isNone_none,Option.isSome_none,Bool.false_eq_true,and_false,if_false,e1];clear hof;refine zB (fun m vs g=>m=0∧vs=[.str s,.ptr σ.next 0,.int .i64 0,.ptr h2.next 0,.sl (σ.next+1) of (l.length-1) (.known (l.length-1)),.int .i64 (l.length-1:Nat),.int .i64 0]∧Keep h9 g∧TBX h9.next g [] (mkM L h2.next 7) (trP 0 0) (trC 0 0) σ.next h2.next vO vP vC) 0 ?_ ?_
 ·exact⟨rfl,rfl,k2.new _,a⟩
 clear a p2 k2
 rintro m vs g ⟨rfl,rfl,kg,a⟩
 have kσ:Keep σ g:=kk.trans kg;have hng:=kg.next;have hpg:g.obj (σ.next+1)=some (pst l):=by rw [kg.obj _ hln3];exact hpo
 simp only [pwA,seval,-iQ0];refine iteI (fun hlt=>?_) fun hge=>?_
 ·have hlt':(0:Int)<((l.length-1:Nat):Int):=by omega
  have hlt2:0<l.length-1:=by omega
  have hli:1<l.length:=by omega
  have rq:g.rd1 (σ.next+1) of=some (.str l[1]):=by rw [qF hpg,hof1 (by omega)];exact qw hli
  have hql:=hll _ (List.getElem_mem hli);have eL:=eF none (by
   have g0:∀q,geF 0 q=none:=fun q=>by
    cases e:geF 0 q with
    | none=>rfl
    | some j=>exact absurd (zCC e) (by omega)
   have rp:relP 0 (trP 0 0) (trC 0 0) l[1]=none:=by
    unfold relP;rw [g0];cases exF 0 (Lib.cut l[1] [61]).2.1<;>rfl
   rw [drop_at hli,foldI,rp])
  simp only [pwA,seval,-iQ0,hlt2,hlt',rq];generalize l[1]=q at *
  refine zEJ (sep:=[61]) (by omega) ?_
  simp only [pwA,seval,-iQ0];have c1:=zEA q [61];refine zEJ (sep:=[94]) (by omega) ?_
  simp only [pwA,seval,-iQ0];have c2:=zEA (Lib.cut q [61]).1 [94];generalize (Lib.cut (Lib.cut q [61]).1 [94]).2.1=q3 at *
  generalize (Lib.cut (Lib.cut q [61]).1 [94]).1=q2 at *
  generalize (Lib.cut q [61]).2.1=q1 at *
  refine zBK (n:=0) (by omega) (by omega) (fun ee v h3 k3 v1=>?_) fun ys ee hys=>?_
  ·have a3:=a.keep k3
   have kσ3:=kσ.trans k3;simp only [pwA,seval,-iQ0,v1];refine ZV (n:=0) (by omega) (by omega) (fun _=>?_) fun j ej=>absurd (zCC ej) (by omega)
   obtain⟨f1,f2,f3⟩:=fin0 kσ3 a3.res (no (A:=True) eL);simp only [pwA,seval,-iQ0,f1,f2];exact f3
  ·have a3:=a.keep (zD g (pis ys))
   have kσ3:=kσ.new (pis ys);generalize hg3:g.new (pis ys)=g3 at *
   simp only [pwA,seval,-iQ0];refine ZV (n:=0) (by omega) (by omega) (fun eg=>?_) fun j ej=>absurd (zCC ej) (by omega)
   obtain⟨f1,f2,f3⟩:=fin0 kσ3 a3.res (no (A:=True) eL);simp only [pwA,seval,-iQ0,f1,f2];exact f3
 obtain⟨O,hO⟩:∃O:List Int,O=[]:=⟨_,rfl⟩
 obtain⟨P,hP⟩:∃P,P=trP 0 0:=⟨_,rfl⟩
 obtain⟨C,hC⟩:∃C,C=trC 0 0:=⟨_,rfl⟩
 have hq2:Sq O P C:=by rw [hO,hP,hC];exact hq
 have eF':lpI s=some (O,P,C):=by rw [hO,hP,hC];exact eF (some _) (by rw [List.drop_of_length_le (by omega),foldI])
 rw [←hP,←hC,←hO]at a
 have hO6:O.length≤6:=by rw [hO];simp
 clear eF hq hO hP hC;have un:∀{O' P' C'},lpI s=some (O',P',C')→O'=O∧P'=P∧C'=C:=fun {O' P' C'} e=>by rw [eF']at e;cases e;exact⟨rfl,rfl,rfl⟩
 obtain⟨t1,t2,t3,hok,rfl,rfl,rfl,hpr,hnd⟩:=a.pw.treeN;simp only [pwA,seval,-iQ0,a.r3];refine zA.thawV (ts:=[t1,t2,t3]) hok fun aa=>Z7 (hpr aa) (hq2.sz hO6) fun t ht=>⟨trivial,?_⟩
 cases t
 ·obtain⟨f1,f2,f3⟩:=fin0 kσ a.res (fun O' P' C' e hp=>by obtain⟨rfl,rfl,rfl⟩:=un e;exact absurd (ht.2 hp) (by decide))
  simp only [pwA,seval,-iQ0,f1,f2];exact f3
 simp only [pwA,seval,-iQ0];refine zA.thawP (ts:=[t1,t2,t3]) a.ob hok fun aa=>Zq (hpr aa) (ht.1 rfl) ⟨trivial,?_⟩
 by_cases hps:prT O P C=s
 ·obtain⟨f1,f2,f3⟩:=a.fin
  have hbe:(prT O P C == s)=true:=by rw [hps];simp
  simp only [pwA,seval,-iQ0,hbe,a.r3,f1,f2];exact f3.finO2b (kσ.set (Nat.le_refl _) _) (by omega) fun wO wP wC t h1 h2 h3=>hk1 wO wP wC O P C t eF' (ht.1 rfl) hps h1 h2 h3
 ·obtain⟨f1,f2,f3⟩:=fin0 kσ a.res (fun O' P' C' e hp=>by obtain⟨rfl,rfl,rfl⟩:=un e;exact hps)
  have hbe:(prT O P C == s)=false:=by simpa using hps
  simp only [pwA,seval,-iQ0,hbe,f1,f2];exact f3
theorem zBv (hs:s.length≤1048576) (hk0:(∀O P C,lpI s=some (O,P,C)→zK O P C→prT O P C≠s)→K (.tup [.agg [.fz true .nils 0 [],.fz true .nils 0 [],.fz true .nils 0 []],.bool false]) σ)
  (hk1:∀wO wP wC O P C t,lpI s=some (O,P,C)→zK O P C→prT O P C=s→IsPr wO wP wC O P C→Owns σ.top t [wO,wP,wC]→σ.top≤t→K (.tup [.agg [wO,wP,wC],.bool true]) (σ.up t)):zA Tryz.prog 61 [.str s] σ K:=by
 by_cases hne:(splL [59,32] s).getD 0 []=[49]
 ·exact zBx hs hne hk0 hk1
 ·exact zBw hs hne hk0 hk1
end Go.Proofs
namespace Go.Grp
end Go.Grp
set_option linter.unusedSimpArgs false
set_option linter.unusedVariables false
set_option linter.unusedSectionVars false
namespace Go.Proofs
open Go.Ab Go.Lie Go.Grp
def jn (sep:List UInt8):List UInt8→List (List UInt8)→List UInt8
 | a,[]=>a
 | a,b::r=>a++(sep++jn sep b r)
theorem zEN {c:Int}:∀(a cur s:List UInt8),(∀x∈a,((x.toNat:Nat):Int)≠c)→spF c cur (a++s)=spF c (cur++a) s
 | [],cur,s,_=>by simp
 | x::a,cur,s,h=>by
  rw [List.cons_append,spF,if_neg (h x (by simp)),zEN a (cur++[x]) s (fun y hy=>h y (by simp [hy]))]
  simp
theorem zBC {d:UInt8}:∀(rs:List (List UInt8)) (a cur:List UInt8),(∀x∈a,x≠d)→(∀r∈rs,∀x∈r,x≠d)→spF ((d.toNat:Nat):Int) cur (jn [d] a rs)=(cur++a)::rs
 | [],a,cur,ha,_=>by
  have:=zEN (c:=((d.toNat:Nat):Int)) a cur [] (fun x hx e=>ha x hx (UInt8.toNat_inj.1 (by exact_mod_cast e)))
  rw [List.append_nil]at this
  rw [jn,this,spF]
 | b::r,a,cur,ha,hr=>by
  rw [jn,zEN a cur _ (fun x hx e=>ha x hx (UInt8.toNat_inj.1 (by exact_mod_cast e))),List.singleton_append,spF,if_pos rfl,zBC r b [] (hr b (by simp)) fun q hq=>hr q (by simp [hq])]
  rfl
theorem zKc (c e:UInt8):∀(rs:List (List UInt8)) (a:List UInt8),jn [c,e] a rs=jn [c] a (rs.map ([e]++·))
 | [],a=>rfl
 | b::r,a=>by
  rw [jn,zKc c e r b];cases r with
  | nil=>simp [jn]
  | cons q r=>simp [jn]
theorem zLW (c:UInt8) (t l:List UInt8):(c::t).isPrefixOf ((c::t)++l)=true:=by
 rw [List.isPrefixOf_iff_prefix];exact List.prefix_append _ _
theorem zJv {b c:UInt8} (h:b≠c) (t l:List UInt8):(c::t).isPrefixOf (b::l)=false:=by
 simp [List.isPrefixOf,Ne.symm h]
theorem index_hit {c:UInt8} {t rest:List UInt8}:∀x:List UInt8,(∀y∈x,y≠c)→Lib.index (x++((c::t)++rest)) (c::t)=(x.length:Int)
 | [],_=>by
  rw [List.nil_append,List.cons_append,Lib.index,←List.cons_append,zLW]
  rfl
 | b::x,h=>by
  rw [List.cons_append,Lib.index,zJv (h b (by simp)),index_hit x fun y hy=>h y (by simp [hy])]
  have:(((x.length:Int)) == -1)=false:=by rw [beq_eq_false_iff_ne];omega
  rw [this]
  simp
theorem zEt {c:UInt8} {t:List UInt8}:∀x:List UInt8,(∀y∈x,y≠c)→Lib.index x (c::t)=-1
 | [],_=>rfl
 | b::x,h=>by
  rw [Lib.index,zJv (h b (by simp)),zEt x fun y hy=>h y (by simp [hy])]
  rfl
theorem zHi (sep s:List UInt8):splL sep s=Lib.splitK sep 0 (Lib.count s sep) s:=by
 unfold splL;rw [Lib.splitB_data]
theorem zBB {c:UInt8} {t:List UInt8}:∀(rs:List (List UInt8)) (a:List UInt8),(∀x∈a,x≠c)→(∀r∈rs,∀x∈r,x≠c)→splL (c::t) (jn (c::t) a rs)=a::rs
 | [],a,ha,_=>by
  rw [zHi,jn,Lib.count_miss (zEt a ha)]
  rfl
 | b::r,a,ha,hr=>by
  have ih:=zBB (c:=c) (t:=t) r b (hr b (by simp)) fun q hq=>hr q (by simp [hq])
  have hi:=index_hit (c:=c) (t:=t) (rest:=jn (c::t) b r) a ha;rw [zHi]at ih ⊢
  have e1:(a++((c::t)++jn (c::t) b r)).drop (a.length+(c::t).length)=jn (c::t) b r:=by
   rw [←List.append_assoc,show a.length+(c::t).length=(a++(c::t)).length by simp,List.drop_left]
  rw [jn,Lib.count_hit (by simp) hi,e1,Nat.add_comm 1,Lib.splitK,hi]
  have hm:((a.length:Int) == -1)=false:=by rw [beq_eq_false_iff_ne];omega
  rw [hm];simp only [Int.toNat_natCast,Nat.add_zero,Bool.false_eq_true,if_false];rw [e1,ih,List.take_left]
theorem zH4 {c:UInt8} {x y:List UInt8} (h:∀z∈x,z≠c):Lib.cut (x++([c]++y)) [c]=(x,y,true):=by
 unfold Lib.cut;rw [index_hit (t:=[]) x h,if_pos (by omega)]
 simp
theorem Zh {k:Nat} (h:k<10):(UInt8.ofNat (48+k)).toNat=48+k:=by
 rw [UInt8.toNat_ofNat'];exact Nat.mod_eq_of_lt (by omega)
theorem zOm {M:Nat} (hM:1000000000≤M):∀(u:Nat),u≤100000000→∀r:List UInt8,Lib.parseUintM M 0 (Lib.decDigits u++r)=Lib.parseUintM M u r:=by
 intro u
 induction u using Nat.strongRecOn with
 | _ u ih=>
  intro hu r
  by_cases h:u<10
  ·rw [Lib.decDigits,dif_pos h,List.singleton_append,Lib.parseUintM,Zh h,if_pos (by omega),if_neg (by omega),if_neg (by omega)]
   congr 1
   omega
  ·have d:=Zh (Nat.mod_lt u (by decide:0<10))
   rw [Lib.decDigits,dif_neg h,List.append_assoc,ih (u / 10) (by omega) (by omega),List.singleton_append,Lib.parseUintM,d,if_pos (by omega),if_neg (by omega),if_neg (by omega)]
   congr 1
   omega
theorem zAg (u:Nat):∃c r,Lib.decDigits u=c::r∧48≤c.toNat∧c.toNat≤57:=by
 induction u using Nat.strongRecOn with
 | _ u ih=>
  rw [Lib.decDigits]
  split
  ·rename_i h
   exact⟨_,[],rfl,by rw [Zh h];omega,by rw [Zh h];omega⟩
  ·obtain⟨c,r,e,h1,h2⟩:=ih (u / 10) (by omega)
   exact⟨c,_,by rw [e];rfl,h1,h2⟩
theorem zCc (u:Nat):∀c∈Lib.decDigits u,48≤c.toNat∧c.toNat≤57:=by
 induction u using Nat.strongRecOn with
 | _ u ih=>
  intro c hc;rw [Lib.decDigits]at hc
  split at hc
  ·rename_i h
   rw [List.mem_singleton.1 hc,Zh h];omega
  ·rcases List.mem_append.1 hc with hc | hc
   ·exact ih (u / 10) (by omega) c hc
   ·rw [List.mem_singleton.1 hc,Zh (Nat.mod_lt u (by decide))]
    omega
theorem zJs {u:Nat} (hu:u≤100000000):Lib.parseUintB 64 (Lib.decDigits u)=.ok u:=by
 obtain⟨c,r,e,_⟩:=zAg u;unfold Lib.parseUintB;rw [if_neg (by rw [e];simp)]
 have:=zOm (M:=2 ^ 64-1) (by decide) u hu []
 rw [List.append_nil]at this
 rw [this]
 rfl
theorem zBG {z:Int} (h1:-100000000≤z) (h2:z≤100000000):Lib.parseIntB 64 (Lib.itoa z)=.ok z:=by
 unfold Lib.itoa
 split
 ·rename_i hz
  rw [Lib.parseIntB_minus,zJs (by omega)]
  simp only [Lib.signedC];rw [if_neg (by omega)]
  congr 1
  omega
 ·rename_i hz
  obtain⟨c,r,e,h3,h4⟩:=zAg z.toNat;have hp:=zJs (u:=z.toNat) (by omega)
  rw [e]at hp ⊢
  rw [Lib.parseIntB_plain 64 c r (by omega) (by omega),hp]
  simp only [Lib.signlessC];rw [if_neg (by omega)]
  congr 1
  omega
theorem zFO:∀(a:List UInt8) (y:Int) (r:List UInt8),(∀c∈a,48≤c.toNat∧c.toNat≤57)→vlL y (a++r)=vlL (vlL y a) r
 | [],y,r,_=>rfl
 | c::a,y,r,h=>by
  have:=h c (by simp)
  rw [List.cons_append,vlL,vlL,if_neg (by omega),if_neg (by omega)]
  exact zFO a _ r fun d hd=>h d (by simp [hd])
theorem zOI (u:Nat):vlL 0 (Lib.decDigits u)=u:=by
 induction u using Nat.strongRecOn with
 | _ u ih=>
  rw [Lib.decDigits]
  split
  ·rename_i h
   rw [vlL,Zh h,if_neg (by omega),vlL]
   omega
  ·have d:=Zh (Nat.mod_lt u (by decide:0<10))
   rw [zFO _ _ _ (zCc _),ih (u / 10) (by omega),vlL,d,if_neg (by omega),vlL]
   omega
theorem zMX (u:Nat) (h:0<u):∀c∈(Lib.decDigits u).head?,c≠48:=by
 induction u using Nat.strongRecOn with
 | _ u ih=>
  intro c hc e;rw [Lib.decDigits]at hc
  split at hc
  ·rename_i h9
   have e2:UInt8.ofNat (48+u)=c:=by simpa using hc
   have:=Zh h9
   rw [e2,e]at this
   have:(48:UInt8).toNat=48:=rfl
   omega
  ·obtain⟨c',r,e',_⟩:=zAg (u / 10)
   rw [e']at hc
   have e2:c'=c:=by simpa using hc
   exact ih (u / 10) (by omega) (by omega) c (by rw [e',e2];rfl) e
theorem zCR {u:Nat} (hu:u<1000000):vlF (Lib.decDigits u)=u:=by
 have hl:=Zi 5 u hu;obtain⟨c,r,e,_⟩:=zAg u;unfold vlF;rw [if_neg,zOI]
 rintro (h | h | ⟨h,h0⟩)
 ·rw [e]at h;simp at h
 ·omega
 ·rcases Nat.eq_zero_or_pos u with rfl | hp
  ·rw [Lib.decDigits,dif_pos (by decide)]at h;simp at h
  ·exact zMX u hp 48 (by rw [h0];rfl) rfl
end Go.Proofs
namespace Go.Grp
end Go.Grp
set_option linter.unusedSimpArgs false
set_option linter.unusedVariables false
set_option linter.unusedSectionVars false
namespace Go.Proofs
open Go.Ab Go.Lie Go.Grp
variable {O:List Int} {P:List (List Int)} {C:List (List (List Int))} {n:Nat}
theorem QI (sep b:List UInt8):∀(rs:List (List UInt8)) (a:List UInt8),jn sep a (rs++[b])=jn sep a rs++(sep++b)
 | [],a=>rfl
 | c::r,a=>by
  rw [List.cons_append,jn,QI sep b r c,jn]
  simp
def relTx (i:Nat) (d:List UInt8) (x:List Int):List UInt8:=[letB i]++([94]++(d++([61]++wordB (Mx.nw x))))
def powL (O:List Int) (P:List (List Int)):Nat→List (List UInt8)
 | 0=>[]
 | i+1=>if isZ (pvec P i)then powL O P i else powL O P i++[relTx i (Lib.decDigits (at_ O i).toNat) (pvec P i)]
def conR (n:Nat) (C:List (List (List Int))) (i:Nat):Nat→List (List UInt8)
 | 0=>[]
 | k+1=>if cvec C i (i+1+k)=unitL n (i+1+k)then conR n C i k else conR n C i k++[relTx (i+1+k) [letB i] (cvec C i (i+1+k))]
def conL (n:Nat) (C:List (List (List Int))):Nat→List (List UInt8)
 | 0=>[]
 | i+1=>conL n C i++conR n C i (n-1-i)
theorem zHq (a:List UInt8) (rs:List (List UInt8)):∀i,powT O P (jn [59,32] a rs) i=jn [59,32] a (rs++powL O P i)
 | 0=>by rw [powT,powL,List.append_nil]
 | i+1=>by
  rw [powT,powL,zHq a rs i]
  split
  ·rfl
  ·rw [←List.append_assoc,QI]
   simp only [relTx,List.append_assoc]
theorem zGa (a:List UInt8) (rs:List (List UInt8)) (i:Nat):∀k,conTr n C (jn [59,32] a rs) i k=jn [59,32] a (rs++conR n C i k)
 | 0=>by rw [conTr,conR,List.append_nil]
 | k+1=>by
  rw [conTr,conR,zGa a rs i k]
  split
  ·rfl
  ·rw [←List.append_assoc,QI]
   simp only [relTx,List.append_assoc]
theorem zH5 (a:List UInt8) (rs:List (List UInt8)):∀i,conT n C (jn [59,32] a rs) i=jn [59,32] a (rs++conL n C i)
 | 0=>by rw [conT,conL,List.append_nil]
 | i+1=>by rw [conT,conL,zH5 a rs i,zGa,List.append_assoc]
theorem zFp (h:O.length≠0):prT O P C=jn [59,32] (ordT O O.length) (powL O P O.length++conL O.length C O.length):=by
 have e:ordT O O.length=jn [59,32] (ordT O O.length) []:=rfl;rw [prT,if_neg h,e,zHq,zH5]
 rfl
theorem zET:∀{i:Nat},i<O.length→ordT O (i+1)=jn [32] (Lib.decDigits (at_ O 0).toNat) ((List.range i).map fun k=>Lib.decDigits (at_ O (k+1)).toNat)
 | 0,_=>rfl
 | i+1,h=>by
  rw [ordT,if_pos (by omega),zET (i:=i) (by omega),List.range_succ,List.map_append,List.map_singleton,QI]
  simp
theorem zNh (h:O.length≠0):Lib.decDigits (at_ O 0).toNat::((List.range (O.length-1)).map fun k=>Lib.decDigits (at_ O (k+1)).toNat)=O.map fun o=>Lib.decDigits o.toNat:=by
 cases O with
 | nil=>simp at h
 | cons o r=>
  simp only [List.map_cons,List.length_cons,Nat.add_sub_cancel]
  congr 1
  apply List.ext_getElem (by simp)
  intro k h1 h2;simp only [List.length_map,List.length_range]at h1
  simp only [List.getElem_map,List.getElem_range];rw [at_eq (show k+1<(o::r).length by simpa using h1)]
  rfl
theorem zAO {o:Int} (h:isP o):∃c:UInt8,Lib.decDigits o.toNat=[c]∧50≤c.toNat∧c.toNat≤57∧vlF [c]=o∧Lib.parseIntB 64 [c]=.ok o:=by
 have hb:=h.bd;have e:Lib.decDigits o.toNat=[UInt8.ofNat (48+o.toNat)]:=by rw [Lib.decDigits,dif_pos (by omega)]
 have d:=Zh (k:=o.toNat) (by omega)
 have v:=zCR (u:=o.toNat) (by omega)
 have p:=zBG (z:=o) (by omega) (by omega)
 rw [Lib.itoa,if_neg (by omega)]at p
 rw [e]at v p
 exact⟨_,e,by rw [d];omega,by rw [d];omega,by rw [v];omega,p⟩
theorem zGZ {o:Int} (h:isP o) {d:UInt8} (hd:d.toNat<48∨57<d.toNat):∀x∈Lib.decDigits o.toNat,x≠d:=fun x hx e=>by
 have:=zCc _ x hx
 rw [e]at this
 omega
theorem zCX (hp:∀o∈O,isP o) {d:UInt8} (hd:d.toNat<48∨57<d.toNat) (h32:d≠32):∀i,i≤O.length→∀x∈ordT O i,x≠d
 | 0,_,x,hx=>by cases hx
 | i+1,hi,x,hx=>by
  have hP:isP (at_ O i):=by rw [at_eq (by omega)];exact hp _ (List.getElem_mem _)
  have ih:=zCX hp hd h32 i (by omega)
  rw [ordT]at hx
  rcases List.mem_append.1 hx with hx|hx
  ·split at hx
   ·rcases List.mem_append.1 hx with hx | hx
    ·exact ih x hx
    ·rw [List.mem_singleton.1 hx];exact h32.symm
   ·exact ih x hx
  ·exact zGZ hP hd x hx
theorem zNi (hp:∀o∈O,isP o):∀(acc:List Int),acc.length+O.length≤6→prodL (acc++O)≤729→orL acc (O.map fun o=>Lib.decDigits o.toNat)=some (acc++O):=by
 induction O with
 | nil=>intro acc _ h;rw [List.append_nil]at h;rw [List.map_nil,orL,if_pos h,List.append_nil]
 | cons o r ih=>
  intro acc hl hq;obtain⟨c,e,_,_,hv,_⟩:=zAO (hp o (by simp))
  simp only [List.length_cons]at hl
  rw [List.map_cons,orL,e,hv,if_pos ⟨hp o (by simp),by omega⟩,ih (fun q hq=>hp q (by simp [hq])) (acc++[o]) (by simp;omega) (by simpa using hq)]
  simp
theorem zL1 (hp:∀o∈O,isP o):∀(acc:List Int),ordI acc (O.map fun o=>Lib.decDigits o.toNat)=some (acc++O):=by
 induction O with
 | nil=>intro acc;rw [List.map_nil,ordI,List.append_nil]
 | cons o r ih=>
  intro acc;obtain⟨c,e,_,_,_,hv⟩:=zAO (hp o (by simp))
  rw [List.map_cons,ordI,e,hv];simp only;rw [ih (fun q hq=>hp q (by simp [hq])) (acc++[o])]
  simp
theorem zHs (hp:∀o∈O,isP o) (h:O.length≠0):ordT O O.length≠[49]:=fun e=>by
 obtain⟨i,hi⟩:∃i,O.length=i+1:=⟨O.length-1,by omega⟩
 have hP:isP (at_ O 0):=by rw [at_eq (by omega)];exact hp _ (List.getElem_mem _)
 obtain⟨c,ec,h1,_⟩:=zAO hP;rw [hi,zET (by omega),ec]at e
 have e2:∃t,([c]++t:List UInt8)=[49]:=by
  cases hm:(List.range i).map fun k=>Lib.decDigits (at_ O (k+1)).toNat with
  | nil=>rw [hm]at e;exact⟨[],e⟩
  | cons b r=>rw [hm]at e;exact⟨_,e⟩
 obtain⟨t,e2⟩:=e2
 have:c=49:=by simpa using (List.cons.inj e2).1
 rw [this]at h1
 exact absurd h1 (by decide)
theorem zF0 (hp:∀o∈O,isP o) (h:O.length≠0):∃a rs,ordT O O.length=jn [32] a rs∧a::rs=(O.map fun o=>Lib.decDigits o.toNat):=by
 obtain⟨i,hi⟩:∃i,O.length=i+1:=⟨O.length-1,by omega⟩
 refine⟨_,_,by rw [hi];exact zET (by omega),?_⟩
 have:=zNh h
 rw [hi]at this
 exact this
theorem zKV (hp:∀o∈O,isP o):∀q∈O.map (fun o=>Lib.decDigits o.toNat),∀x∈q,x≠32:=fun q hq x hx=>by
 obtain⟨o,ho,rfl⟩:=List.mem_map.1 hq;exact zGZ (hp o ho) (.inl (by decide)) x hx
theorem zL3 (hp:zK O P C) (h:O.length≠0):orF (ordT O O.length)=some O:=by
 obtain⟨h1,_,_,h4,h5,_⟩:=hp;obtain⟨a,rs,e1,e2⟩:=zF0 h4 h;have hno:=zKV h4;rw [←e2]at hno
 have:=zBC (d:=32) rs a [] (hno a (by simp)) fun r hr=>hno r (by simp [hr])
 rw [orF,if_neg (zHs h4 h),e1,show(32:Int)=(((32:UInt8).toNat:Nat):Int) from rfl,this,List.nil_append,e2,zNi h4 [] (by simpa using h1) (by simpa using h5)]
 rfl
theorem zL2 (hp:zK O P C) (h:O.length≠0):orI (ordT O O.length)=some O:=by
 obtain⟨h1,_,_,h4,h5,_⟩:=hp;obtain⟨a,rs,e1,e2⟩:=zF0 h4 h;have hno:=zKV h4;rw [←e2]at hno
 have:=zBB (c:=32) (t:=[]) rs a (hno a (by simp)) fun r hr=>hno r (by simp [hr])
 rw [orI,if_neg (zHs h4 h),e1,this,e2,zL1 h4 []]
 rfl
theorem zCY {l:Int} (h1:1≤l) (h2:l≤26):(UInt8.ofNat (96+l).toNat).toNat=96+l.toNat:=by
 rw [UInt8.toNat_ofNat',Nat.mod_eq_of_lt (by omega)]
 omega
theorem Zu {i:Nat} (h:i≤20):(letB i).toNat=97+i:=by
 rw [letB,UInt8.toNat_ofNat',Nat.mod_eq_of_lt (by omega)]
theorem zFL {w:List Int} (hw:∀l∈w,1≤l∧l≤6) {d:UInt8} (hd:d.toNat<97) (h49:d≠49):∀x∈wordB w,x≠d:=fun x hx e=>by
 unfold wordB at hx
 split at hx
 ·rw [List.mem_singleton.1 hx]at e;exact h49 e.symm
 ·obtain⟨l,hl,rfl⟩:=List.mem_map.1 hx
  have b:=hw l hl
  have:=zCY b.1 (by omega)
  rw [e]at this
  omega
theorem zCm {w:List Int} (hw:∀l∈w,1≤l∧l≤6):(w=[]∧wordB w=[49])∨(wordB w≠[49]∧wordB w≠[]∧wordB w=w.map fun l=>UInt8.ofNat (96+l).toNat):=by
 cases w with
 | nil=>exact .inl ⟨rfl,rfl⟩
 | cons l r=>
  have e:wordB (l::r)=(l::r).map fun l=>UInt8.ofNat (96+l).toNat:=if_neg (by simp)
  refine .inr ⟨fun e2=>?_,by rw [e];simp,e⟩
  have b:=hw l (by simp)
  have:=zCY b.1 (by omega)
  rw [e,List.map_cons]at e2
  rw [(List.cons.inj e2).1]at this
  have:(49:UInt8).toNat=49:=rfl
  omega
theorem zFK (hn:n≤6):∀(w acc:List Int),(∀l∈w,1≤l∧l≤(n:Int))→wpF n acc (w.map fun l=>UInt8.ofNat (96+l).toNat)=some (acc++w)
 | [],acc,_=>by rw [List.map_nil,wpF,List.append_nil]
 | l::w,acc,h=>by
  have b:=h l (by simp)
  have e:=zCY b.1 (by omega)
  rw [List.map_cons,wpF,e,if_pos ⟨by omega,by omega⟩,show(((96+l.toNat:Nat):Int)-97+1)=l by omega,zFK hn w _ fun q hq=>h q (by simp [hq])]
  simp
theorem zFa (hn:n≤6):∀(w acc:List Int),(∀l∈w,1≤l∧l≤(n:Int))→rwF n acc (w.map fun l=>UInt8.ofNat (96+l).toNat)=some (acc++w)
 | [],acc,_=>by rw [List.map_nil,rwF,List.append_nil]
 | l::w,acc,h=>by
  have b:=h l (by simp)
  have e:=zCY b.1 (by omega)
  have el:ltN (96+l.toNat)=l:=by unfold ltN;rw [if_neg (by omega)];omega
  rw [List.map_cons,rwF,e,el,if_neg (by rintro (h | h | h)<;>omega),zFa hn w _ fun q hq=>h q (by simp [hq])]
  simp
theorem zL7 (hn:n≤6) {w:List Int} (h:∀l∈w,1≤l∧l≤(n:Int)):lpF n (wordB w)=some w:=by
 rcases zCm (w:=w) fun l hl=>by have:=h l hl;omega with ⟨rfl,e⟩|⟨h1,h2,e⟩
 ·rw [e];rfl
 ·rw [lpF,if_neg h1,if_neg h2,e,zFK hn w [] h];rfl
theorem zLJ (hn:n≤6) {w:List Int} (h:∀l∈w,1≤l∧l≤(n:Int)):rdF n (wordB w)=some w:=by
 rcases zCm (w:=w) fun l hl=>by have:=h l hl;omega with ⟨rfl,e⟩|⟨h1,h2,e⟩
 ·rw [e];rfl
 ·rw [rdF,if_neg h1,if_neg h2,e,zFa hn w [] h];rfl
theorem zHg:∀(u acc:List Int) (w:List Int),vcF acc (u++w)=(vcF acc u).bind fun a=>vcF a w
 | [],acc,w=>rfl
 | x::u,acc,w=>by
  rw [List.cons_append,vcF,vcF]
  split
  ·rfl
  ·exact zHg u _ w
theorem zHe (i:Nat):∀(k:Nat) (acc:List Int),i<acc.length→vcF acc (List.replicate k ((i:Int)+1))=some (acc.set i (acc.getD i 0+k))
 | 0,acc,h=>by
  rw [List.replicate_zero,vcF]
  congr 1
  rw [List.getD_eq_getElem?_getD,List.getElem?_eq_getElem h]
  simp
 | k+1,acc,h=>by
  rw [List.replicate_succ,vcF,if_neg (by omega),show((i:Int)+1-1).toNat=i by omega,zHe i k _ (by simpa using h)]
  congr 1
  rw [List.set_set]
  congr 1
  rw [List.getD_eq_getElem?_getD,List.getElem?_set_self h];simp only [Option.getD_some];omega
theorem zEg {x:List Int} (hx:∀j,j<x.length→0≤at_ x j):∀i,i≤x.length→vcF (List.replicate x.length 0) (Mx.nword x i)=some (x.take i++List.replicate (x.length-i) 0)
 | 0,_=>by rw [Mx.nword,vcF];simp
 | i+1,hi=>by
  have hz:=hx i (by omega)
  rw [Mx.nword,zHg,zEg hx i (by omega),Option.bind_some,zHe i _ _ (by simp;omega)]
  congr 1
  have e0:(x.take i++List.replicate (x.length-i) (0:Int)).getD i 0=0:=by
   rw [List.getD_eq_getElem?_getD,List.getElem?_append_right (by simp;omega)]
   simp only [List.length_take,Nat.min_eq_left (by omega:i≤x.length),Nat.sub_self]
   rw [List.getElem?_replicate,if_pos (by omega)]
   rfl
  rw [e0];have e1:(0:Int)+(nx x i:Int)=x[i]:=by rw [at_eq (by omega)]at hz;unfold nx;rw [at_eq (by omega)];omega
  rw [e1];apply List.ext_getElem? ;intro j;rw [List.getElem?_set,List.length_append,List.length_take,List.length_replicate];have ml:min i x.length=i:=by omega
  have ml1:min (i+1) x.length=i+1:=by omega
  by_cases hj:i=j
  ·subst hj
   rw [if_pos rfl,if_pos (by omega),List.getElem?_append_left (by simp;omega),List.getElem?_take_of_lt (by omega),List.getElem?_eq_getElem (by omega)]
  ·rw [if_neg hj]
   rcases Nat.lt_or_ge j i with h|h
   ·rw [List.getElem?_append_left (by simp;omega),List.getElem?_append_left (by simp;omega),List.getElem?_take_of_lt h,List.getElem?_take_of_lt (by omega)]
   ·rw [List.getElem?_append_right (by simp;omega),List.getElem?_append_right (by simp;omega),List.length_take,List.length_take,ml,ml1,List.getElem?_replicate,List.getElem?_replicate]
    rcases Nat.lt_or_ge j x.length with h2|h2
    ·rw [if_pos (by omega),if_pos (by omega)]
    ·rw [if_neg (by omega),if_neg (by omega)]
theorem zJa {x:List Int} (hx:∀j,j<x.length→0≤at_ x j):vcF (List.replicate x.length 0) (Mx.nw x)=some x:=by
 rw [Mx.nw,zEg hx x.length (Nat.le_refl _)]
 simp
theorem nw_le (hn:n≤6) {x:List Int} (hl:x.length=n):∀l∈Mx.nw x,1≤l∧l≤(n:Int):=Mx.nword_in (n:=n) (by omega)
theorem zML (hn:n≤6) {x:List Int} (hl:x.length=n) (hx:∀j,j<x.length→0≤at_ x j):exF n (wordB (Mx.nw x))=some x:=by
 have:=zJa hx
 rw [hl]at this
 rw [exF,zLJ hn (nw_le hn hl)];exact this
theorem zH0 {i:Nat} (h:i<n) (hn:n≤6):geF n [letB i]=some i:=by
 have:=Zu (i:=i) (by omega)
 rw [geF,this,if_pos (by omega)]
 congr 1
 omega
end Go.Proofs
