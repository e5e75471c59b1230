/- Spans of Lie rings, the reference's side. -/
import Derived.Test.YtjlpbpfaihhamaaGreatDoorAP30
open Int renaming reduceNatCast'→iQ0
set_option maxRecDepth 100000
namespace Go.Grp
end Go.Grp
set_option linter.unusedSimpArgs false
set_option linter.unusedVariables false
namespace Go.Proofs
open Go.Ab Go.Lie Go.Grp
variable {σ:PHeap} {K:PV→PHeap→Prop} {O:List Int} {P:List (List Int)} {C:List (List (List Int))} {vO vP vC vx vf:PV} {x y f:List Int} {rP rC:List PV} {d:Nat}
theorem zNZ {s off l:Nat} {cap:Cap} {ys:List Int} (hs:s<σ.next) (hr:σ.rd s off l=some (pis ys)) (hl:ys.length=l) (hb:l≤1048576) (hk:∀a,K (.fz true a l (pis ys)) σ):zA Tryz.prog 63 [.sl s off l cap] σ K:=by
 refine zA.gh ?_;have hne:¬s=σ.next:=Nat.ne_of_lt hs;refine zD mix Tryz.func63 ?_;simp only [pwA,seval,-iQ0];refine PSl.app (b:=0) (news:=pis ys) (m:=l) (zB σ _) (Nat.zero_le _) (PSl.new _ 1 rfl (Nat.le_refl _)) rfl (fun h0=>?_) (by rw [zG,hl,Nat.mul_one]) (by omega) (by omega) fun v' h' k1 k2=>?_
 ·rw [Z6]
  simp only [h0,if_false,Nat.le_refl,if_true,Nat.mul_one,QC,hne];exact hr
 ·simp only [pwA,seval,-iQ0]at k2 ⊢
  exact k2.fin k1 (zh _ _) fun o cap=>hk _
theorem zIj {α:Type} {m:α→α→α} {h:Nat→α} {x:Nat→Nat} {c:Nat}:∀{k t:Nat} {a:α},(∀j,t≤j→j<t+k→x j=0)→fo m h x t (k+c) a=fo m h x (t+k) c a
 | 0,t,a,_=>by rw [Nat.zero_add,Nat.add_zero]
 | k+1,t,a,h0=>by
  rw [show k+1+c=(k+c)+1 by omega,fo,h0 t (Nat.le_refl _) (by omega)]
  show fo _ _ _ (t+1) (k+c) a=_;rw [zIj (fun j h1 h2=>h0 j (by omega) (by omega)),show t+1+k=t+(k+1) by omega]
theorem zOb (s:Shp O P C) (F:Full O P C d) (hx:TT O (O.length-d) x) (hf:TT O (O.length-d) f):fo (mu O P C d) (Grp.unit O) (nx f) 0 O.length x=mu O P C d x f:=by
 have hle:=F.le;have M:=F.gp.toMon;have h1:=zIj (m:=mu O P C d) (h:=Grp.unit O) (x:=nx f) (c:=d) (k:=O.length-d) (t:=0) (a:=x) fun j _ h2=>by show(at_ f j).toNat=0;rw [hf.zero j (by omega)];rfl
 rw [show O.length-d+d=O.length by omega,Nat.zero_add]at h1
 rw [h1,M.fo_eq (fun j h1 h2=>s.unit (by omega) h1) hx]
 congr 1
 exact F.nf hf
def TGok (O:List Int) (P:List (List Int)) (C:List (List (List Int))) (d j:Nat):Prop:=
 ∀(σ:PHeap) (K:PV→PHeap→Prop) (sp se:Nat) (cap:Cap) (x:List Int) (vO vP vC:PV),PtrG σ sp vO vP vC→IsPr vO vP vC O P C→σ.obj se=some (pis x)→se<σ.next→sp≠se→full 1 cap O.length→TT O (O.length-d) x→
  K (.tup []) (σ.set se (pis (mu O P C d x (Grp.unit O j))))→zA Tryz.prog 166 [.ptr sp 0,.sl se 0 O.length cap,.int .i64 j] σ K
theorem QA (s:Shp O P C) (F:Full O P C d) {t:Nat} (ht:O.length-d≤t) (hTG:∀j,t≤j→j<O.length→TGok O P C d j) {sp se:Nat} {cap:Cap} (hs:PtrG σ sp vO vP vC) (hR:IsPr vO vP vC O P C)
  (he:σ.obj se=some (pis x)) (hse:se<σ.next) (hne:sp≠se) (hcap:full 1 cap O.length) (hx:TT O (O.length-d) x) (hf:TT O t f) (hvf:FI vf f) (hk:K (.tup []) (σ.set se (pis (mu O P C d x f)))):zA Tryz.prog 145 [.ptr sp 0,.sl se 0 O.length cap,vf] σ K:=by
 have hn6:=s.le;have hfl:=hf.len;have M:=F.gp.toMon;obtain⟨wf,af,rfl⟩:=hvf;refine zD mix Tryz.func145 ?_;simp only [pwA,seval,-iQ0];refine zC (fun m vs h'=>∃(q:Nat) (y:List Int),q≤O.length∧m=O.length-q∧vs=[.ptr sp 0,.sl se 0 O.length cap,.fz wf af f.length (pis f),.int .i64 f.length,.int .i64 q]∧h'=σ.set se (pis y)∧TT O (O.length-d) y∧fo (mu O P C d) (Grp.unit O) (nx f) q (O.length-q) y=mu O P C d x f) O.length ?_ ?_
 ·exact⟨0,x,by omega,by omega,rfl,(zDm he).symm,hx,zOb s F hx (hf.mono ht)⟩
 rintro m vs h' ⟨q,y,hq,rfl,rfl,rfl,hy,hfo⟩
 simp only [pwA,seval,-iQ0];refine iteI (fun hlt=>?_) fun hge=>?_
 rotate_left
 ·have hqe:q=O.length:=by omega
  subst hqe;rw [Nat.sub_self]at hfo
  rw [←hfo]at hk
  exact hk
 have hqO:q<O.length:=by omega
 have bf:=hf.bd q hqO;have bO:=s.pr q hqO;have hnx:((nx f q:Nat):Int)=at_ f q:=Int.toNat_of_nonneg bf.1;rw [show O.length-q=(O.length-(q+1))+1 by omega]at hfo
 simp only [pwA,seval,-iQ0,pisAt hlt,hlt];refine zC (fun m vs h'=>∃(k:Nat) (y:List Int),k≤nx f q∧m=nx f q-k∧vs=[.ptr sp 0,.sl se 0 O.length cap,.int .i64 q,.fz wf af f.length (pis f),.int .i64 f.length,.int .i64 q,.int .i64 (at_ f q),.int .i64 k]∧h'=σ.set se (pis y)∧TT O (O.length-d) y∧fo (mu O P C d) (Grp.unit O) (nx f) (q+1) (O.length-(q+1)) (rep (mu O P C d) (Grp.unit O q) (nx f q-k) y)=mu O P C d x f) (nx f q) ?_ ?_
 ·exact⟨0,y,by omega,by omega,rfl,rfl,hy,hfo⟩
 rintro m vs h' ⟨k,y,hkn,rfl,rfl,rfl,hy,hfo⟩
 simp only [pwA,seval,-iQ0];refine iteI (fun hlt2=>?_) fun hge2=>?_
 ·have hlt3:k<nx f q:=by omega
  have htq:t≤q:=by
   rcases Nat.lt_or_ge q t with h|h
   ·have:=hf.zero q h;omega
   ·exact h
  have hu:TT O (O.length-d) (Grp.unit O q):=s.unit hqO (by omega)
  refine hTG q htq hqO _ _ sp se cap y vO vP vC (hs.set hne _) hR (by simp only [pwA,seval,-iQ0]) hse hne hcap hy ?_
  simp only [pwA,seval,-iQ0,wrapS hlt3 (by omega:nx f q≤4611686018427387904)]
  refine⟨_,by omega,k+1,_,by omega,rfl,rfl,rfl,M.cl hy hu,?_⟩
  rw [show nx f q-k=(nx f q-(k+1))+1 by omega]at hfo
  exact hfo
 ·have hke:k=nx f q:=by omega
  subst hke;rw [Nat.sub_self]at hfo
  simp only [pwA,seval,-iQ0,wrapS hlt (by omega:f.length≤4611686018427387904)]
  exact⟨_,by omega,q+1,y,by omega,rfl,rfl,rfl,hy,hfo⟩
end Go.Proofs
namespace Go.Grp
end Go.Grp
namespace Go.Proofs
open Go.Ab Go.Lie Go.Grp
variable {σ:PHeap} {K:PV→PHeap→Prop} {O:List Int} {P:List (List Int)} {C:List (List (List Int))} {vO vP vC vx vf:PV} {x y f:List Int} {rP rC:List PV} {d j:Nat}
def zr (x:List Int) (j:Nat):Nat→List Int
 | 0=>x
 | k+1=>(zr x j k).set (j+(1+k)) 0
theorem zBS:∀k,(zr x j k).length=x.length
 | 0=>rfl
 | k+1=>by rw [zr,List.length_set];exact zBS k
theorem zr_at:∀{k:Nat},j+(1+k)≤x.length→∀t,at_ (zr x j k) t=if j<t∧t<j+(1+k)then 0 else at_ x t
 | 0,_,t=>by rw [if_neg (by omega)];rfl
 | k+1,h,t=>by
  rw [zr,at_set (by rw [zBS];omega)]
  split
  ·rename_i e;rw [if_pos (by omega)]
  ·rename_i e
   rw [zr_at (by omega)]
   by_cases g:j<t∧t<j+(1+k)
   ·rw [if_pos g,if_pos (by omega)]
   ·rw [if_neg g,if_neg (by omega)]
theorem zOw (hj:j<x.length):zr x j (x.length-1-j)=hdz x j:=by
 refine zEj (by rw [zBS,zC4]) fun t ht=>?_
 rw [zBS]at ht
 rw [zr_at (by omega),zBZ]
 by_cases g:t≤j
 ·rw [if_neg (by omega),if_pos g]
 ·rw [if_pos (by omega),if_neg g]
theorem zHl {se n:Nat} {cap:Cap} (hc:full 1 cap n) (hj:j+1≤n):∃off cap',zAD 1 (.sl se 0 n cap) (some (.int .i64 ((j+1:Nat):Int))) none none=some (.sl se off (n-(j+1)) cap')∧(off=j+1∨(off=0∧n-(j+1)=0)):=by
 have e:(0:Int)≤((j+1:Nat):Int)∧((j+1:Nat):Int)≤(n:Int):=⟨by omega,by omega⟩
 rcases hc with rfl|rfl
 ·refine⟨j+1,.grown 1,?_,.inl rfl⟩
  rw [zCQ];simp only [zAv,zAu,zBq,Option.bind_some,if_pos e,Int.toNat_natCast]
  simp
 ·rw [zCP]
  simp only [zAv,zAu,zBq,Option.bind_some,if_pos e,Int.toNat_natCast]
  by_cases h:n=j+1
  ·refine⟨0,.known (n-(j+1)),?_,.inr ⟨rfl,by omega⟩⟩
   rw [if_pos h];simp
  ·refine⟨j+1,.known (n-(j+1)),?_,.inl rfl⟩
   rw [if_neg h];simp
theorem Ze (s:Shp O P C) (F:Full O P C d):∀(r:Nat) {j:Nat},O.length-d≤j→j<O.length→O.length-j≤r→TGok O P C d j
 | 0,j,h1,h2,h3=>by omega
 | r+1,j,h1,h2,h3=>by
  intro σ K sp se cap x vO vP vC hs hR he hse hne hcap hx hk;have hTG:∀j',j+1≤j'→j'<O.length→TGok O P C d j':=fun j' g1 g2=>Ze s F r (by omega) g2 (by omega)
  have hn6:=s.le;have hR0:=hR;have hs0:=hs;have hxl:=hx.len;have hjx:j<x.length:=by omega
  have bx:=hx.bd j h2;have bO:=s.pr j h2;have M:=F.gp.toMon;rw [←zLo s F hx h1 h2]at hk
  obtain⟨⟨w0,a0,rfl⟩,⟨w1,a1,rP,rfl,hP⟩,⟨w3,a3,rC,rfl,hC⟩⟩:=hR;obtain⟨w5,a5,rs,hrb,hrs⟩:=cvRow s hC h2;obtain⟨w6,a6,hpr⟩:=pvRow s hP h2;have hjC:j<C.length:=by rw [s.cl];exact h2
  have hjP:j<P.length:=by rw [s.pl];exact h2
  have hpv:=s.pw j h2;have e0:σ.rd1 sp 0=some (.fz w0 a0 O.length (pis O)):=by rw [zi hs.obj];rfl
  have e1:σ.rd1 sp 1=some (.fz w1 a1 P.length rP):=by rw [zi hs.obj];rfl
  have e2:σ.rd1 sp 2=some (.fz w3 a3 C.length rC):=by rw [zi hs.obj];rfl
  have ern:∀t,σ.rd1 se t=(pis x)[t]?:=fun t=>zi he t
  obtain⟨off,cap',hsl,hoff⟩:=zHl (se:=se) hcap (Nat.succ_le_of_lt h2);have wj1:IntKind.i64.wrap ((j:Int)+1)=((j+1:Nat):Int):=wrapS h2 (by omega)
  refine zD mix Tryz.func166 ?_;simp only [pwA,seval,-iQ0,wj1,hsl];have hdl:(x.drop (j+1)).length=O.length-(j+1):=by simp [hxl]
  refine zNZ hse (ys:=x.drop (j+1)) ?_ hdl (by omega) fun av=>?_
  ·rw [ZE he,zG]
   rcases hoff with rfl|⟨rfl,h0⟩
   ·rw [if_pos (by omega),←zMT,List.take_of_length_le (by rw [List.length_drop,zG];omega)]
   ·rw [h0,if_pos (by omega),List.take_zero,List.drop_eq_nil_of_le (by omega)];rfl
  simp only [pwA,seval,-iQ0,zG];refine zC (fun m vs h'=>∃k:Nat,k≤O.length-(j+1)∧m=O.length-(j+1)-k∧vs=[.ptr sp 0,.sl se 0 O.length cap,.int .i64 j,.fz true av (O.length-(j+1)) (pis (x.drop (j+1))),.int .i64 ((O.length-(j+1):Nat):Int),.int .i64 k]∧h'=σ.set se (pis (zr x j k))) (O.length-(j+1)) ?_ ?_
  ·exact⟨0,by omega,by omega,rfl,(zDm he).symm⟩
  ·rintro m vs h' ⟨k,hk1,rfl,rfl,rfl⟩
   simp only [pwA,seval,-iQ0];refine iteI (fun hlt=>?_) fun hge=>?_
   ·have e3:IntKind.i64.wrap (((j+1:Nat):Int)+(k:Int))=((j+(1+k):Nat):Int):=by rw [wrap64 (by omega) (by omega)];omega
    have hjl:j+(1+k)<O.length:=by omega
    have hjz:j+(1+k)<(zr x j k).length:=by rw [zBS];omega
    have hset:(pis (zr x j k)).take (j+(1+k))++[.int .i64 0]++(pis (zr x j k)).drop (j+(1+(k+1)))=pis (zr x j (k+1)):=by rw [show j+(1+(k+1))=j+(1+k)+1 by omega];exact qZ hjz
    have hle2:j+(1+(k+1))≤O.length:=by omega
    simp only [pwA,seval,-iQ0,wj1,e3,hjl,zG,zBS,hxl,hle2,hset,wrapS hlt (by omega:O.length-(j+1)≤4611686018427387904)]
    exact⟨_,by omega,k+1,by omega,rfl,rfl,rfl⟩
   have hke:k=x.length-1-j:=by omega
   subst hke;rw [zOw hjx];have hzl:(hdz x j).length=O.length:=by rw [zC4];exact hxl
   have hjz:j<(hdz x j).length:=by omega
   have hdat:at_ (hdz x j) j=at_ x j:=by rw [zBZ,if_pos (Nat.le_refl _)]
   have wx1:IntKind.i64.wrap (at_ x j+1)=at_ x j+1:=wrap64 (by omega) (by omega)
   have hz2:j<((hdz x j).set j (at_ x j+1)).length:=by rw [List.length_set];exact hjz
   have hat2:at_ ((hdz x j).set j (at_ x j+1)) j=at_ x j+1:=by rw [at_set hjz,if_pos rfl]
   have p1:=pisAt hjz;have p2:=pisAt hz2;rw [hdat]at p1
   rw [hat2]at p2
   have hsle:j+1≤O.length:=h2;simp only [pwA,seval,-iQ0,h2,hzl,zG,p1,wx1,hsle,qZ hjz,Qy];simp only [pwA,seval,-iQ0,h2,hzl,zG,p1,p2,wx1,hsle,qZ hjz,Qy,hne,e0,pisAt h2];refine iteI (fun heq=>?_) fun hneq=>?_
   ·have hh0:((hdz x j).set j (at_ x j+1)).set j 0=(hdz x j).set j 0:=by rw [List.set_set]
    simp only [pwA,seval,-iQ0,h2,hzl,List.length_set,zG,hsle,qZ hz2,hh0,hne,e1,hjP,hpr];have ht0:TT O (O.length-d) ((hdz x j).set j 0):=(zGz hx fun t ht=>s.pos ht).set h2 h1 ⟨by omega,by omega⟩
    refine QA s F (t:=j+1) (by omega) hTG (hs0.set hne (pis ((hdz x j).set j 0))) hR0 (x:=(hdz x j).set j 0) (by simp only [pwA,seval,-iQ0]) hse hne hcap ht0 hpv (FI.mk hpv.len) ?_
    simp only [pwA,seval,-iQ0,Qy];have hY:TT O (O.length-d) (mu O P C d ((hdz x j).set j 0) (pvec P j)):=M.cl ht0 (hpv.mono (by omega))
    have hfoY:fo (mu O P C d) (cvec C j) (nx x) (j+(1+0)) (O.length-(j+1)-0) (mu O P C d ((hdz x j).set j 0) (pvec P j))=tstep O P C (mu O P C d) x j:=by
     rw [tstep,if_pos heq,show O.length-1-j=O.length-(j+1)-0 by omega]
    generalize mu O P C d ((hdz x j).set j 0) (pvec P j)=Y at hY hfoY ⊢
    refine zC (fun m vs h'=>∃(k:Nat) (y:List Int),k≤O.length-(j+1)∧m=O.length-(j+1)-k∧vs=[.ptr sp 0,.sl se 0 O.length cap,.int .i64 j,.fz true av (O.length-(j+1)) (pis (x.drop (j+1))),.int .i64 ((O.length-(j+1):Nat):Int),.int .i64 k]∧h'=σ.set se (pis y)∧TT O (O.length-d) y∧fo (mu O P C d) (cvec C j) (nx x) (j+(1+k)) (O.length-(j+1)-k) y=tstep O P C (mu O P C d) x j) (O.length-(j+1)) ?_ ?_
    ·exact⟨0,Y,by omega,by omega,rfl,rfl,hY,hfoY⟩
    rintro m vs h' ⟨k,y,hk1,rfl,rfl,rfl,hy,hfo⟩
    simp only [pwA,seval,-iQ0];refine iteI (fun hlt=>?_) fun hge=>?_
    rotate_left
    ·have hke:O.length-(j+1)-k=0:=by omega
     rw [hke]at hfo
     rw [←hfo]at hk
     exact hk
    have hjl:j+(1+k)<O.length:=by omega
    have hkd:k<(x.drop (j+1)).length:=by omega
    have hdat3:at_ (x.drop (j+1)) k=at_ x (j+(1+k)):=by
     simp only [at_,List.getD_eq_getElem?_getD,List.getElem?_drop,show j+1+k=j+(1+k) by omega]
    have pk:=pisAt hkd;rw [hdat3]at pk
    have bk:=hx.bd (j+(1+k)) hjl;have bOk:=s.pr _ hjl;have hnx:((nx x (j+(1+k)):Nat):Int)=at_ x (j+(1+k)):=Int.toNat_of_nonneg bk.1;obtain⟨w7,a7,hrk⟩:=hrs k (by omega)
    have hcv:=s.cj j (j+(1+k)) (by omega) hjl
    have hkr:k<O.length-1-j:=by omega
    rw [show O.length-(j+1)-k=(O.length-(j+1)-k-1)+1 by omega]at hfo
    simp only [pwA,seval,-iQ0,pk,hkd,hlt];refine zC (fun m vs h'=>∃(q:Nat) (y:List Int),q≤nx x (j+(1+k))∧m=nx x (j+(1+k))-q∧vs=[.ptr sp 0,.sl se 0 O.length cap,.int .i64 j,.int .i64 k,.fz true av (O.length-(j+1)) (pis (x.drop (j+1))),.int .i64 ((O.length-(j+1):Nat):Int),.int .i64 k,.int .i64 (at_ x (j+(1+k))),.int .i64 q]∧h'=σ.set se (pis y)∧TT O (O.length-d) y∧fo (mu O P C d) (cvec C j) (nx x) (j+(1+k)+1) (O.length-(j+1)-k-1) (rep (mu O P C d) (cvec C j (j+(1+k))) (nx x (j+(1+k))-q) y)=tstep O P C (mu O P C d) x j) (nx x (j+(1+k))) ?_ ?_
    ·exact⟨0,y,by omega,by omega,rfl,rfl,hy,hfo⟩
    rintro m vs h' ⟨q,y,hqn,rfl,rfl,rfl,hy,hfo⟩
    simp only [pwA,seval,-iQ0];refine iteI (fun hlt2=>?_) fun hge2=>?_
    ·have hlt3:q<nx x (j+(1+k)):=by omega
     simp only [pwA,seval,-iQ0,hne,e2,hjC,hrb,hkr,hrk];refine QA s F (t:=j+1) (by omega) hTG (hs0.set hne (pis y)) hR0 (x:=y) (by simp only [pwA,seval,-iQ0]) hse hne hcap hy hcv (FI.mk hcv.len) ?_
     simp only [pwA,seval,-iQ0,Qy,wrapS hlt3 (by omega:nx x (j+(1+k))≤4611686018427387904)]
     refine⟨_,by omega,q+1,_,by omega,rfl,rfl,rfl,M.cl hy (hcv.mono (by omega)),?_⟩
     rw [show nx x (j+(1+k))-q=(nx x (j+(1+k))-(q+1))+1 by omega]at hfo
     exact hfo
    ·have hqe:q=nx x (j+(1+k)):=by omega
     subst hqe;rw [Nat.sub_self]at hfo
     simp only [pwA,seval,-iQ0,wrapS hlt (by omega:O.length-(j+1)≤4611686018427387904)]
     refine⟨_,by omega,k+1,y,by omega,rfl,rfl,rfl,hy,?_⟩
     rw [show O.length-(j+1)-(k+1)=O.length-(j+1)-k-1 by omega]
     exact hfo
   ·have hY:TT O (O.length-d) ((hdz x j).set j (at_ x j+1)):=(zGz hx fun t ht=>s.pos ht).set h2 h1 ⟨by omega,by omega⟩
    have hfoY:fo (mu O P C d) (cvec C j) (nx x) (j+(1+0)) (O.length-(j+1)-0) ((hdz x j).set j (at_ x j+1))=tstep O P C (mu O P C d) x j:=by
     rw [tstep,if_neg hneq,show O.length-1-j=O.length-(j+1)-0 by omega]
    clear p2 hat2 hz2;generalize (hdz x j).set j (at_ x j+1)=Y at hY hfoY ⊢
    refine zC (fun m vs h'=>∃(k:Nat) (y:List Int),k≤O.length-(j+1)∧m=O.length-(j+1)-k∧vs=[.ptr sp 0,.sl se 0 O.length cap,.int .i64 j,.fz true av (O.length-(j+1)) (pis (x.drop (j+1))),.int .i64 ((O.length-(j+1):Nat):Int),.int .i64 k]∧h'=σ.set se (pis y)∧TT O (O.length-d) y∧fo (mu O P C d) (cvec C j) (nx x) (j+(1+k)) (O.length-(j+1)-k) y=tstep O P C (mu O P C d) x j) (O.length-(j+1)) ?_ ?_
    ·exact⟨0,Y,by omega,by omega,rfl,rfl,hY,hfoY⟩
    rintro m vs h' ⟨k,y,hk1,rfl,rfl,rfl,hy,hfo⟩
    simp only [pwA,seval,-iQ0];refine iteI (fun hlt=>?_) fun hge=>?_
    rotate_left
    ·have hke:O.length-(j+1)-k=0:=by omega
     rw [hke]at hfo
     rw [←hfo]at hk
     exact hk
    have hjl:j+(1+k)<O.length:=by omega
    have hkd:k<(x.drop (j+1)).length:=by omega
    have hdat3:at_ (x.drop (j+1)) k=at_ x (j+(1+k)):=by
     simp only [at_,List.getD_eq_getElem?_getD,List.getElem?_drop,show j+1+k=j+(1+k) by omega]
    have pk:=pisAt hkd;rw [hdat3]at pk
    have bk:=hx.bd (j+(1+k)) hjl;have bOk:=s.pr _ hjl;have hnx:((nx x (j+(1+k)):Nat):Int)=at_ x (j+(1+k)):=Int.toNat_of_nonneg bk.1;obtain⟨w7,a7,hrk⟩:=hrs k (by omega)
    have hcv:=s.cj j (j+(1+k)) (by omega) hjl
    have hkr:k<O.length-1-j:=by omega
    rw [show O.length-(j+1)-k=(O.length-(j+1)-k-1)+1 by omega]at hfo
    simp only [pwA,seval,-iQ0,pk,hkd,hlt];refine zC (fun m vs h'=>∃(q:Nat) (y:List Int),q≤nx x (j+(1+k))∧m=nx x (j+(1+k))-q∧vs=[.ptr sp 0,.sl se 0 O.length cap,.int .i64 j,.int .i64 k,.fz true av (O.length-(j+1)) (pis (x.drop (j+1))),.int .i64 ((O.length-(j+1):Nat):Int),.int .i64 k,.int .i64 (at_ x (j+(1+k))),.int .i64 q]∧h'=σ.set se (pis y)∧TT O (O.length-d) y∧fo (mu O P C d) (cvec C j) (nx x) (j+(1+k)+1) (O.length-(j+1)-k-1) (rep (mu O P C d) (cvec C j (j+(1+k))) (nx x (j+(1+k))-q) y)=tstep O P C (mu O P C d) x j) (nx x (j+(1+k))) ?_ ?_
    ·exact⟨0,y,by omega,by omega,rfl,rfl,hy,hfo⟩
    rintro m vs h' ⟨q,y,hqn,rfl,rfl,rfl,hy,hfo⟩
    simp only [pwA,seval,-iQ0];refine iteI (fun hlt2=>?_) fun hge2=>?_
    ·have hlt3:q<nx x (j+(1+k)):=by omega
     simp only [pwA,seval,-iQ0,hne,e2,hjC,hrb,hkr,hrk];refine QA s F (t:=j+1) (by omega) hTG (hs0.set hne (pis y)) hR0 (x:=y) (by simp only [pwA,seval,-iQ0]) hse hne hcap hy hcv (FI.mk hcv.len) ?_
     simp only [pwA,seval,-iQ0,Qy,wrapS hlt3 (by omega:nx x (j+(1+k))≤4611686018427387904)]
     refine⟨_,by omega,q+1,_,by omega,rfl,rfl,rfl,M.cl hy (hcv.mono (by omega)),?_⟩
     rw [show nx x (j+(1+k))-q=(nx x (j+(1+k))-(q+1))+1 by omega]at hfo
     exact hfo
    ·have hqe:q=nx x (j+(1+k)):=by omega
     subst hqe;rw [Nat.sub_self]at hfo
     simp only [pwA,seval,-iQ0,wrapS hlt (by omega:O.length-(j+1)≤4611686018427387904)]
     refine⟨_,by omega,k+1,y,by omega,rfl,rfl,rfl,hy,?_⟩
     rw [show O.length-(j+1)-(k+1)=O.length-(j+1)-k-1 by omega]
     exact hfo
theorem Zf (s:Shp O P C) (F:Full O P C d) {sp se:Nat} {cap:Cap} (hs:PtrG σ sp vO vP vC) (hR:IsPr vO vP vC O P C)
  (he:σ.obj se=some (pis x)) (hse:se<σ.next) (hne:sp≠se) (hcap:full 1 cap O.length) (hx:TT O (O.length-d) x) (hf:TT O (O.length-d) f) (hvf:FI vf f) (hk:K (.tup []) (σ.set se (pis (mu O P C d x f)))):zA Tryz.prog 145 [.ptr sp 0,.sl se 0 O.length cap,vf] σ K:=
 QA s F (Nat.le_refl _) (fun j h1 h2=>Ze s F O.length h1 h2 (by omega)) hs hR he hse hne hcap hx hf hvf hk
end Go.Proofs
namespace Go.Grp
end Go.Grp
namespace Go.Proofs
open Go.Ab Go.Lie Go.Grp
variable {σ:PHeap} {K:PV→PHeap→Prop} {O:List Int} {P:List (List Int)} {C:List (List (List Int))} {vO vP vC vx vf va vb:PV} {x y f a b:List Int} {rP rC:List PV} {d j sp:Nat}
theorem zEF {v:PV} {sp:Nat} (hf:f=[]) (hvf:FI vf f) (hk:K (.tup []) σ):zA Tryz.prog 145 [.ptr sp 0,v,vf] σ K:=by
 obtain⟨wf,af,rfl⟩:=hvf;subst hf;refine zD mix Tryz.func145 ?_;simp only [pwA,seval,-iQ0];refine zC (fun m vs h'=>m=0∧vs=[.ptr sp 0,v,.fz wf af ([]:List Int).length (pis []),.int .i64 (([]:List Int).length:Nat),.int .i64 (0:Nat)]∧σ=h') 0 ⟨rfl,rfl,rfl⟩ ?_
 rintro m vs h' ⟨rfl,rfl,rfl⟩
 simp only [pwA,seval,-iQ0];exact hk
theorem zDV (s:Shp O P C) (F:Full O P C d) (hs:PtrG σ sp vO vP vC) (hR:IsPr vO vP vC O P C) (ha:TT O (O.length-d) a) (hb:TT O (O.length-d) b) (hva:FI va a) (hvb:FI vb b) (hk:ResI σ K (mu O P C d a b)):
  zA Tryz.prog 146 [.ptr sp 0,va,vb] σ K:=by
 have hn6:=s.le;have hal:=ha.len;have hml:=(F.gp.cl ha hb).len;have hne:sp≠σ.next:=Nat.ne_of_lt hs.lt;obtain⟨wa,aa,rfl⟩:=hva;refine zA.gh ?_;refine zD mix Tryz.func146 ?_;simp only [pwA,seval,-iQ0];refine zA8 rfl (by omega) ⟨fun h0=>?_,fun cap hc=>?_⟩
 ·have hb0:b=[]:=List.eq_nil_of_length_eq_zero (by rw [hb.len,←hal,h0];rfl)
  simp only [pwA,seval,-iQ0];refine zEF hb0 hvb ?_;simp only [pwA,seval,-iQ0];exact Gh.fin0 (Keep.refl σ) trivial (hk.1 (List.eq_nil_of_length_eq_zero (by show(mu O P C d a b).length=0;rw [hml,←hal,h0];rfl)))
 ·rw [hal]at hc
  rw [hal];simp only [pwA,seval,-iQ0];refine Zf s F (hs.new _) hR (x:=a) (by simp only [pwA,seval,-iQ0]) (by simp only [pwA,seval,-iQ0]) hne hc ha hb hvb ?_
  simp only [pwA,seval,-iQ0];rw [show O.length=(mu O P C d a b).length from hml.symm]at hc ⊢
  exact Gh.finS (zB σ _) (by simp only [pwA,seval,-iQ0]) (Nat.le_refl _) (zh _ _) (hk.2 cap hc)
theorem zH4 (s:Shp O P C) (F:Full O P C d) (hs:PtrG σ sp vO vP vC) (hR:IsPr vO vP vC O P C) (ha:TT O (O.length-d) a) (hb:TT O (O.length-d) b) (hva:FI va a) (hvb:FI vb b) (hk:∀v,FI v (mu O P C d a b)→K v σ):
  zA Tryz.prog 146 [.ptr sp 0,va,vb] σ K:=zA.fzI (fun K'=>zDV s F hs hR ha hb hva hvb) fun a=>hk _ ⟨_,_,rfl⟩
theorem zMG (s:Shp O P C) (F:Full O P C d) (hs:PtrG σ sp vO vP vC) (hR:IsPr vO vP vC O P C) (ha:TT O (O.length-d) a) (hva:FI va a) {k:Int} (hk0:0≤k∧k≤1000000) (hk:ResI σ K (pw (mu O P C d) (zv O) a k.toNat)):
  zA Tryz.prog 118 [.ptr sp 0,va,.int .i64 k] σ K:=by
 have hn6:=s.le;have hal:=ha.len;have M:=F.gp.toMon;have hne:sp≠σ.next:=Nat.ne_of_lt hs.lt;have hva0:=hva;obtain⟨wa,aa,rfl⟩:=hva;rw [hal]at hva0 ⊢
 refine zA.gh ?_;refine zD mix Tryz.func118 ?_;simp only [pwA,seval,-iQ0,List.length_replicate,qh,mk8 (n:=O.length) (by omega),mkL (n:=O.length) (by omega)]
 refine zC (fun m vs h'=>∃q:Nat,q≤k.toNat∧m=k.toNat-q∧vs=[.ptr sp 0,.fz wa aa O.length (pis a),.sl σ.next 0 O.length (.known O.length),.int .i64 k,.int .i64 q]∧h'=σ.new (pis (pw (mu O P C d) (zv O) a q))) k.toNat ?_ ?_
 ·exact⟨0,by omega,by omega,rfl,rfl⟩
 rintro m vs h' ⟨q,hq,rfl,rfl,rfl⟩
 simp only [pwA,seval,-iQ0];refine iteI (fun hlt=>?_) fun hge=>?_
 ·have hlt3:q<k.toNat:=by omega
  have hp:=M.pw ha q;refine Zf s F (hs.new _) hR (x:=pw (mu O P C d) (zv O) a q) (by simp only [pwA,seval,-iQ0]) (by simp only [pwA,seval,-iQ0]) hne (.inr rfl) hp ha hva0 ?_
  simp only [pwA,seval,-iQ0,wrapS hlt3 (by omega:k.toNat≤4611686018427387904)]
  exact⟨_,by omega,q+1,by omega,rfl,rfl,rfl⟩
 ·have hqe:q=k.toNat:=by omega
  subst hqe;have hml:=(M.pw ha k.toNat).len;have hc:full 1 (.known O.length) (pw (mu O P C d) (zv O) a k.toNat).length:=.inr (by rw [hml])
  refine Gh.finS (zB σ _) (by simp only [pwA,seval,-iQ0];rfl) (Nat.le_refl _) (zh _ _) ?_
  have:=hk.2 _ hc
  rwa [hml]at this
theorem zMH (s:Shp O P C) (F:Full O P C d) (hs:PtrG σ sp vO vP vC) (hR:IsPr vO vP vC O P C) (ha:TT O (O.length-d) a) (hva:FI va a) {k:Int} (hk0:0≤k∧k≤1000000) (hk:∀v,FI v (pw (mu O P C d) (zv O) a k.toNat)→K v σ):
  zA Tryz.prog 118 [.ptr sp 0,va,.int .i64 k] σ K:=zA.fzI (fun K'=>zMG s F hs hR ha hva hk0) fun a=>hk _ ⟨_,_,rfl⟩
theorem mu_step (s:Shp O P C) {i:Nat} (hd:O.length-d≤i) (hle:d≤O.length) (hi:i<O.length) (hx:TT O i x):TT O i (mu O P C d x (Grp.unit O i))∧at_ (mu O P C d x (Grp.unit O i)) i=if at_ x i+1=at_ O i then 0 else at_ x i+1:=by
 have hu:TT O i (Grp.unit O i):=s.unit hi (Nat.le_refl _);obtain⟨e,he⟩:∃e,O.length-i=e+1:=⟨O.length-i-1,by omega⟩
 have hie:O.length-(e+1)=i:=by omega
 have e1:mu O P C d x (Grp.unit O i)=mu O P C (e+1) x (Grp.unit O i):=by
  have:=zK6 s (d:=e+1) (k:=d-(e+1)) (u:=x) (v:=Grp.unit O i) (by omega) (by rw [hie];exact hx) (by rw [hie];exact hu)
  rwa [show e+1+(d-(e+1))=d by omega]at this
 have h1:=mu_tt s (d:=e+1) (a:=x) (b:=Grp.unit O i) (by omega) (by rw [hie];exact hx) (by rw [hie];exact hu)
 rw [hie]at h1
 rw [e1];refine⟨h1,?_⟩;have bx:=hx.bd i hi;have bO:=s.pr i hi;have hat:at_ (Grp.unit O i) i=1:=by rw [at_set (by simp;exact hi),if_pos rfl]
 have hpos:=s.pos hi;have hm:∀a b,TT O (i+1) a→TT O (i+1) b→TT O (i+1) (mu O P C e a b):=fun a b ha hb=>by
  have:=mu_tt s (d:=e) (a:=a) (b:=b) (by omega) (by rwa [show O.length-e=i+1 by omega]) (by rwa [show O.length-e=i+1 by omega])
  rwa [show O.length-e=i+1 by omega]at this
 have ir:=hm _ _ (zC2 (fun x _=>zAM s hm x) (nx (Grp.unit O i) i) (hx.set0 hi hpos)) (hu.set0 hi hpos)
 simp only [mu,hie];rw [hat]
 split
 ·have ir2:=hm _ _ (s.pw i hi) ir
  rw [at_set (by rw [ir2.len];exact hi),if_pos rfl]
  split<;>omega
 ·rw [at_set (by rw [ir.len];exact hi),if_pos rfl,if_neg (by omega)]
end Go.Proofs
namespace Go.Grp
end Go.Grp
namespace Go.Proofs
open Go.Ab Go.Lie Go.Grp
variable {σ:PHeap} {K:PV→PHeap→Prop} {O:List Int} {P:List (List Int)} {C:List (List (List Int))} {vO vP vC vx vf va vb:PV} {x y f a b:List Int} {rP rC:List PV} {d j sp:Nat}
theorem zLG (s:Shp O P C) (F:Full O P C d) (hs:PtrG σ sp vO vP vC) (hR:IsPr vO vP vC O P C) (ha:TT O (O.length-d) a) (hva:FI va a) (hk:∀z,TT O (O.length-d) z→mu O P C d a z=zv O→ResI σ K z):
  zA Tryz.prog 147 [.ptr sp 0,va] σ K:=by
 have hn6:=s.le;have hle:=F.le;have hal:=ha.len;have M:=F.gp.toMon;have hne:sp≠σ.next:=Nat.ne_of_lt hs.lt;have hne2:sp≠σ.next+1:=by have:=hs.lt;omega
 obtain⟨wa,aa,rfl⟩:=hva;refine zA.gh ?_;refine zD mix Tryz.func147 ?_;simp only [pwA,seval,-iQ0];refine zA8 rfl (by omega) ⟨fun h0=>?_,fun cap hc=>?_⟩
 ·have hO0:O=[]:=List.eq_nil_of_length_eq_zero (by rw [←hal,h0];rfl)
  subst hO0;subst h0;simp only [pwA,seval,-iQ0,mk8 (n:=0) (by omega),mkL (n:=0) (by omega)]
  refine zC (fun m vs h'=>m=0∧vs=[.ptr sp 0,.fz true .nils 0 [],.sl σ.next 0 0 (.known 0),.int .i64 (0:Nat),.int .i64 (0:Nat)]∧h'=σ.new []) 0 ⟨rfl,rfl,rfl⟩ ?_
  rintro m vs h' ⟨rfl,rfl,rfl⟩
  simp only [pwA,seval,-iQ0];have hd0:d=0:=by simpa using hle
  exact Gh.finS (cs:=pis []) (zB σ _) (by simp only [pwA,seval,-iQ0];rfl) (Nat.le_refl _) (zh _ _) ((hk [] (s.zv _) (by subst hd0;rfl)).2 _ (.inr rfl))
 rw [hal]at hc
 rw [hal];simp only [pwA,seval,-iQ0,List.length_replicate,qh,mk8 (n:=O.length) (by omega),mkL (n:=O.length) (by omega)]
 refine zC (fun m vs h'=>∃(i:Nat) (r z:List Int),i≤O.length∧m=O.length-i∧vs=[.ptr sp 0,.sl σ.next 0 O.length cap,.sl (σ.next+1) 0 O.length (.known O.length),.int .i64 O.length,.int .i64 i]∧h'=(σ.new (pis r)).new (pis z)∧TT O (O.length-d) r∧TT O i r∧TT O (O.length-d) z∧mu O P C d a z=r) O.length ?_ ?_
 ·exact⟨0,a,zv O,by omega,by omega,rfl,rfl,ha,ha.mono (Nat.zero_le _),s.zv _,M.r1 ha⟩
 rintro m vs h' ⟨i,r,z,hi,rfl,rfl,rfl,hr,hri,hz,hinv⟩
 simp only [pwA,seval,-iQ0];refine iteI (fun hlt=>?_) fun hge=>?_
 rotate_left
 ·have hie:i=O.length:=by omega
  subst hie;have hr0:r=zv O:=hri.ext (s.zv _) fun j h1 h2=>by omega
  rw [hr0]at hinv
  have hzl:=hz.len
  have:=(hk z hz hinv).2 (.known O.length) (.inr (by rw [hzl]))
  rw [hzl]at this
  exact Gh.finS (s:=σ.next+1) ((zB σ _).new _) (by simp only [pwA,seval,-iQ0]) (by omega) (zh _ _) this
 simp only [pwA,seval,-iQ0];have bO:=s.pr i hlt;refine zC (fun m vs h'=>∃(r z:List Int),m=((at_ O i-at_ r i) % at_ O i).toNat∧vs=[.ptr sp 0,.sl σ.next 0 O.length cap,.sl (σ.next+1) 0 O.length (.known O.length),.int .i64 i,.int .i64 O.length,.int .i64 i]∧h'=(σ.new (pis r)).new (pis z)∧TT O (O.length-d) r∧TT O i r∧TT O (O.length-d) z∧mu O P C d a z=r) _ ⟨r,z,rfl,rfl,rfl,hr,hri,hz,hinv⟩ ?_
 rintro m vs h' ⟨r,z,rfl,rfl,rfl,hr,hri,hz,hinv⟩
 have hrl:i<r.length:=by rw [hr.len];exact hlt
 have br:=hr.bd i hlt;simp only [pwA,seval,-iQ0,hlt,pisAt hrl];refine iteI (fun heq=>?_) fun hneq=>?_
 ·simp only [pwA,seval,-iQ0,wrapS hlt (by omega:O.length≤4611686018427387904)]
  refine⟨_,by omega,i+1,r,z,by omega,rfl,rfl,rfl,hr,?_,hz,hinv⟩
  refine⟨hri.len,hri.bd,fun t ht=>?_⟩
  by_cases e:t=i
  ·subst e;exact heq
  ·exact hri.zero t (by omega)
 ·have hdi:O.length-d≤i:=by
   rcases Nat.lt_or_ge i (O.length-d)with h|h
   ·exact absurd (hr.zero i h) hneq
   ·exact h
  have hu:TT O (O.length-d) (Grp.unit O i):=s.unit hlt hdi;obtain⟨m1,m2⟩:=mu_step s hdi hle hlt hri;refine Ze s F O.length hdi hlt (by omega) _ _ sp σ.next cap r vO vP vC ((hs.new _).new _) hR (by simp only [pwA,seval,-iQ0]) (by simp only [pwA,seval,-iQ0];omega) hne hc hr ?_
  simp only [pwA,seval,-iQ0];refine Ze s F O.length hdi hlt (by omega) _ _ sp (σ.next+1) (.known O.length) z vO vP vC ((hs.new _).new _) hR (by simp only [pwA,seval,-iQ0]) (by simp only [pwA,seval,-iQ0]) hne2 (.inr rfl) hz ?_
  simp only [pwA,seval,-iQ0];refine⟨_,?_,_,_,rfl,rfl,M.cl hr hu,m1,M.cl hz hu,by rw [←M.as ha hz hu,hinv]⟩
  rw [m2]
  split
  ·rename_i e
   rw [Int.sub_zero,Int.emod_self]
   have:(at_ O i-at_ r i) % at_ O i=at_ O i-at_ r i:=Int.emod_eq_of_lt (by omega) (by omega)
   omega
  ·rename_i e
   have h1:(at_ O i-at_ r i) % at_ O i=at_ O i-at_ r i:=Int.emod_eq_of_lt (by omega) (by omega)
   have h2:(at_ O i-(at_ r i+1)) % at_ O i=at_ O i-(at_ r i+1):=Int.emod_eq_of_lt (by omega) (by omega)
   omega
theorem zFY (s:Shp O P C) (F:Full O P C d) (hs:PtrG σ sp vO vP vC) (hR:IsPr vO vP vC O P C) (ha:TT O (O.length-d) a) (hva:FI va a) (hk:∀v z,TT O (O.length-d) z→mu O P C d a z=zv O→FI v z→K v σ):
  zA Tryz.prog 147 [.ptr sp 0,va] σ K:=
 zA.gh (zLG s F hs hR ha hva fun z h1 h2=>⟨fun h0=>Gh.fin0 (Keep.refl σ) trivial (hk _ z h1 h2 ⟨true,.nils,by rw [h0];rfl⟩),fun cap hc=>Gh.finF (zB σ _) (by simp only [pwA,seval,-iQ0]) (Nat.le_refl _) (zh _ _) hc.ok fun o=>hk _ z h1 h2 ⟨true,.sl o 0 z.length cap,rfl⟩⟩)
theorem zHE (s:Shp O P C) (F:Full O P C d) (hs:PtrG σ sp vO vP vC) (hR:IsPr vO vP vC O P C) (ha:TT O (O.length-d) a) (hb:TT O (O.length-d) b) (hva:FI va a) (hvb:FI vb b) (hk:∀z,TT O (O.length-d) z→mu O P C d b z=mu O P C d a b→ResI σ K z):
  zA Tryz.prog 120 [.ptr sp 0,va,vb] σ K:=by
 have M:=F.gp.toMon;refine zA.gh ?_;refine zD mix Tryz.func120 ?_;simp only [pwA,seval,-iQ0];refine zFY s F hs hR hb hvb fun v1 z1 h1 h2 f1=>?_
 simp only [pwA,seval,-iQ0];refine zH4 s F hs hR ha hb hva hvb fun v2 f2=>?_
 simp only [pwA,seval,-iQ0];have hab:=M.cl ha hb;have hz:=M.cl h1 hab;have hr:=hk _ hz (by rw [←M.as hb h1 hab,h2,M.l1 hab])
 refine zDV s F hs hR h1 hab f1 f2 ⟨fun h0=>?_,fun cap hc=>?_⟩
 ·simp only [pwA,seval,-iQ0]
  exact Gh.ret (hr.1 h0)
 ·simp only [pwA,seval,-iQ0]
  exact Gh.ret (hr.2 cap hc)
theorem zCl (s:Shp O P C) (F:Full O P C d) (hs:PtrG σ sp vO vP vC) (hR:IsPr vO vP vC O P C) (ha:TT O (O.length-d) a) (hb:TT O (O.length-d) b) (hva:FI va a) (hvb:FI vb b) (hk:∀v z,TT O (O.length-d) z→mu O P C d b z=mu O P C d a b→FI v z→K v σ):
  zA Tryz.prog 120 [.ptr sp 0,va,vb] σ K:=
 zA.gh (zHE s F hs hR ha hb hva hvb fun z h1 h2=>⟨fun h0=>Gh.fin0 (Keep.refl σ) trivial (hk _ z h1 h2 ⟨true,.nils,by rw [h0];rfl⟩),fun cap hc=>Gh.finF (zB σ _) (by simp only [pwA,seval,-iQ0]) (Nat.le_refl _) (zh _ _) hc.ok fun o=>hk _ z h1 h2 ⟨true,.sl o 0 z.length cap,rfl⟩⟩)
theorem zAc (s:Shp O P C) (F:Full O P C d) {i:Nat} (hi:O.length=d+(i+1)) (hs:PtrG σ sp vO vP vC) (hR:IsPr vO vP vC O P C) (hx:TT O 0 x) (hvx:FI vx x) (hk:∀v,FI v (Grp.img O C (mu O P C d) i x)→K v σ):
  zA Tryz.prog 119 [.ptr sp 0,.int .i64 i,vx] σ K:=by
 have hn6:=s.le;have hxl:=hx.len;have hil:i<O.length:=by omega
 have M:=F.gp.toMon;have hne:sp≠σ.next:=Nat.ne_of_lt hs.lt;have hR0:=hR;have hs0:=hs;have edi:O.length-d=i+1:=by omega
 obtain⟨⟨w0,a0,rfl⟩,⟨w1,a1,rP,rfl,hP⟩,⟨w3,a3,rC,rfl,hC⟩⟩:=hR;obtain⟨w5,a5,rs,hrb,hrs⟩:=cvRow s hC hil;have hiC:i<C.length:=by rw [s.cl];exact hil
 have e2:σ.rd1 sp 2=some (.fz w3 a3 C.length rC):=by rw [zi hs.obj];rfl
 have wi1:IntKind.i64.wrap ((i:Int)+1)=((i+1:Nat):Int):=wrapS hil (by omega)
 obtain⟨wx,ax,rfl⟩:=hvx;rw [hxl];have hlr:O.length-1-i=d:=by omega
 rw [hlr]at hrb hrs
 refine zA.gh ?_;refine zD mix Tryz.func119 ?_;simp only [pwA,seval,-iQ0,List.length_replicate,qh,mk8 (n:=O.length) (by omega),mkL (n:=O.length) (by omega),e2,hne,hiC,hrb]
 refine zC (fun m vs h'=>∃(k:Nat) (y:List Int),k≤d∧m=d-k∧vs=[.ptr sp 0,.int .i64 i,.fz wx ax O.length (pis x),.sl σ.next 0 O.length (.known O.length),.fz w5 a5 d rs,.int .i64 d,.int .i64 k]∧h'=σ.new (pis y)∧TT O (i+1) y∧fo (mu O P C d) (cvec C i) (nx x) (i+(1+k)) (d-k) y=Grp.img O C (mu O P C d) i x) d ?_ ?_
 ·exact⟨0,zv O,by omega,by omega,rfl,rfl,s.zv _,by rw [Grp.img,hlr];rfl⟩
 rintro m vs h' ⟨k,y,hkd,rfl,rfl,rfl,hy,hfo⟩
 simp only [pwA,seval,-iQ0];refine iteI (fun hlt=>?_) fun hge=>?_
 rotate_left
 ·have hke:d-k=0:=by omega
  rw [hke]at hfo
  rw [←hfo]at hk
  exact Gh.finF (zB σ _) (by simp only [pwA,seval,-iQ0];rfl) (Nat.le_refl _) (zh _ _) (by simp [capOK]) fun o=>hk _ (FI.mk hy.len)
 have hjl:i+(1+k)<O.length:=by omega
 have hjx:i+(1+k)<x.length:=by omega
 have bk:=hx.bd (i+(1+k)) hjl;have bOk:=s.pr _ hjl;have hnx:((nx x (i+(1+k)):Nat):Int)=at_ x (i+(1+k)):=Int.toNat_of_nonneg bk.1;obtain⟨w7,a7,hrk⟩:=hrs k hlt;have hcv:=s.cj i (i+(1+k)) (by omega) hjl
 have e3:IntKind.i64.wrap (((i+1:Nat):Int)+(k:Int))=((i+(1+k):Nat):Int):=by rw [wrap64 (by omega) (by omega)];omega
 rw [show d-k=(d-k-1)+1 by omega]at hfo
 simp only [pwA,seval,-iQ0,hlt,hrk,wi1,e3,hjl,pisAt hjx];refine zC (fun m vs h'=>∃(q:Nat) (y:List Int),q≤nx x (i+(1+k))∧m=nx x (i+(1+k))-q∧vs=[.ptr sp 0,.int .i64 i,.fz wx ax O.length (pis x),.sl σ.next 0 O.length (.known O.length),.fz w7 a7 O.length (pis (cvec C i (i+(1+k)))),.fz w5 a5 d rs,.int .i64 d,.int .i64 k,.int .i64 (at_ x (i+(1+k))),.int .i64 q]∧h'=σ.new (pis y)∧TT O (i+1) y∧fo (mu O P C d) (cvec C i) (nx x) (i+(1+k)+1) (d-k-1) (rep (mu O P C d) (cvec C i (i+(1+k))) (nx x (i+(1+k))-q) y)=Grp.img O C (mu O P C d) i x) (nx x (i+(1+k))) ?_ ?_
 ·exact⟨0,y,by omega,by omega,rfl,rfl,hy,hfo⟩
 rintro m vs h' ⟨q,y,hqn,rfl,rfl,rfl,hy,hfo⟩
 simp only [pwA,seval,-iQ0];refine iteI (fun hlt2=>?_) fun hge2=>?_
 ·have hlt3:q<nx x (i+(1+k)):=by omega
  refine Zf s F (hs0.new _) hR0 (x:=y) (by simp only [pwA,seval,-iQ0]) (by simp only [pwA,seval,-iQ0]) hne (.inr rfl) (by rw [edi];exact hy) (by rw [edi];exact hcv) (FI.mk hcv.len) ?_
  simp only [pwA,seval,-iQ0,wrapS hlt3 (by omega:nx x (i+(1+k))≤4611686018427387904)]
  have hmy:=M.cl (a:=y) (b:=cvec C i (i+(1+k))) (by rw [edi];exact hy) (by rw [edi];exact hcv)
  rw [edi]at hmy
  refine⟨_,by omega,q+1,_,by omega,rfl,rfl,rfl,hmy,?_⟩
  rw [show nx x (i+(1+k))-q=(nx x (i+(1+k))-(q+1))+1 by omega]at hfo
  exact hfo
 ·have hqe:q=nx x (i+(1+k)):=by omega
  subst hqe;rw [Nat.sub_self]at hfo
  simp only [pwA,seval,-iQ0,wrapS hlt (by omega:d≤4611686018427387904)]
  refine⟨_,by omega,k+1,y,by omega,rfl,rfl,rfl,hy,?_⟩
  rw [show d-(k+1)=d-k-1 by omega]
  exact hfo
end Go.Proofs
namespace Go.Grp
end Go.Grp
namespace Go.Proofs
open Go.Ab Go.Lie Go.Grp
variable {σ:PHeap} {K:PV→PHeap→Prop} {O:List Int} {P:List (List Int)} {C:List (List (List Int))} {vO vP vC vx:PV} {s:Nat} {x:List Int} {rP rC:List PV}
theorem zH8 (s:Shp O P C) {d i:Nat} (hi:O.length=d+(i+1)) (B:Beh O P C d) (hR:IsPr vO vP vC O P C)
  (hk:∀f0 f1 f2 f3:Int,(f0=0↔Lv O P C i)→K (.agg [.int .i64 f0,.int .i64 f1,.int .i64 f2,.int .i64 f3]) σ):zA Tryz.prog 110 [.agg [vO,vP,vC],.int .i64 i] σ K:=by
 have hn6:=s.le;have hR0:=hR;have hil:i<O.length:=by omega
 have hAt:AtOK O P C d (i+1):=zBu s (by omega)
 have M:=B.gp.toMon;rw [show O.length-d=i+1 by omega]at M
 have ed:O.length-1-i=d:=by omega
 have yes:((∀q,q<d→pw (mu O P C d) (zv O) (cvec C i (i+(1+q))) (nx O (i+(1+q)))=Grp.img O C (mu O P C d) i (pvec P (i+(1+q))))→
   (∀q r,q+(1+r)<d→mu O P C d (cvec C i (i+(1+(q+(1+r))))) (cvec C i (i+(1+q)))=mu O P C d (cvec C i (i+(1+q))) (Grp.img O C (mu O P C d) i (cvec C (i+(1+q)) (i+(1+(q+(1+r)))))))→
   Grp.img O C (mu O P C d) i (pvec P i)=pvec P i→
   (∀q,q<d→mu O P C d (pvec P i) (iter (Grp.img O C (mu O P C d) i) (nx O i) (unitL O.length (i+(1+q))))=mu O P C d (unitL O.length (i+(1+q))) (pvec P i))→Lv O P C i):=fun h1 h2 h3 h4=>by
  refine⟨fun j g1 g2=>?_,fun j k g1 g2 g3=>?_,?_,fun j g1 g2=>?_⟩
  ·have:=h1 (j-i-1) (by omega);rw [show i+(1+(j-i-1))=j by omega]at this;rw [ed];exact this
  ·have:=h2 (j-i-1) (k-j-1) (by omega);rw [show i+(1+(j-i-1))=j by omega,show i+(1+(j-i-1+(1+(k-j-1))))=k by omega]at this;rw [ed];exact this
  ·rw [ed];exact h3
  ·have:=h4 (j-i-1) (by omega);rw [show i+(1+(j-i-1))=j by omega]at this;rw [ed];exact this
 obtain⟨⟨w0,a0,rfl⟩,⟨w1,a1,rP,rfl,hP⟩,⟨w3,a3,rC,rfl,hC⟩⟩:=hR;obtain⟨w5,a5,rs,hrb,hrs⟩:=cvRow s hC hil;have hiC:i<C.length:=by rw [s.cl];exact hil
 have hiP:i<P.length:=by rw [s.pl];exact hil
 refine zA.gh ?_;have fin:∀{f0 f1 f2 f3:Int} {σ':PHeap},(f0=0↔Lv O P C i)→Keep σ σ'→Gh σ K (.agg [.int .i64 f0,.int .i64 f1,.int .i64 f2,.int .i64 f3]) σ':=fun h k=>Gh.fin0 k ⟨trivial,trivial,trivial,trivial,trivial⟩ (hk _ _ _ _ h)
 have no:∀{f0:Int},f0≠0→¬Lv O P C i→(f0=0↔Lv O P C i):=fun h g=>⟨fun x=>absurd x h,fun x=>absurd x g⟩
 refine zE8 mix Tryz.func110 ?_;simp only [pwA,seval,-iQ0];have hkp:∀cs:List PV,Keep σ ((σ.new [.fz w0 a0 O.length (pis O),.fz w1 a1 P.length rP,.fz w3 a3 C.length rC]).new cs):=fun cs=>(zB σ _).new _
 have wi1:IntKind.i64.wrap ((i:Int)+1)=((i+1:Nat):Int):=wrapS hil (by omega)
 -- first condition
 simp only [pwA,seval,-iQ0,wi1];refine zC (fun m vs h'=>∃q:Nat,q≤d∧m=d-q∧vs=[.int .i64 i,.ptr σ.next 0,.ptr (σ.next+1) 0,.int .i64 O.length,.int .i64 i,.int .i64 ((i+(1+q):Nat):Int)]∧
  h'=(σ.new [.fz w0 a0 O.length (pis O),.fz w1 a1 P.length rP,.fz w3 a3 C.length rC]).new [.int .i64 0,.int .i64 0,.int .i64 0,.int .i64 0]∧∀q',q'<q→pw (mu O P C d) (zv O) (cvec C i (i+(1+q'))) (nx O (i+(1+q')))=Grp.img O C (mu O P C d) i (pvec P (i+(1+q')))) d ?_ ?_
 ·exact⟨0,by omega,by omega,rfl,rfl,fun q h=>by omega⟩
 rintro m vs h' ⟨q,hq,rfl,rfl,rfl,hall⟩
 simp only [pwA,seval,-iQ0];refine iteI (fun hlt=>?_) fun hge=>?_
 ·have hjO:i+(1+q)<O.length:=by omega
  have hjP:i+(1+q)<P.length:=by rw [s.pl];exact hjO
  obtain⟨w6,a6,hrk⟩:=hrs q (by omega)
  obtain⟨w7,a7,hpr⟩:=pvRow s hP hjO;have hjr:q<O.length-1-i:=by omega
  have hcv:=s.cj i (i+(1+q)) (by omega) (by omega)
  have hpv:=s.pw (i+(1+q)) hjO;have hO:=s.pr _ hjO;have e3:IntKind.i64.wrap (((i+(1+q):Nat):Int)-(i:Int))=((1+q:Nat):Int):=by rw [wrap64 (by omega) (by omega)];omega
  have e4:IntKind.i64.wrap (((1+q:Nat):Int)-1)=(q:Int):=by rw [wrap64 (by omega) (by omega)];omega
  have e5:IntKind.i64.wrap (((i+(1+q):Nat):Int)+1)=((i+(1+(q+1)):Nat):Int):=by rw [wrap64 (by omega) (by omega)];omega
  simp only [pwA,seval,-iQ0,wi1,hiC,hrb,e3,e4,hjr,hrk,hjO,pisAt hjO];refine zGn s (by omega) hAt M hR0 hcv (FI.mk hcv.len) (by omega) fun v hv=>?_
  simp only [pwA,seval,-iQ0,wi1,hiC,hrb,e3,e4,hjr,hrk,hjO,pisAt hjO,hjP,hpr];refine QJ s (by omega) hAt hR0 (hpv.mono (Nat.zero_le _)) (FI.mk hpv.len) fun v2 hv2=>?_
  obtain⟨w8,a8,rfl⟩:=hv;obtain⟨w9,a9,rfl⟩:=hv2;simp only [pwA,seval,-iQ0,hjP,hpr];refine Qk rfl rfl (by have:=(M.pw hcv (at_ O (i+(1+q))).toNat).len;omega) ?_
  by_cases he:pw (mu O P C d) (zv O) (cvec C i (i+(1+q))) (nx O (i+(1+q)))=Grp.img O C (mu O P C d) i (pvec P (i+(1+q)))
  ·simp only [pwA,seval,-iQ0,eq_true he,e5]
   refine⟨_,by omega,q+1,by omega,rfl,rfl,fun q' h=>?_⟩
   by_cases e:q'=q
   ·subst e;exact he
   ·exact hall q' (by omega)
  ·simp only [pwA,seval,-iQ0,he]
   exact fin (no (by decide) fun L=>he (by have:=L.pow (i+(1+q)) (by omega) hjO;rwa [ed]at this)) (hkp _)
 have hqd:q=d:=by omega
 subst hqd
 -- second condition
 simp only [pwA,seval,-iQ0,wi1];refine zC (fun m vs h'=>∃q':Nat,q'≤q∧m=q-q'∧vs=[.int .i64 i,.ptr σ.next 0,.ptr (σ.next+1) 0,.int .i64 O.length,.int .i64 i,.int .i64 ((i+(1+q'):Nat):Int)]∧
  h'=(σ.new [.fz w0 a0 O.length (pis O),.fz w1 a1 P.length rP,.fz w3 a3 C.length rC]).new [.int .i64 0,.int .i64 0,.int .i64 0,.int .i64 0]∧
  ∀t r,t<q'→t+(1+r)<q→mu O P C q (cvec C i (i+(1+(t+(1+r))))) (cvec C i (i+(1+t)))=mu O P C q (cvec C i (i+(1+t))) (Grp.img O C (mu O P C q) i (cvec C (i+(1+t)) (i+(1+(t+(1+r))))))) q ?_ ?_
 ·exact⟨0,by omega,by omega,rfl,rfl,fun t r h=>by omega⟩
 rintro m vs h' ⟨t,ht,rfl,rfl,rfl,hall2⟩
 simp only [pwA,seval,-iQ0];refine iteI (fun hlt=>?_) fun hge=>?_
 ·have hjO:i+(1+t)<O.length:=by omega
  have hjC:i+(1+t)<C.length:=by rw [s.cl];exact hjO
  obtain⟨w6,a6,hrk⟩:=hrs t (by omega)
  obtain⟨w7,a7,rs2,hrb2,hrs2⟩:=cvRow s hC hjO;have hjr:t<O.length-1-i:=by omega
  have hcv:=s.cj i (i+(1+t)) (by omega) (by omega)
  have e3:IntKind.i64.wrap (((i+(1+t):Nat):Int)-(i:Int))=((1+t:Nat):Int):=by rw [wrap64 (by omega) (by omega)];omega
  have e4:IntKind.i64.wrap (((1+t:Nat):Int)-1)=(t:Int):=by rw [wrap64 (by omega) (by omega)];omega
  have e5:IntKind.i64.wrap (((i+(1+t):Nat):Int)+1)=((i+(1+(t+1)):Nat):Int):=by rw [wrap64 (by omega) (by omega)];omega
  simp only [pwA,seval,-iQ0,e5];refine zC (fun m vs h'=>∃r:Nat,t+(1+r)≤q∧m=q-(t+(1+r))∧vs=[.int .i64 i,.ptr σ.next 0,.ptr (σ.next+1) 0,.int .i64 O.length,.int .i64 i,.int .i64 ((i+(1+t):Nat):Int),.int .i64 ((i+(1+(t+(1+r))):Nat):Int)]∧
   h'=(σ.new [.fz w0 a0 O.length (pis O),.fz w1 a1 P.length rP,.fz w3 a3 C.length rC]).new [.int .i64 0,.int .i64 0,.int .i64 0,.int .i64 0]∧
   ∀r',r'<r→t+(1+r')<q→mu O P C q (cvec C i (i+(1+(t+(1+r'))))) (cvec C i (i+(1+t)))=mu O P C q (cvec C i (i+(1+t))) (Grp.img O C (mu O P C q) i (cvec C (i+(1+t)) (i+(1+(t+(1+r'))))))) (q-(t+1)) ?_ ?_
  ·exact⟨0,by omega,by omega,rfl,rfl,fun r' h=>by omega⟩
  rintro m vs h' ⟨r,hr,rfl,rfl,rfl,hall3⟩
  simp only [pwA,seval,-iQ0];refine iteI (fun hlt2=>?_) fun hge2=>?_
  ·have hkO:i+(1+(t+(1+r)))<O.length:=by omega
   obtain⟨w8,a8,hrk2⟩:=hrs (t+(1+r)) (by omega)
   obtain⟨w9,a9,hrk3⟩:=hrs2 r (by omega)
   rw [show i+(1+t)+(1+r)=i+(1+(t+(1+r))) by omega]at hrk3
   have hcv2:=s.cj i (i+(1+(t+(1+r)))) (by omega) hkO
   have hcv3:=s.cj (i+(1+t)) (i+(1+(t+(1+r)))) (by omega) hkO
   have hkr:t+(1+r)<O.length-1-i:=by omega
   have hkr2:r<O.length-1-(i+(1+t)):=by omega
   have f3:IntKind.i64.wrap (((i+(1+(t+(1+r))):Nat):Int)-(i:Int))=((1+(t+(1+r)):Nat):Int):=by rw [wrap64 (by omega) (by omega)];omega
   have f4:IntKind.i64.wrap (((1+(t+(1+r)):Nat):Int)-1)=((t+(1+r):Nat):Int):=by rw [wrap64 (by omega) (by omega)];omega
   have f5:IntKind.i64.wrap (((i+(1+(t+(1+r))):Nat):Int)+1)=((i+(1+(t+(1+(r+1)))):Nat):Int):=by rw [wrap64 (by omega) (by omega)];omega
   have f6:IntKind.i64.wrap (((i+(1+(t+(1+r))):Nat):Int)-((i+(1+t):Nat):Int))=((1+r:Nat):Int):=by rw [wrap64 (by omega) (by omega)];omega
   have f7:IntKind.i64.wrap (((1+r:Nat):Int)-1)=(r:Int):=by rw [wrap64 (by omega) (by omega)];omega
   simp only [pwA,seval,-iQ0,wi1,hiC,hrb,e3,e4,f3,f4,f6,f7,hjr,hrk,hkr,hrk2,hjC,hrb2,hkr2,hrk3];refine QJ s (by omega) hAt hR0 (hcv3.mono (Nat.zero_le _)) (FI.mk hcv3.len) fun v hv=>?_
   have hz:=zAM s (i:=i) (m:=mu O P C q) (fun a b ha hb=>M.cl ha hb) (cvec C (i+(1+t)) (i+(1+(t+(1+r)))))
   simp only [pwA,seval,-iQ0,wi1,hiC,hrb,e3,e4,f3,f4,f6,f7,hjr,hrk,hkr,hrk2,hjC,hrb2,hkr2,hrk3];refine hAt hR0 hcv2 hcv (FI.mk hcv2.len) (FI.mk hcv.len) fun v2 hv2=>?_
   simp only [pwA,seval,-iQ0,wi1];refine hAt hR0 hcv hz (FI.mk hcv.len) hv fun v3 hv3=>?_
   obtain⟨w10,a10,rfl⟩:=hv2;obtain⟨w11,a11,rfl⟩:=hv3;simp only [pwA,seval,-iQ0];refine Qk rfl rfl (by have:=(M.cl hcv2 hcv).len;omega) ?_
   by_cases he:mu O P C q (cvec C i (i+(1+(t+(1+r))))) (cvec C i (i+(1+t)))=mu O P C q (cvec C i (i+(1+t))) (Grp.img O C (mu O P C q) i (cvec C (i+(1+t)) (i+(1+(t+(1+r))))))
   ·simp only [pwA,seval,-iQ0,eq_true he,f5]
    refine⟨_,by omega,r+1,by omega,rfl,rfl,fun r' h1 h2=>?_⟩
    by_cases e:r'=r
    ·subst e;exact he
    ·exact hall3 r' (by omega) h2
   ·simp only [pwA,seval,-iQ0,he]
    exact fin (no (by decide) fun L=>he (by have:=L.cj (i+(1+t)) (i+(1+(t+(1+r)))) (by omega) (by omega) hkO;rwa [ed]at this)) (hkp _)
  ·simp only [pwA,seval,-iQ0,e5]
   refine⟨_,by omega,t+1,by omega,rfl,rfl,fun t' r' h1 h2=>?_⟩
   by_cases e:t'=t
   ·subst e;exact hall3 r' (by omega) h2
   ·exact hall2 t' r' (by omega) h2
 -- third condition
 obtain⟨w6,a6,hpr⟩:=pvRow s hP hil;have hpv:=s.pw i hil;simp only [pwA,seval,-iQ0,hiP,hpr];refine QJ s (by omega) hAt hR0 (hpv.mono (Nat.zero_le _)) (FI.mk hpv.len) fun v hv=>?_
 obtain⟨w7,a7,rfl⟩:=hv;simp only [pwA,seval,-iQ0];refine Qk rfl hpv.len.symm (by have:=(zAM s (i:=i) (m:=mu O P C q) (fun a b ha hb=>M.cl ha hb) (pvec P i)).len;omega) ?_
 by_cases he3:Grp.img O C (mu O P C q) i (pvec P i)=pvec P i
 rotate_left
 ·simp only [pwA,seval,-iQ0,he3]
  exact fin (no (by decide) fun L=>he3 (by have:=L.fix;rwa [ed]at this)) (hkp _)
 simp only [pwA,seval,-iQ0,eq_true he3,wi1]
 -- fourth condition
 refine zC (fun m vs h'=>∃q':Nat,q'≤q∧m=q-q'∧vs=[.int .i64 i,.ptr σ.next 0,.ptr (σ.next+1) 0,.int .i64 O.length,.int .i64 i,.fz w6 a6 O.length (pis (pvec P i)),.int .i64 ((i+(1+q'):Nat):Int)]∧
  h'=(σ.new [.fz w0 a0 O.length (pis O),.fz w1 a1 P.length rP,.fz w3 a3 C.length rC]).new [.int .i64 0,.int .i64 0,.int .i64 0,.int .i64 0]∧
  ∀t,t<q'→mu O P C q (pvec P i) (iter (Grp.img O C (mu O P C q) i) (nx O i) (unitL O.length (i+(1+t))))=mu O P C q (unitL O.length (i+(1+t))) (pvec P i)) q ?_ ?_
 ·exact⟨0,by omega,by omega,rfl,rfl,fun t h=>by omega⟩
 rintro m vs h' ⟨t,ht,rfl,rfl,rfl,hall4⟩
 simp only [pwA,seval,-iQ0];refine iteI (fun hlt=>?_) fun hge=>?_
 rotate_left
 ·exact fin ⟨fun _=>yes hall (fun t' r' h=>hall2 t' r' (by omega) h) he3 (fun t' h=>hall4 t' (by omega)),fun _=>rfl⟩ (hkp _)
 have hjO:i+(1+t)<O.length:=by omega
 have hO:=s.pr i hil;have e5:IntKind.i64.wrap (((i+(1+t):Nat):Int)+1)=((i+(1+(t+1)):Nat):Int):=by rw [wrap64 (by omega) (by omega)];omega
 have hun:TT O (i+1) (unitL O.length (i+(1+t))):=s.unit hjO (by omega)
 simp only [pwA,seval,-iQ0];refine zEa (by omega) hjO fun v hv=>?_
 simp only [pwA,seval,-iQ0];refine zC (fun m vs h'=>∃(k:Nat) (v2:PV) (A:List Int),k≤nx O i∧m=nx O i-k∧vs=[.int .i64 i,.ptr σ.next 0,.ptr (σ.next+1) 0,.int .i64 O.length,.int .i64 i,.fz w6 a6 O.length (pis (pvec P i)),.int .i64 ((i+(1+t):Nat):Int),v,v2,.int .i64 k]∧
  h'=(σ.new [.fz w0 a0 O.length (pis O),.fz w1 a1 P.length rP,.fz w3 a3 C.length rC]).new [.int .i64 0,.int .i64 0,.int .i64 0,.int .i64 0]∧FI v2 A∧TT O (i+1) A∧iter (Grp.img O C (mu O P C q) i) (nx O i-k) A=iter (Grp.img O C (mu O P C q) i) (nx O i) (unitL O.length (i+(1+t)))) (nx O i) ?_ ?_
 ·exact⟨0,v,_,by omega,by omega,rfl,rfl,hv,hun,rfl⟩
 rintro m vs h' ⟨k,v2,A,hkn,rfl,rfl,rfl,hv2,hA,hit⟩
 have hnx:((nx O i:Nat):Int)=at_ O i:=Int.toNat_of_nonneg (by omega)
 simp only [pwA,seval,-iQ0,pisAt hil,hil];refine iteI (fun hlt2=>?_) fun hge2=>?_
 ·have hlt3:k<nx O i:=by omega
  refine QJ s (by omega) hAt hR0 (hA.mono (Nat.zero_le _)) hv2 fun v3 hv3=>?_
  simp only [pwA,seval,-iQ0,wrapS hlt3 (by omega:nx O i≤4611686018427387904)]
  refine⟨_,by omega,k+1,v3,_,by omega,rfl,rfl,hv3,zAM s (fun a b ha hb=>M.cl ha hb) _,?_⟩
  rw [show nx O i-k=(nx O i-(k+1))+1 by omega]at hit
  exact hit
 have hke:k=nx O i:=by omega
 subst hke;rw [Nat.sub_self]at hit
 have hA':A=iter (Grp.img O C (mu O P C q) i) (nx O i) (unitL O.length (i+(1+t))):=hit;subst hA';simp only [pwA,seval,-iQ0,wi1];refine hAt hR0 hpv hA (FI.mk hpv.len) hv2 fun v3 hv3=>?_
 simp only [pwA,seval,-iQ0,wi1];refine hAt hR0 hun hpv hv (FI.mk hpv.len) fun v4 hv4=>?_
 obtain⟨w8,a8,rfl⟩:=hv3;obtain⟨w9,a9,rfl⟩:=hv4;simp only [pwA,seval,-iQ0];refine Qk rfl rfl (by have:=(M.cl hpv hA).len;omega) ?_
 by_cases he:mu O P C q (pvec P i) (iter (Grp.img O C (mu O P C q) i) (nx O i) (unitL O.length (i+(1+t))))=mu O P C q (unitL O.length (i+(1+t))) (pvec P i)
 ·simp only [pwA,seval,-iQ0,eq_true he,e5]
  refine⟨_,by omega,t+1,by omega,rfl,rfl,fun t' h=>?_⟩
  by_cases e:t'=t
  ·subst e;exact he
  ·exact hall4 t' (by omega)
 ·simp only [pwA,seval,-iQ0,he]
  exact fin (no (by decide) fun L=>he (by have:=L.inn (i+(1+t)) (by omega) hjO;rwa [ed]at this)) (hkp _)
end Go.Proofs
namespace Go.Grp
end Go.Grp
namespace Go.Proofs
open Go.Ab Go.Lie Go.Grp
variable {σ:PHeap} {K:PV→PHeap→Prop} {O:List Int} {P:List (List Int)} {C:List (List (List Int))} {vO vP vC vx:PV} {s:Nat} {x:List Int} {rP rC:List PV}
theorem zH9 (s:Shp O P C) (hR:IsPr vO vP vC O P C)
  (hk:∀f0 f1 f2 f3:Int,(f0=0↔Cons O P C)→K (.agg [.int .i64 f0,.int .i64 f1,.int .i64 f2,.int .i64 f3]) σ):zA Tryz.prog 77 [.agg [vO,vP,vC]] σ K:=by
 have hn6:=s.le;have hR0:=hR;obtain⟨⟨w0,a0,rfl⟩,⟨w1,a1,rP,rfl,hP⟩,⟨w3,a3,rC,rfl,hC⟩⟩:=hR;refine zA.gh ?_;have fin:∀{f0 f1 f2 f3:Int} {σ':PHeap},(f0=0↔Cons O P C)→Keep σ σ'→Gh σ K (.agg [.int .i64 f0,.int .i64 f1,.int .i64 f2,.int .i64 f3]) σ':=fun h k=>Gh.fin0 k ⟨trivial,trivial,trivial,trivial,trivial⟩ (hk _ _ _ _ h)
 have hw1:IntKind.i64.wrap ((O.length:Int)-1)=(O.length:Int)-1:=wrap64 (by omega) (by omega)
 refine zD mix Tryz.func77 ?_;simp only [pwA,seval,-iQ0,hw1];refine zC (fun m vs h'=>∃k:Nat,k≤O.length∧m=k∧vs=[.ptr σ.next 0,.ptr (σ.next+1) 0,.int .i64 ((k:Int)-1)]∧Keep ((σ.new [.fz w0 a0 O.length (pis O),.fz w1 a1 P.length rP,.fz w3 a3 C.length rC]).new [.int .i64 0,.int .i64 0,.int .i64 0,.int .i64 0]) h'∧∀j,k≤j→j<O.length→Lv O P C j) O.length ?_ ?_
 ·exact⟨O.length,Nat.le_refl _,rfl,rfl,Keep.refl _,fun j h1 h2=>by omega⟩
 rintro m vs h' ⟨k,hkO,rfl,rfl,hk1,hall⟩
 have hkp:Keep σ h':=((zB σ _).new _).trans hk1;have hn1:σ.next+2≤h'.next:=hk1.next;have hobj1:h'.obj σ.next=some [.fz w0 a0 O.length (pis O),.fz w1 a1 P.length rP,.fz w3 a3 C.length rC]:=by rw [hk1.obj _ (by simp [PHeap.new];omega)];simp [PHeap.new]
 have hobj2:h'.obj (σ.next+1)=some [.int .i64 0,.int .i64 0,.int .i64 0,.int .i64 0]:=by rw [hk1.obj _ (by simp [PHeap.new])];simp [PHeap.new]
 have hrd3:h'.rd σ.next 0 3=some [.fz w0 a0 O.length (pis O),.fz w1 a1 P.length rP,.fz w3 a3 C.length rC]:=by simp [PHeap.rd,hobj1]
 have hwr:∀f0 f1 f2 f3:Int,h'.wr (σ.next+1) 0 [.int .i64 f0,.int .i64 f1,.int .i64 f2,.int .i64 f3]=some (h'.set (σ.next+1) [.int .i64 f0,.int .i64 f1,.int .i64 f2,.int .i64 f3]):=fun f0 f1 f2 f3=>by
  have:∀cs:List PV,cs.length=4→cs.all PV.one=true→h'.wr (σ.next+1) 0 cs=some (h'.set (σ.next+1) cs):=fun cs hl ho=>by
   simp only [PHeap.wr,hobj2,Option.bind_some,ho,hl];simp [PHeap.set,List.drop_eq_nil_of_le,hl]
  exact this _ rfl rfl
 have hne1:¬σ.next=h'.next:=by omega
 have hne2:¬σ.next+1=h'.next:=by omega
 rcases Nat.eq_zero_or_pos m with rfl|hmp
 ·simp only [pwA,seval,-iQ0,show ¬((0:Int)≤((0:Nat):Int)-1) by omega,hwr]
  exact fin ⟨fun _ j hj=>hall j (Nat.zero_le _) hj,fun _=>rfl⟩ (hkp.set (by omega) _)
 obtain⟨i,rfl⟩:∃i,m=i+1:=⟨m-1,by omega⟩
 have e:((i+1:Nat):Int)-1=(i:Int):=by omega
 rw [e];have hil:i<O.length:=hkO;have hw2:IntKind.i64.wrap ((i:Int)-1)=(i:Int)-1:=wrap64 (by omega) (by omega)
 have B:Beh O P C (O.length-(i+1)):=zLb s (by omega) fun j h1 h2=>hall j (by omega) h2
 simp only [pwA,seval,-iQ0,hrd3];refine zH8 s (d:=O.length-(i+1)) (by omega) B hR0 fun f0 f1 f2 f3 hf=>?_
 simp only [pwA,seval,-iQ0];refine iteI (fun h0=>?_) fun h0=>?_
 ·simp only [pwA,seval,-iQ0,hw2]
  refine⟨i,by omega,i,by omega,rfl,rfl,hk1.new _,fun j h1 h2=>?_⟩
  by_cases e:j=i
  ·subst e;exact hf.1 h0
  ·exact hall j (by omega) h2
 ·simp only [pwA,seval,-iQ0,hne1,hne2,hwr]
  exact fin ⟨fun h=>absurd h h0,fun h=>absurd (hf.2 (h i hil)) h0⟩ ((hkp.set (by omega) _).new _)
theorem zDt (s:Shp O P C) (hR:IsPr vO vP vC O P C) (hk:∀t:Bool,(t=true↔Cons O P C)→K (.bool t) σ):zA Tryz.prog 48 [.agg [vO,vP,vC]] σ K:=by
 have h0:=hR.O.one;have h1:=hR.P.one;have h2:=hR.C.one;refine zA.gh ?_;refine zD mix Tryz.func48 ?_;simp only [pwA,seval,-iQ0,h0,h1,h2];refine zH9 s hR fun f0 f1 f2 f3 hf=>?_
 simp only [pwA,seval,-iQ0];exact Gh.fin0 (zB σ _) trivial (hk _ (by rw [decide_eq_true_iff];exact hf))
theorem Q9 (hR:IsPr vO vP vC O P C) (sz:SzP O P C) (hk:∀t:Bool,(t=true↔qE O P C∧Cons O P C)→K (.bool t) σ):zA Tryz.prog 19 [.agg [vO,vP,vC]] σ K:=by
 have h0:=hR.O.one;have h1:=hR.P.one;have h2:=hR.C.one;have fl:∀{A:Prop},¬A→((false=true)↔A):=fun h=>⟨fun x=>(by cases x),fun x=>absurd x h⟩
 refine zA.gh ?_;refine zD mix Tryz.func19 ?_;simp only [pwA,seval,-iQ0,h0,h1,h2];refine Qj hR sz fun t ht=>?_
 cases t with
 | false=>
  simp only [pwA,seval,-iQ0];exact Gh.fin0 (zB σ _) trivial (hk _ (fl fun h=>by cases ht.2 h.1))
 | true=>
  have hp:=ht.1 rfl;simp only [pwA,seval,-iQ0,h0,h1,h2];refine zDt hp.shp hR fun t ht=>?_
  simp only [pwA,seval,-iQ0];exact Gh.fin0 (zB σ _) trivial (hk _ ⟨fun h=>⟨hp,ht.1 h⟩,fun h=>ht.2 h.2⟩)
end Go.Proofs
namespace Go.Grp
end Go.Grp
namespace Go.Proofs
open Go.Ab Go.Lie Go.Grp
variable {σ:PHeap} {K:PV→PHeap→Prop} {O:List Int} {P:List (List Int)} {C:List (List (List Int))} {vO vP vC vx vf va vb:PV} {x y f a b:List Int} {rP rC:List PV} {d j sp:Nat}
theorem zFr (s:Shp O P C) (F:Full O P C d) {i:Nat} (hi:O.length=d+(i+1)) (hs:PtrG σ sp vO vP vC) (hR:IsPr vO vP vC O P C)
  (hk:∀f0 f1 f2 f3:Int,((f0=0∧f1=0∧f2=0∧f3=0∧Lv O P C i)∨(f0≠0∧¬Lv O P C i))→K (.agg [.int .i64 f0,.int .i64 f1,.int .i64 f2,.int .i64 f3]) σ):zA Tryz.prog 93 [.ptr sp 0,.int .i64 i] σ K:=by
 have hn6:=s.le;have hR0:=hR;have hil:i<O.length:=by omega
 have M:=F.gp.toMon;have G:=F.gp;have edi:O.length-d=i+1:=by omega
 have ed:O.length-1-i=d:=by omega
 have hne:¬sp=σ.next:=Nat.ne_of_lt hs.lt;have hs1:∀cs,PtrG (σ.new cs) sp vO vP vC:=fun cs=>hs.new cs
 have yes:((∀q,q<d→pw (mu O P C d) (zv O) (cvec C i (i+(1+q))) (nx O (i+(1+q)))=Grp.img O C (mu O P C d) i (pvec P (i+(1+q))))→
   (∀q r,q+(1+r)<d→mu O P C d (cvec C i (i+(1+(q+(1+r))))) (cvec C i (i+(1+q)))=mu O P C d (cvec C i (i+(1+q))) (Grp.img O C (mu O P C d) i (cvec C (i+(1+q)) (i+(1+(q+(1+r)))))))→
   Grp.img O C (mu O P C d) i (pvec P i)=pvec P i→
   (∀q,q<d→mu O P C d (pvec P i) (iter (Grp.img O C (mu O P C d) i) (nx O i) (unitL O.length (i+(1+q))))=mu O P C d (unitL O.length (i+(1+q))) (pvec P i))→Lv O P C i):=fun h1 h2 h3 h4=>by
  refine⟨fun j g1 g2=>?_,fun j k g1 g2 g3=>?_,?_,fun j g1 g2=>?_⟩
  ·have:=h1 (j-i-1) (by omega);rw [show i+(1+(j-i-1))=j by omega]at this;rw [ed];exact this
  ·have:=h2 (j-i-1) (k-j-1) (by omega);rw [show i+(1+(j-i-1))=j by omega,show i+(1+(j-i-1+(1+(k-j-1))))=k by omega]at this;rw [ed];exact this
  ·rw [ed];exact h3
  ·have:=h4 (j-i-1) (by omega);rw [show i+(1+(j-i-1))=j by omega]at this;rw [ed];exact this
 have imgt:∀x,TT O (O.length-d) (Grp.img O C (mu O P C d) i x):=fun x=>by
  rw [edi];exact zAM s (fun a b ha hb=>by have:=M.cl (a:=a) (b:=b) (by rw [edi];exact ha) (by rw [edi];exact hb);rwa [edi]at this) x
 obtain⟨⟨w0,a0,rfl⟩,⟨w1,a1,rP,rfl,hP⟩,⟨w3,a3,rC,rfl,hC⟩⟩:=hR;obtain⟨w5,a5,rs,hrb,hrs⟩:=cvRow s hC hil;have hiC:i<C.length:=by rw [s.cl];exact hil
 have hiP:i<P.length:=by rw [s.pl];exact hil
 have e0:σ.rd1 sp 0=some (.fz w0 a0 O.length (pis O)):=by rw [zi hs.obj];rfl
 have e1:σ.rd1 sp 1=some (.fz w1 a1 P.length rP):=by rw [zi hs.obj];rfl
 have e2:σ.rd1 sp 2=some (.fz w3 a3 C.length rC):=by rw [zi hs.obj];rfl
 refine zA.gh ?_;have fin:∀{f0 f1 f2 f3:Int} {σ':PHeap},((f0=0∧f1=0∧f2=0∧f3=0∧Lv O P C i)∨(f0≠0∧¬Lv O P C i))→Keep σ σ'→Gh σ K (.agg [.int .i64 f0,.int .i64 f1,.int .i64 f2,.int .i64 f3]) σ':=fun h k=>Gh.fin0 k ⟨trivial,trivial,trivial,trivial,trivial⟩ (hk _ _ _ _ h)
 have no:∀{f0 f1 f2 f3:Int},f0≠0→¬Lv O P C i→((f0=0∧f1=0∧f2=0∧f3=0∧Lv O P C i)∨(f0≠0∧¬Lv O P C i)):=fun h g=>.inr ⟨h,g⟩
 have hkp:∀cs:List PV,Keep σ (σ.new cs):=fun cs=>zB σ _
 have wi1:IntKind.i64.wrap ((i:Int)+1)=((i+1:Nat):Int):=wrapS hil (by omega)
 refine zE8 mix Tryz.func93 ?_;simp only [pwA,seval,-iQ0,e0,hne]
 -- first condition
 simp only [pwA,seval,-iQ0,wi1];refine zC (fun m vs h'=>∃q:Nat,q≤d∧m=d-q∧vs=[.ptr sp 0,.int .i64 i,.ptr σ.next 0,.int .i64 O.length,.int .i64 i,.int .i64 ((i+(1+q):Nat):Int)]∧
  h'=σ.new [.int .i64 0,.int .i64 0,.int .i64 0,.int .i64 0]∧∀q',q'<q→pw (mu O P C d) (zv O) (cvec C i (i+(1+q'))) (nx O (i+(1+q')))=Grp.img O C (mu O P C d) i (pvec P (i+(1+q')))) d ?_ ?_
 ·exact⟨0,by omega,by omega,rfl,rfl,fun q h=>by omega⟩
 rintro m vs h' ⟨q,hq,rfl,rfl,rfl,hall⟩
 simp only [pwA,seval,-iQ0];refine iteI (fun hlt=>?_) fun hge=>?_
 ·have hjO:i+(1+q)<O.length:=by omega
  have hjP:i+(1+q)<P.length:=by rw [s.pl];exact hjO
  obtain⟨w6,a6,hrk⟩:=hrs q (by omega)
  obtain⟨w7,a7,hpr⟩:=pvRow s hP hjO;have hjr:q<O.length-1-i:=by omega
  have hcv:=s.cj i (i+(1+q)) (by omega) (by omega)
  have hcv':TT O (O.length-d) (cvec C i (i+(1+q))):=by rw [edi];exact hcv
  have hpv:=s.pw (i+(1+q)) hjO;have hO:=s.pr _ hjO;have e3:IntKind.i64.wrap (((i+(1+q):Nat):Int)-(i:Int))=((1+q:Nat):Int):=by rw [wrap64 (by omega) (by omega)];omega
  have e4:IntKind.i64.wrap (((1+q:Nat):Int)-1)=(q:Int):=by rw [wrap64 (by omega) (by omega)];omega
  have e5:IntKind.i64.wrap (((i+(1+q):Nat):Int)+1)=((i+(1+(q+1)):Nat):Int):=by rw [wrap64 (by omega) (by omega)];omega
  simp only [pwA,seval,-iQ0,e0,e1,e2,hne,wi1,hiC,hrb,e3,e4,hjr,hrk,hjO,pisAt hjO,hjP,hpr];refine zMH s F (hs1 _) hR0 hcv' (FI.mk hcv.len) (by omega) fun v hv=>?_
  simp only [pwA,seval,-iQ0,e0,e1,e2,hne,wi1,hiC,hrb,e3,e4,hjr,hrk,hjO,pisAt hjO,hjP,hpr];refine zAc s F hi (hs1 _) hR0 (hpv.mono (Nat.zero_le _)) (FI.mk hpv.len) fun v2 hv2=>?_
  obtain⟨w8,a8,rfl⟩:=hv;obtain⟨w9,a9,rfl⟩:=hv2;simp only [pwA,seval,-iQ0];refine zA7 rfl rfl (by have:=(M.pw hcv' (at_ O (i+(1+q))).toNat).len;omega) ?_
  by_cases he:pw (mu O P C d) (zv O) (cvec C i (i+(1+q))) (nx O (i+(1+q)))=Grp.img O C (mu O P C d) i (pvec P (i+(1+q)))
  ·simp only [pwA,seval,-iQ0,eq_true he,e5]
   refine⟨_,by omega,q+1,by omega,rfl,rfl,fun q' h=>?_⟩
   by_cases e:q'=q
   ·subst e;exact he
   ·exact hall q' (by omega)
  ·simp only [pwA,seval,-iQ0,he]
   exact fin (no (by decide) fun L=>he (by have:=L.pow (i+(1+q)) (by omega) hjO;rwa [ed]at this)) (hkp _)
 have hqd:q=d:=by omega
 subst hqd
 -- second condition
 simp only [pwA,seval,-iQ0,wi1];refine zC (fun m vs h'=>∃q':Nat,q'≤q∧m=q-q'∧vs=[.ptr sp 0,.int .i64 i,.ptr σ.next 0,.int .i64 O.length,.int .i64 i,.int .i64 ((i+(1+q'):Nat):Int)]∧
  h'=σ.new [.int .i64 0,.int .i64 0,.int .i64 0,.int .i64 0]∧
  ∀t r,t<q'→t+(1+r)<q→mu O P C q (cvec C i (i+(1+(t+(1+r))))) (cvec C i (i+(1+t)))=mu O P C q (cvec C i (i+(1+t))) (Grp.img O C (mu O P C q) i (cvec C (i+(1+t)) (i+(1+(t+(1+r))))))) q ?_ ?_
 ·exact⟨0,by omega,by omega,rfl,rfl,fun t r h=>by omega⟩
 rintro m vs h' ⟨t,ht,rfl,rfl,rfl,hall2⟩
 simp only [pwA,seval,-iQ0];refine iteI (fun hlt=>?_) fun hge=>?_
 ·have hjO:i+(1+t)<O.length:=by omega
  have hjC:i+(1+t)<C.length:=by rw [s.cl];exact hjO
  obtain⟨w6,a6,hrk⟩:=hrs t (by omega)
  obtain⟨w7,a7,rs2,hrb2,hrs2⟩:=cvRow s hC hjO;have hjr:t<O.length-1-i:=by omega
  have hcv:=s.cj i (i+(1+t)) (by omega) (by omega)
  have hcv':TT O (O.length-q) (cvec C i (i+(1+t))):=by rw [edi];exact hcv
  have e3:IntKind.i64.wrap (((i+(1+t):Nat):Int)-(i:Int))=((1+t:Nat):Int):=by rw [wrap64 (by omega) (by omega)];omega
  have e4:IntKind.i64.wrap (((1+t:Nat):Int)-1)=(t:Int):=by rw [wrap64 (by omega) (by omega)];omega
  have e5:IntKind.i64.wrap (((i+(1+t):Nat):Int)+1)=((i+(1+(t+1)):Nat):Int):=by rw [wrap64 (by omega) (by omega)];omega
  simp only [pwA,seval,-iQ0,e5];refine zC (fun m vs h'=>∃r:Nat,t+(1+r)≤q∧m=q-(t+(1+r))∧vs=[.ptr sp 0,.int .i64 i,.ptr σ.next 0,.int .i64 O.length,.int .i64 i,.int .i64 ((i+(1+t):Nat):Int),.int .i64 ((i+(1+(t+(1+r))):Nat):Int)]∧
   h'=σ.new [.int .i64 0,.int .i64 0,.int .i64 0,.int .i64 0]∧
   ∀r',r'<r→t+(1+r')<q→mu O P C q (cvec C i (i+(1+(t+(1+r'))))) (cvec C i (i+(1+t)))=mu O P C q (cvec C i (i+(1+t))) (Grp.img O C (mu O P C q) i (cvec C (i+(1+t)) (i+(1+(t+(1+r'))))))) (q-(t+1)) ?_ ?_
  ·exact⟨0,by omega,by omega,rfl,rfl,fun r' h=>by omega⟩
  rintro m vs h' ⟨r,hr,rfl,rfl,rfl,hall3⟩
  simp only [pwA,seval,-iQ0];refine iteI (fun hlt2=>?_) fun hge2=>?_
  ·have hkO:i+(1+(t+(1+r)))<O.length:=by omega
   obtain⟨w8,a8,hrk2⟩:=hrs (t+(1+r)) (by omega)
   obtain⟨w9,a9,hrk3⟩:=hrs2 r (by omega)
   rw [show i+(1+t)+(1+r)=i+(1+(t+(1+r))) by omega]at hrk3
   have hcv2:=s.cj i (i+(1+(t+(1+r)))) (by omega) hkO
   have hcv2':TT O (O.length-q) (cvec C i (i+(1+(t+(1+r))))):=by rw [edi];exact hcv2
   have hcv3:=s.cj (i+(1+t)) (i+(1+(t+(1+r)))) (by omega) hkO
   have hkr:t+(1+r)<O.length-1-i:=by omega
   have hkr2:r<O.length-1-(i+(1+t)):=by omega
   have f3:IntKind.i64.wrap (((i+(1+(t+(1+r))):Nat):Int)-(i:Int))=((1+(t+(1+r)):Nat):Int):=by rw [wrap64 (by omega) (by omega)];omega
   have f4:IntKind.i64.wrap (((1+(t+(1+r)):Nat):Int)-1)=((t+(1+r):Nat):Int):=by rw [wrap64 (by omega) (by omega)];omega
   have f5:IntKind.i64.wrap (((i+(1+(t+(1+r))):Nat):Int)+1)=((i+(1+(t+(1+(r+1)))):Nat):Int):=by rw [wrap64 (by omega) (by omega)];omega
   have f6:IntKind.i64.wrap (((i+(1+(t+(1+r))):Nat):Int)-((i+(1+t):Nat):Int))=((1+r:Nat):Int):=by rw [wrap64 (by omega) (by omega)];omega
   have f7:IntKind.i64.wrap (((1+r:Nat):Int)-1)=(r:Int):=by rw [wrap64 (by omega) (by omega)];omega
   simp only [pwA,seval,-iQ0,e0,e1,e2,hne,wi1,hiC,hrb,e3,e4,f3,f4,f6,f7,hjr,hrk,hkr,hrk2,hjC,hrb2,hkr2,hrk3];refine zCl s F (hs1 _) hR0 hcv2' hcv' (FI.mk hcv2.len) (FI.mk hcv.len) fun v z hz1 hz2 hv=>?_
   simp only [pwA,seval,-iQ0,e0,e1,e2,hne,wi1,hiC,hrb,e3,e4,f3,f4,f6,f7,hjr,hrk,hkr,hrk2,hjC,hrb2,hkr2,hrk3];refine zAc s F hi (hs1 _) hR0 (hcv3.mono (Nat.zero_le _)) (FI.mk hcv3.len) fun v2 hv2=>?_
   have hz:=imgt (cvec C (i+(1+t)) (i+(1+(t+(1+r)))));obtain⟨w10,a10,rfl⟩:=hv;obtain⟨w11,a11,rfl⟩:=hv2;simp only [pwA,seval,-iQ0];refine zA7 rfl rfl (by have:=hz1.len;omega) ?_
   by_cases he:z=Grp.img O C (mu O P C q) i (cvec C (i+(1+t)) (i+(1+(t+(1+r)))))
   ·simp only [pwA,seval,-iQ0,eq_true he,f5]
    refine⟨_,by omega,r+1,by omega,rfl,rfl,fun r' h1 h2=>?_⟩
    by_cases e:r'=r
    ·subst e;rw [←he];exact hz2.symm
    ·exact hall3 r' (by omega) h2
   ·simp only [pwA,seval,-iQ0,he]
    exact fin (no (by decide) fun L=>he (by
     have:=L.cj (i+(1+t)) (i+(1+(t+(1+r)))) (by omega) (by omega) hkO
     rw [ed]at this
     exact G.cancel hcv' hz1 hz (hz2.trans this))) (hkp _)
  ·simp only [pwA,seval,-iQ0,e5]
   refine⟨_,by omega,t+1,by omega,rfl,rfl,fun t' r' h1 h2=>?_⟩
   by_cases e:t'=t
   ·subst e;exact hall3 r' (by omega) h2
   ·exact hall2 t' r' (by omega) h2
 -- third condition
 obtain⟨w6,a6,hpr⟩:=pvRow s hP hil;have hpv:=s.pw i hil;have hpv':TT O (O.length-q) (pvec P i):=by rw [edi];exact hpv
 simp only [pwA,seval,-iQ0,e1,hne,hiP,hpr];refine zAc s F hi (hs1 _) hR0 (hpv.mono (Nat.zero_le _)) (FI.mk hpv.len) fun v hv=>?_
 obtain⟨w7,a7,rfl⟩:=hv;simp only [pwA,seval,-iQ0];refine zA7 rfl hpv.len.symm (by have:=(imgt (pvec P i)).len;omega) ?_
 by_cases he3:Grp.img O C (mu O P C q) i (pvec P i)=pvec P i
 rotate_left
 ·simp only [pwA,seval,-iQ0,he3]
  exact fin (no (by decide) fun L=>he3 (by have:=L.fix;rwa [ed]at this)) (hkp _)
 simp only [pwA,seval,-iQ0,eq_true he3,wi1]
 -- fourth condition
 refine zC (fun m vs h'=>∃q':Nat,q'≤q∧m=q-q'∧vs=[.ptr sp 0,.int .i64 i,.ptr σ.next 0,.int .i64 O.length,.int .i64 i,.fz w6 a6 O.length (pis (pvec P i)),.int .i64 ((i+(1+q'):Nat):Int)]∧
  h'=σ.new [.int .i64 0,.int .i64 0,.int .i64 0,.int .i64 0]∧
  ∀t,t<q'→mu O P C q (pvec P i) (iter (Grp.img O C (mu O P C q) i) (nx O i) (unitL O.length (i+(1+t))))=mu O P C q (unitL O.length (i+(1+t))) (pvec P i)) q ?_ ?_
 ·exact⟨0,by omega,by omega,rfl,rfl,fun t h=>by omega⟩
 rintro m vs h' ⟨t,ht,rfl,rfl,rfl,hall4⟩
 simp only [pwA,seval,-iQ0];refine iteI (fun hlt=>?_) fun hge=>?_
 rotate_left
 ·exact fin (.inl ⟨rfl,rfl,rfl,rfl,yes hall (fun t' r' h=>hall2 t' r' (by omega) h) he3 (fun t' h=>hall4 t' (by omega))⟩) (hkp _)
 have hjO:i+(1+t)<O.length:=by omega
 have hO:=s.pr i hil;have e5:IntKind.i64.wrap (((i+(1+t):Nat):Int)+1)=((i+(1+(t+1)):Nat):Int):=by rw [wrap64 (by omega) (by omega)];omega
 have hun:TT O (i+1) (unitL O.length (i+(1+t))):=s.unit hjO (by omega)
 have hun':TT O (O.length-q) (unitL O.length (i+(1+t))):=by rw [edi];exact hun
 simp only [pwA,seval,-iQ0];refine zAU (by omega) hjO fun av=>?_
 simp only [pwA,seval,-iQ0,e0,hne,hil,pisAt hil];refine zC (fun m vs h'=>∃(k:Nat) (v2:PV) (A:List Int),k≤nx O i∧m=nx O i-k∧vs=[.ptr sp 0,.int .i64 i,.ptr σ.next 0,.int .i64 O.length,.int .i64 i,.fz w6 a6 O.length (pis (pvec P i)),.int .i64 ((i+(1+t):Nat):Int),v2,.int .i64 (at_ O i),.int .i64 k]∧
  h'=σ.new [.int .i64 0,.int .i64 0,.int .i64 0,.int .i64 0]∧FI v2 A∧TT O (O.length-q) A∧iter (Grp.img O C (mu O P C q) i) (nx O i-k) A=iter (Grp.img O C (mu O P C q) i) (nx O i) (unitL O.length (i+(1+t)))) (nx O i) ?_ ?_
 ·exact⟨0,.fz true av O.length (pis (unitL O.length (i+(1+t)))),_,by omega,by omega,rfl,rfl,FI.mk (ZV _ _),hun',rfl⟩
 rintro m vs h' ⟨k,v2,A,hkn,rfl,rfl,rfl,hv2,hA,hit⟩
 have hnx:((nx O i:Nat):Int)=at_ O i:=Int.toNat_of_nonneg (by omega)
 simp only [pwA,seval,-iQ0];refine iteI (fun hlt2=>?_) fun hge2=>?_
 ·have hlt3:k<nx O i:=by omega
  refine zAc s F hi (hs1 _) hR0 (hA.mono (Nat.zero_le _)) hv2 fun v3 hv3=>?_
  simp only [pwA,seval,-iQ0,wrapS hlt3 (by omega:nx O i≤4611686018427387904)]
  refine⟨_,by omega,k+1,v3,_,by omega,rfl,rfl,hv3,imgt _,?_⟩
  rw [show nx O i-k=(nx O i-(k+1))+1 by omega]at hit
  exact hit
 have hke:k=nx O i:=by omega
 subst hke;rw [Nat.sub_self]at hit
 have hA':A=iter (Grp.img O C (mu O P C q) i) (nx O i) (unitL O.length (i+(1+t))):=hit;subst hA';simp only [pwA,seval,-iQ0];refine zAU (by omega) hjO fun av2=>?_
 simp only [pwA,seval,-iQ0];refine zCl s F (hs1 _) hR0 hun' hpv' (FI.mk (ZV _ _)) (FI.mk hpv.len) fun v z hz1 hz2 hv=>?_
 obtain⟨w8,a8,rfl⟩:=hv2;obtain⟨w9,a9,rfl⟩:=hv;simp only [pwA,seval,-iQ0];refine zA7 rfl rfl (by have:=hA.len;omega) ?_
 by_cases he:iter (Grp.img O C (mu O P C q) i) (nx O i) (unitL O.length (i+(1+t)))=z
 ·simp only [pwA,seval,-iQ0,eq_true he,e5]
  refine⟨_,by omega,t+1,by omega,rfl,rfl,fun t' h=>?_⟩
  by_cases e:t'=t
  ·subst e;rw [he];exact hz2
  ·exact hall4 t' (by omega)
 ·simp only [pwA,seval,-iQ0,he]
  exact fin (no (by decide) fun L=>he (by
   have:=L.inn (i+(1+t)) (by omega) hjO
   rw [ed]at this
   exact G.cancel hpv' hA hz1 (this.trans hz2.symm))) (hkp _)
end Go.Proofs
namespace Go.Grp
end Go.Grp
namespace Go.Proofs
open Go.Ab Go.Lie Go.Grp
variable {σ:PHeap} {K:PV→PHeap→Prop} {O:List Int} {P:List (List Int)} {C:List (List (List Int))} {vO vP vC vx vf va vb:PV} {x y f a b:List Int} {rP rC:List PV} {d j sp:Nat}
theorem zDE (s:Shp O P C) (hs:PtrG σ sp vO vP vC) (hR:IsPr vO vP vC O P C) (hk:∀r:Int,(r=0↔Cons O P C)→K (.int .i64 r) σ):zA Tryz.prog 60 [.ptr sp 0] σ K:=by
 have hn6:=s.le;have hR0:=hR;have hs0:=hs;obtain⟨⟨w0,a0,rfl⟩,⟨w1,a1,rP,rfl,hP⟩,⟨w3,a3,rC,rfl,hC⟩⟩:=hR;have e0:σ.rd1 sp 0=some (.fz w0 a0 O.length (pis O)):=by rw [zi hs.obj];rfl
 refine zD mix Tryz.func60 ?_;simp only [pwA,seval,-iQ0,e0];refine zC (fun m vs h'=>∃k:Nat,k≤O.length∧m=k∧vs=[.ptr sp 0,.int .i64 k]∧σ=h'∧∀j,k≤j→j<O.length→Lv O P C j) O.length ?_ ?_
 ·exact⟨O.length,Nat.le_refl _,rfl,rfl,rfl,fun j h1 h2=>by omega⟩
 rintro m vs h' ⟨k,hkO,rfl,rfl,rfl,hall⟩
 rcases Nat.eq_zero_or_pos m with rfl|hmp
 ·have h00:¬((0:Int)<((0:Nat):Int)):=by omega
  simp only [pwA,seval,-iQ0,h00];exact hk _ ⟨fun _ j hj=>hall j (Nat.zero_le _) hj,fun _=>rfl⟩
 obtain⟨i,rfl⟩:∃i,m=i+1:=⟨m-1,by omega⟩
 have hpos:(0:Int)<((i+1:Nat):Int):=by omega
 have hw:IntKind.i64.wrap (((i+1:Nat):Int)-1)=(i:Int):=by rw [wrap64 (by omega) (by omega)];omega
 have F:Full O P C (O.length-(i+1)):=full_of s (by omega) fun j h1 h2=>hall j (by omega) h2
 simp only [pwA,seval,-iQ0,hpos,hw];refine zFr s F (i:=i) (by omega) hs0 hR0 fun f0 f1 f2 f3 hf=>?_
 rcases hf with ⟨rfl,rfl,rfl,rfl,L⟩|⟨h0,hn⟩
 ·simp only [pwA,seval,-iQ0,hpos,hw]
  refine⟨i,by omega,i,by omega,rfl,rfl,fun j h1 h2=>?_⟩
  by_cases e:j=i
  ·subst e;exact L
  ·exact hall j (by omega) h2
 ·simp only [pwA,seval,-iQ0,hpos,hw,h0,Bool.false_and]
  exact hk _ ⟨fun h=>absurd h (by omega),fun h=>absurd (h i (by omega)) hn⟩
theorem Zx (hR:IsPr vO vP vC O P C) (sz:SzP O P C) (hk:∀t:Bool,(t=true↔qE O P C∧Cons O P C)→K (.bool t) σ):zA Tryz.prog 27 [.agg [vO,vP,vC]] σ K:=by
 have h0:=hR.O.one;have h1:=hR.P.one;have h2:=hR.C.one;have fl:∀{A:Prop},¬A→((false=true)↔A):=fun h=>⟨fun x=>(by cases x),fun x=>absurd x h⟩
 have hpt:PtrG (σ.new [vO,vP,vC]) σ.next vO vP vC:=⟨by simp only [pwA,seval,-iQ0],by simp only [pwA,seval,-iQ0]⟩
 refine zA.gh ?_;refine zD mix Tryz.func27 ?_;simp only [pwA,seval,-iQ0,h0,h1,h2];refine QH hR sz fun t ht=>?_
 cases t with
 | false=>
  simp only [pwA,seval,-iQ0];exact Gh.fin0 (zB σ _) trivial (hk _ (fl fun h=>by cases ht.2 h.1))
 | true=>
  have hp:=ht.1 rfl;simp only [pwA,seval,-iQ0];refine zDE hp.shp hpt hR fun r hr=>?_
  simp only [pwA,seval,-iQ0];exact Gh.fin0 (zB σ _) trivial (hk _ (by rw [decide_eq_true_iff];exact⟨fun h=>⟨hp,hr.1 h⟩,fun h=>hr.2 h.2⟩))
end Go.Proofs
set_option linter.unusedSectionVars false
namespace Go.Grp
open Go.Ab Go.Lie
variable {α:Type} {S:α→Prop} {m:α→α→α} {e:α} {a b c x y z g:α}
noncomputable def ginv [Inhabited α] (S:α→Prop) (m:α→α→α) (e a:α):α:=Classical.epsilon fun b=>S b∧m a b=e
section
variable [Inhabited α]
theorem Gp.inv_in (G:Gp S m e) (ha:S a):S (ginv S m e a)∧m a (ginv S m e a)=e:=by
 obtain⟨b,h1,h2,h3⟩:=G.inv ha;exact Classical.epsilon_spec (p:=fun b=>S b∧m a b=e) ⟨b,h1,h2⟩
theorem Gp.inv_eq (G:Gp S m e) (ha:S a) (hb:S b) (h:m a b=e):b=ginv S m e a:=G.cancel ha hb (G.inv_in ha).1 (h.trans (G.inv_in ha).2.symm)
end
end Go.Grp
namespace Go.Grp
open Go.Ab Go.Lie
variable {O:List Int} {P:List (List Int)} {C:List (List (List Int))} {x y z:List Int} {A B:List Int→Prop}
abbrev gS (O:List Int):List Int→Prop:=TT O 0
abbrev gm (O:List Int) (P:List (List Int)) (C:List (List (List Int))):List Int→List Int→List Int:=mu O P C O.length
theorem Full.g (F:Full O P C O.length):Gp (gS O) (gm O P C) (zv O):=by
 have:=F.gp
 rwa [Nat.sub_self]at this
end Go.Grp
namespace Go.Grp
end Go.Grp
namespace Go.Proofs
open Go.Ab Go.Lie Go.Grp
variable {σ:PHeap} {K:PV→PHeap→Prop} {O:List Int} {P:List (List Int)} {C:List (List (List Int))} {vO vP vC vx vf va vb:PV} {x y f a b:List Int} {rP rC:List PV} {d j sp:Nat}
theorem zNo {i:Nat} (xl:i<x.length):(x.set i 0).set i (at_ x i)=x:=zKF xl
theorem zGu (s:Shp O P C) {d i:Nat} (hi:O.length=(d+1)+i) (F:Full O P C d) (F1:Full O P C (d+1)) {y1 y2:List Int} (hx:TT O i x) (h1:TT O (i+1) y1) (h2:TT O (i+1) y2) (e1:mu O P C d (x.set i 0) y1=zv O) (e2:mu O P C d (pvec P i) y2=zv O):
  (at_ x i=0→mu O P C (d+1) x y1=zv O)∧(at_ x i≠0→mu O P C (d+1) x (mu O P C (d+1) (mu O P C (d+1) y1 ((zv O).set i (at_ O i-at_ x i))) y2)=zv O):=by
 have hil:i<O.length:=by omega
 have hn:O.length-d=i+1:=by omega
 have hn1:O.length-(d+1)=i:=by omega
 have hpos:=s.pos hil;have bx:=hx.bd i hil;have xl:i<x.length:=by rw [hx.len];exact hil
 have M:=F.gp.toMon;have G1:=F1.gp;rw [hn1]at G1
 have hr:TT O (O.length-d) (x.set i 0):=by rw [hn];exact hx.set0 hil hpos
 have h1':TT O (O.length-d) y1:=by rw [hn];exact h1
 have h2':TT O (O.length-d) y2:=by rw [hn];exact h2
 have hz:TT O (O.length-d) (zv O):=s.zv _;have hw:TT O (O.length-d) (pvec P i):=by rw [hn];exact s.pw i hil
 have sub:∀{u v:List Int},TT O (O.length-d) u→TT O (O.length-d) v→mu O P C (d+1) u v=mu O P C d u v:=fun hu hv=>zFA s (by omega) hu hv
 constructor
 ·intro h0
  rw [q8 h0 xl]at e1 hr
  rw [sub hr h1'];exact e1
 ·intro h0
  have z0:(zv O).set i 0=zv O:=q8 (zAQ _ i) (by simp;exact hil)
  have ia:∀k,iter (al O P C d i) k (zv O)=zv O:=fun k=>zCb (al_zv s F.toBeh hn) k
  have hg:TT O i ((zv O).set i (at_ x i)):=(s.zv i).set hil (Nat.le_refl _) bx;have ht:TT O i ((zv O).set i (at_ O i-at_ x i)):=(s.zv i).set hil (Nat.le_refl _) ⟨by omega,by omega⟩
  have hrl:i<(x.set i 0).length:=by rw [List.length_set];exact xl
  have r0:(x.set i 0).set i 0=x.set i 0:=by rw [List.set_set]
  have up:∀{u:List Int},TT O (O.length-d) u→TT O i u:=fun h=>h.mono (by omega)
  have ex:mu O P C (d+1) ((zv O).set i (at_ x i)) (x.set i 0)=x:=by
   have:=zC1 s F.toBeh hn (a:=at_ x i) (b:=0) hz hr
   rw [r0,if_neg (by omega),ia,M.l1 hr,Int.add_zero,zNo xl]at this
   exact this
  have et:mu O P C (d+1) ((zv O).set i (at_ x i)) ((zv O).set i (at_ O i-at_ x i))=pvec P i:=by
   have:=zC1 s F.toBeh hn (a:=at_ x i) (b:=at_ O i-at_ x i) hz hz
   rw [if_pos (by omega),ia,M.l1 hz,M.r1 hw,show at_ x i+(at_ O i-at_ x i)-at_ O i=0 by omega,q8 (hw.zero i (by omega)) (by rw [hw.len];exact hil)]at this
   exact this
  have key:∀Y,mu O P C (d+1) x Y=mu O P C (d+1) (mu O P C (d+1) ((zv O).set i (at_ x i)) (x.set i 0)) Y:=fun Y=>by rw [ex]
  rw [key];have k1:=up h1';have k2:=up h2';have kr:=up hr;rw [G1.as hg kr (G1.cl (G1.cl k1 ht) k2),←G1.as kr (G1.cl k1 ht) k2,←G1.as kr k1 ht,sub hr h1',e1,G1.l1 ht,←G1.as hg ht k2,et,sub hw h2',e2]
end Go.Proofs
namespace Go.Grp
end Go.Grp
namespace Go.Proofs
open Go.Ab Go.Lie Go.Grp
variable {σ:PHeap} {K:PV→PHeap→Prop} {O:List Int} {P:List (List Int)} {C:List (List (List Int))} {vO vP vC vx vf va vb:PV} {x y f a b:List Int} {rP rC:List PV} {d j sp:Nat}
def zLk (O:List Int) (P:List (List Int)) (C:List (List (List Int))) (d i:Nat):Prop:=
 ∀(σ:PHeap) (K:PV→PHeap→Prop) (x:List Int) (vx vO vP vC:PV),IsPr vO vP vC O P C→TT O i x→FI vx x→(∀v y,FI v y→TT O i y→mu O P C d x y=zv O→K v σ)→zA Tryz.prog 144 [.agg [vO,vP,vC],.int .i64 i,vx] σ K
theorem zEY (s:Shp O P C) (hc:Cons O P C):∀{d i:Nat},O.length=d+i→zLk O P C d i
 | 0,i,hi=>by
  intro σ K x vx vO vP vC hR hx hvx hk;have hn6:=s.le;obtain⟨⟨w0,a0,rfl⟩,⟨w1,a1,rP,rfl,hP⟩,⟨w3,a3,rC,rfl,hC⟩⟩:=hR;refine zA.gh ?_;have hge:(O.length:Int)≤(i:Int):=by omega
  refine zD mix Tryz.func144 ?_;simp only [pwA,seval,-iQ0,hge,List.length_replicate,qh,mk8 (n:=O.length) (by omega),mkL (n:=O.length) (by omega)]
  exact Gh.finF (s:=σ.next+1) ((zB σ _).new _) (by simp only [pwA,seval,-iQ0]) (by omega) (zh _ _) (by simp [capOK]) fun o1=>hk _ (zv O) (FI.mk (by simp)) (s.zv _) rfl
 | d+1,i,hi=>by
  intro σ K x vx vO vP vC hR hx hvx hk;have hFr:zLk O P C d (i+1):=zEY s hc (by omega)
  have F:Full O P C d:=full_of s (by omega) fun j h1 h2=>hc j h2
  have F1:Full O P C (d+1):=full_of s (by omega) fun j h1 h2=>hc j h2
  have hAt:AtOK O P C (d+1) i:=zBu s (by omega)
  have hn6:=s.le;have hR0:=hR;have hil:i<O.length:=by omega
  have hO:=s.pr i hil;have hpos:=s.pos hil;have hxl:=hx.len;have bx:=hx.bd i hil;have hn1:O.length-(d+1)=i:=by omega
  have G1:=F1.gp;rw [hn1]at G1
  obtain⟨⟨w0,a0,rfl⟩,⟨w1,a1,rP,rfl,hP⟩,⟨w3,a3,rC,rfl,hC⟩⟩:=hR;obtain⟨w5,a5,hpr⟩:=pvRow s hP hil;have hiP:i<P.length:=by rw [s.pl];exact hil
  have hpv:=s.pw i hil;obtain⟨wx,ax,rfl⟩:=hvx;have hilx:i<x.length:=by omega
  have hge:¬(O.length:Int)≤(i:Int):=by omega
  have sx:=hx.set0 hil hpos;have wi1:IntKind.i64.wrap ((i:Int)+1)=((i+1:Nat):Int):=wrapS hil (by omega)
  have hilx1:i+1≤x.length:=hilx;refine zA.gh ?_;refine zD mix Tryz.func144 ?_;simp only [pwA,seval,-iQ0,hge];refine ZU rfl (by omega) fun cap1 hc1=>?_
  simp only [pwA,seval,-iQ0,hilx,hilx1,zG,qZ hilx,wi1];refine zA.frz (s:=σ.next+1) (cs:=pis (x.set i 0)) (by simp only [pwA,seval,-iQ0]) (zh _ _) fun o1=>?_
  have hcok:=hc1.ok;simp only [sbs,sb,hcok,and_self,if_true,hR0.O.sb,hR0.P.sb,hR0.C.sb];refine hFr _ _ (x.set i 0) _ _ _ _ hR0 sx (FI.mk (by simp)) fun v1 y1 hv1 hy1 e1=>?_
  have hkp:Keep σ (((σ.new [.fz w0 a0 O.length (pis O),.fz w1 a1 P.length rP,.fz w3 a3 C.length rC]).new (pis (x.set i 0))).kill (σ.next+1)):=((zB σ _).new _).kill (by omega)
  simp only [pwA,seval,-iQ0,hilx,pisAt hilx];refine iteI (fun h0=>?_) fun h0=>?_
  ·have hr:=hFr
   -- the inverse of the power is not asked for; any will do
   obtain⟨y2,h2a,h2b,_⟩:=F.gp.inv (a:=pvec P i) (by rw [show O.length-d=i+1 by omega];exact hpv)
   rw [show O.length-d=i+1 by omega]at h2a
   have:=(zGu s (by omega) F F1 hx hy1 h2a e1 h2b).1 h0
   exact Gh.fin0 hkp (hv1.bel _) (hk v1 y1 hv1 (hy1.mono (by omega)) this)
  have hol:i<(zv O).length:=by simp;exact hil
  have hol1:i+1≤O.length:=hil;have hsub:IntKind.i64.wrap (at_ O i-at_ x i)=at_ O i-at_ x i:=wrap64 (by omega) (by omega)
  have hset:=qZ hol (x:=at_ O i-at_ x i);have ht:TT O i ((zv O).set i (at_ O i-at_ x i)):=(s.zv i).set hil (Nat.le_refl _) ⟨by omega,by omega⟩
  simp only [pwA,seval,-iQ0,List.length_replicate,qh,mk8 (n:=O.length) (by omega),mkL (n:=O.length) (by omega),hilx,pisAt hilx,hil,hol1,pisAt hil,hsub,zG,hset,wi1,hiP,hpr]
  refine zA.frz (s:=σ.next+2) (cs:=pis ((zv O).set i (at_ O i-at_ x i))) (by simp only [pwA,seval,-iQ0]) (zh _ _) fun o2=>?_
  simp only [sbs,sb,capOK,Nat.le_refl,decide_true,and_self,if_true,hR0.O.sb,hR0.P.sb,hR0.C.sb,hv1.sb];have hy1':TT O i y1:=hy1.mono (by omega)
  refine hAt hR0 hy1' ht hv1 (FI.mk (by simp)) fun v3 hv3=>?_
  simp only [pwA,seval,-iQ0,wi1,hiP,hpr];refine hFr _ _ (pvec P i) _ _ _ _ hR0 hpv (FI.mk hpv.len) fun v2 y2 hv2 hy2 e2=>?_
  have hy2':TT O i y2:=hy2.mono (by omega)
  have h12:=G1.cl hy1' ht;simp only [pwA,seval,-iQ0,wi1,hiP,hpr];refine hAt hR0 h12 hy2' hv3 hv2 fun v4 hv4=>?_
  simp only [pwA,seval,-iQ0]
  have:=(zGu s (by omega) F F1 hx hy1 hy2 e1 e2).2 h0
  exact Gh.fin0 (((((zB σ _).new _).kill (by omega)).new _).kill (by omega)) (hv4.bel _) (hk v4 _ hv4 (G1.cl h12 hy2') this)
theorem zLA (s:Shp O P C) (hc:Cons O P C) (hR:IsPr vO vP vC O P C) (hx:gS O x) (hvx:FI vx x) (hk:∀v,FI v (ginv (gS O) (gm O P C) (zv O) x)→K v σ):zA Tryz.prog 114 [.agg [vO,vP,vC],vx] σ K:=by
 have h0:=hR.O.one;have h1:=hR.P.one;have h2:=hR.C.one;have G:=(full_of s (Nat.le_refl _) fun j _ h=>hc j h).g
 refine zA.gh ?_;refine zD mix Tryz.func114 ?_;simp only [pwA,seval,-iQ0,h0,h1,h2];refine zEY s hc (d:=O.length) (i:=0) (by omega) _ _ x _ _ _ _ hR hx hvx fun v y hv hy e=>?_
 simp only [pwA,seval,-iQ0]
 have:=G.inv_eq hx hy e
 rw [←this]at hk
 exact Gh.fin0 (zB σ _) (hv.bel _) (hk v hv)
end Go.Proofs
namespace Go.Grp
end Go.Grp
namespace Go.Proofs
open Go.Ab Go.Lie Go.Grp
variable {σ:PHeap} {K:PV→PHeap→Prop} {O:List Int} {P:List (List Int)} {C:List (List (List Int))} {vO vP vC vx vy vf va vb:PV} {x y f a b:List Int} {rP rC:List PV} {d j sp:Nat}
theorem zFU (s:Shp O P C) (hR:IsPr vO vP vC O P C) (ha:gS O a) (hb:gS O b) (hva:FI va a) (hvb:FI vb b) (hk:∀v,FI v (gm O P C a b)→K v σ):zA Tryz.prog 113 [.agg [vO,vP,vC],va,vb] σ K:=by
 have h0:=hR.O.one;have h1:=hR.P.one;have h2:=hR.C.one;refine zA.gh ?_;refine zD mix Tryz.func113 ?_;simp only [pwA,seval,-iQ0,h0,h1,h2];refine zBu s (d:=O.length) (i:=0) (by omega) hR ha hb hva hvb fun v hv=>?_
 simp only [pwA,seval,-iQ0];exact Gh.fin0 (zB σ _) (hv.bel _) (hk v hv)
end Go.Proofs
namespace Go.Grp
end Go.Grp
namespace Go.Proofs
open Go.Ab Go.Lie Go.Grp
theorem zPk {a b:List Int} (j:Nat):at_ (a++b) j=if j<a.length then at_ a j else at_ b (j-a.length):=by
 by_cases h:j<a.length
 ·rw [if_pos h,at_eq h,at_eq (by rw [List.length_append];omega),List.getElem_append_left h]
 ·rw [if_neg h]
  by_cases h2:j-a.length<b.length
  ·rw [at_eq h2,at_eq (by rw [List.length_append];omega),List.getElem_append_right (by omega)]
  ·rw [at_ge (v:=a++b) (by rw [List.length_append];omega),at_ge (v:=b) (by omega)]
def ordF (O:List Int):Nat→Int
 | 0=>1
 | i+1=>ordF O i*at_ O i
def dgs (O:List Int):Nat→Nat→List Int
 | 0,_=>[]
 | c+1,k=>dgs O c (k / (at_ O c).toNat)++[((k % (at_ O c).toNat:Nat):Int)]
theorem zAf (O:List Int):∀c k,(dgs O c k).length=c
 | 0,_=>rfl
 | c+1,k=>by simp [dgs,zAf O c]
theorem zLV {O:List Int} (h:∀j,j<O.length→2≤at_ O j∧at_ O j≤7):∀{c k:Nat},c≤O.length→∀j,j<c→0≤at_ (dgs O c k) j∧at_ (dgs O c k) j<at_ O j
 | 0,k,hc,j,hj=>by omega
 | c+1,k,hc,j,hj=>by
  have hb:=h c (by omega)
  rw [dgs,zPk,zAf]
  by_cases e:j<c
  ·rw [if_pos e];exact zLV h (by omega) j e
  ·obtain rfl:j=c:=by omega
   rw [if_neg e,Nat.sub_self];show 0≤((k % (at_ O j).toNat:Nat):Int)∧((k % (at_ O j).toNat:Nat):Int)<at_ O j
   have:=Nat.mod_lt k (show 0<(at_ O j).toNat by omega)
   omega
theorem zPf {O:List Int} {P:List (List Int)} {C:List (List (List Int))} (s:Shp O P C) (k:Nat):gS O (dgs O O.length k):=
 ⟨zAf _ _ _,fun j hj=>zLV s.pr (Nat.le_refl _) j hj,fun j hj=>by omega⟩
theorem zC0 {O:List Int} (h:∀j,j<O.length→2≤at_ O j∧at_ O j≤7):∀{i:Nat},i≤O.length→1≤ordF O i∧ordF O i≤7 ^ i
 | 0,_=>by simp [ordF]
 | i+1,hi=>by
  obtain⟨h1,h2⟩:=zC0 h (i:=i) (by omega)
  obtain⟨h3,h4⟩:=h i (by omega)
  have e1:=Int.mul_le_mul_of_nonneg_left (a:=1) (b:=at_ O i) (c:=ordF O i) (by omega) (by omega)
  have e2:=Int.mul_le_mul h2 h4 (by omega) (by omega)
  rw [ordF,Int.pow_succ];omega
theorem pow7 {i:Nat} (h:i≤6):(7:Int) ^ i≤117649:=by
 match i,h with
 | 0,_=>decide
 | 1,_=>decide
 | 2,_=>decide
 | 3,_=>decide
 | 4,_=>decide
 | 5,_=>decide
 | 6,_=>decide
variable {σ:PHeap} {K:PV→PHeap→Prop} {O:List Int} {P:List (List Int)} {C:List (List (List Int))} {vO vP vC vx:PV} {x:List Int} {sp:Nat}
theorem zK3 (s:Shp O P C) (hs:PtrG σ sp vO vP vC) (hO:FI vO O) (hk:K (.int .i64 (ordF O O.length)) σ):zA Tryz.prog 99 [.ptr sp 0] σ K:=by
 have hn6:=s.le;obtain⟨w0,a0,rfl⟩:=hO;have e0:σ.rd1 sp 0=some (.fz w0 a0 O.length (pis O)):=by rw [zi hs.obj];rfl
 refine zD mix Tryz.func99 ?_;simp only [pwA,seval,-iQ0,e0];refine zC (fun m vs h'=>∃i:Nat,i≤O.length∧m=O.length-i∧vs=[.int .i64 (ordF O i),.fz w0 a0 O.length (pis O),.int .i64 O.length,.int .i64 i]∧σ=h') O.length ⟨0,by omega,by omega,rfl,rfl⟩ ?_
 rintro m vs h' ⟨i,hi,rfl,rfl,rfl⟩
 simp only [pwA,seval,-iQ0];refine iteI (fun hlt=>?_) fun hge=>?_
 rotate_left
 ·have hie:i=O.length:=by omega
  subst hie;exact hk
 have hb:=zC0 s.pr (i:=i+1) hlt;have h7:=pow7 (i:=i+1) (by omega)
 have ha:=at_eq hlt;have hm:ordF O i*O[i]=ordF O (i+1):=by rw [ordF,ha]
 have hw:IntKind.i64.wrap (ordF O i*O[i])=ordF O (i+1):=by rw [hm,wrap64 (by omega) (by omega)]
 simp only [pwA,seval,-iQ0,hlt,gi hlt,z8,hw,wrapS hlt (by omega:O.length≤4611686018427387904)]
 exact⟨_,by omega,i+1,by omega,rfl,rfl⟩
theorem zBt (s:Shp O P C) (hR:IsPr vO vP vC O P C) (hk:K (.int .i64 (ordF O O.length)) σ):zA Tryz.prog 87 [.agg [vO,vP,vC]] σ K:=by
 have hn6:=s.le;have h0:=hR.O.one;have h1:=hR.P.one;have h2:=hR.C.one;obtain⟨⟨w0,a0,rfl⟩,hRP,hRC⟩:=hR;refine zA.gh ?_;refine zD mix Tryz.func87 ?_;simp only [pwA,seval,-iQ0,h1,h2];have e0:(σ.new [.fz w0 a0 O.length (pis O),vP,vC]).rd1 σ.next 0=some (.fz w0 a0 O.length (pis O)):=by simp only [pwA,seval,-iQ0]
 refine zC (fun m vs h'=>∃i:Nat,i≤O.length∧m=O.length-i∧vs=[.ptr σ.next 0,.int .i64 (ordF O i),.int .i64 i]∧h'=σ.new [.fz w0 a0 O.length (pis O),vP,vC]) O.length ⟨0,by omega,by omega,rfl,rfl⟩ ?_
 rintro m vs h' ⟨i,hi,rfl,rfl,rfl⟩
 simp only [pwA,seval,-iQ0,e0];refine iteI (fun hlt=>?_) fun hge=>?_
 rotate_left
 ·have hie:i=O.length:=by omega
  subst hie;exact Gh.fin0 (zB σ _) trivial hk
 have hb:=zC0 s.pr (i:=i+1) hlt;have h7:=pow7 (i:=i+1) (by omega)
 have ha:=at_eq hlt;have hm:ordF O i*O[i]=ordF O (i+1):=by rw [ordF,ha]
 have hw:IntKind.i64.wrap (ordF O i*O[i])=ordF O (i+1):=by rw [hm,wrap64 (by omega) (by omega)]
 simp only [pwA,seval,-iQ0,e0,hlt,gi hlt,z8,hw,wrapS hlt (by omega:O.length≤4611686018427387904)]
 exact⟨_,by omega,i+1,by omega,rfl,rfl⟩
end Go.Proofs
namespace Go.Proofs
open Go.Ab Go.Lie
variable {σ:PHeap} {K:PV→PHeap→Prop} {p p':Int} {n:Nat} {W:List (List Int)} {B:List (List (List Int))} {vP vB vL vU:PV}
theorem zLD {l:Nat} {w:Bool} {a:AV} {xs:List Int} (hl:l=xs.length) (hb:xs.length≤4294967296) (hk:∀v,K (.fz true v xs.length (pis xs)) σ):zA Tryz.prog 57 [.fz w a l (pis xs)] σ K:=
 zA.fz (fun K'=>ZU hl hb) (zh _ _) fun o cap=>hk _
end Go.Proofs
