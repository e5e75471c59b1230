/- Certificates of consistency: both sides. -/
import Derived.Test.YtkhbdmlhjnijaaaBP34
import Derived.Test.YtkhbdmlhjnijaaaBP27
import Derived.Test.YtkhbdmlhjnijaaaBAbPa
import Derived.Test.YtkhbdmlhjnijaaaBP26
import Derived.Test.YtkhbdmlhjnijaaaBP31
import Derived.Test.YtkhbdmlhjnijaaaBAbPn
import Derived.Test.YtkhbdmlhjnijaaaBAbPz
import Derived.Test.YtkhbdmlhjnijaaaBAbPh
import Derived.Test.YtkhbdmlhjnijaaaBAbPj
import Derived.Test.YtkhbdmlhjnijaaaBP29
open Int renaming reduceNatCast'→iQ0
set_option maxRecDepth 100000
set_option linter.unusedSimpArgs false
set_option linter.unusedVariables false
namespace Go.Proofs
open Go.Ab Go.Lie
variable {σ:PHeap} {K:PV→PHeap→Prop} {p:Int} {n c m k:Nat} {W:List (List Int)} {B:List (List (List Int))} {vP vB vL:PV} {s:Nat} {x y u v:List Int} {vx vy:PV} {xs:List (List Int)}
theorem zC4 (hL:FII vL xs) (sz:SzL xs) (hk:∀v,FII v xs→K v σ):zA Try.prog 59 [vL] σ K:=by
 have hb:=sz.l;obtain⟨wl,al,rl,rfl,hrl⟩:=hL;refine zA.gh ?_;refine zB mix Try.func59 ?_
 conv=>arg 2;cbv
 refine zC rfl ?_;simp only [pwA,seval,-iQ0];refine zD (fun m vs h'=>∃i v rows,i≤xs.length∧m=xs.length-i∧vs=[.fz wl al xs.length rl,v,.int .i64 (i:Nat)]∧Keep σ h'∧PSl σ.next 1 h' v i rows∧All2 FI rows (xs.take i)) xs.length ?_ ?_
 ·exact⟨0,_,[],by omega,by omega,rfl,zF σ _,PSl.new σ.next 1 rfl (Nat.le_refl _),by simpa using All2.nil _⟩
 ·rintro m vs h' ⟨i,v,rows,hi,rfl,rfl,hkp,ha,hall⟩
  simp only [pwA,seval,-iQ0];refine iteI (fun hlt=>?_) fun hge=>?_
  ·obtain⟨w4,a4,hrk⟩:=hrl.rowI hlt
   simp only [pwA,seval,-iQ0,hlt,hrk];refine zA.fz (e:=1) (fun K'=>Z4 rfl (by have:=sz.r _ (List.getElem_mem hlt);omega)) (qP _ _) fun o cap=>?_
   simp only [pwA,seval,-iQ0];refine PSl.push (bytes:=24) (σb:=σ) hkp ha (by omega) (by omega) fun v2 h2 k2 a2=>?_
   simp only [pwA,seval,-iQ0,wrapS hlt (by omega:xs.length≤4611686018427387904)]
   refine⟨_,by omega,i+1,v2,_,by omega,rfl,rfl,k2,a2,?_⟩
   rw [List.take_succ_eq_append_getElem hlt];exact hall.snoc ⟨_,_,rfl⟩
  ·have hie:i=xs.length:=by omega
   subst hie;rw [List.take_length]at hall
   exact ha.fin hkp (hall.bI 0) fun o cap=>hk _ ⟨_,_,_,rfl,hall⟩
end Go.Proofs
namespace Go.Grp
end Go.Grp
namespace Go.Proofs
open Go.Ab Go.Lie Go.Grp
variable {σ:PHeap} {K:PV→PHeap→Prop} {n c:Nat} {p:Int} {W:List (List Int)} {B:List (List (List Int))} {vP vB vM:PV} {s:Nat} {O:List Int} {P:List (List Int)} {C:List (List (List Int))} {vO vQ vC:PV} {lo hi:Nat}
theorem zC9 {v:PV} {xs:List (List (List Int))} {k:Int} (hI:FIII v (sqL (sqL sqI List.length) (totL List.length) k xs)) (sz:SzM xs) (hk0:0≤k) (hk1:k+totL (totL List.length) xs≤4611686018427387904) (hk:K (.int .i64 (k+totL (totL List.length) xs)) σ):zA Try.prog 79 [v,.int .i64 k] σ K:=by
 have hb:=sz.l;obtain⟨w,a,rows,rfl,hr⟩:=hI;have hl:=Z7 (sqL sqI List.length) (totL List.length) xs k;have hg:∀(i:Nat) (hi:i<xs.length) (h2:i<(sqL (sqL sqI List.length) (totL List.length) k xs).length),(sqL (sqL sqI List.length) (totL List.length) k xs)[i]=sqL sqI List.length (k+totL (totL List.length) (xs.take i)) xs[i]:=fun i hi _=>zDT (sqL sqI List.length) (totL List.length) xs k i hi
 generalize sqL (sqL sqI List.length) (totL List.length) k xs=ys at *
 refine zB mix Try.func79 ?_
 conv=>arg 2;cbv
 refine zC rfl ?_;simp only [pwA,seval,-iQ0];refine zD (fun m vs h'=>∃i:Nat,i≤ys.length∧m=ys.length-i∧vs=[.fz w a ys.length rows,.int .i64 (k+totL (totL List.length) (xs.take i)),.int .i64 i]∧σ=h') ys.length ?_ ?_
 ·exact⟨0,by omega,by omega,by rw [List.take_zero,zAd,show k+((0:Nat):Int)=k by omega];rfl,rfl⟩
 rintro m vs h' ⟨i,hi,rfl,rfl,rfl⟩
 simp only [pwA,seval,-iQ0];refine iteI (fun hlt=>?_) fun hge=>?_
 ·have hlx:i<xs.length:=by omega
  obtain⟨w4,a4,rk,hrk,hrk2⟩:=hr.rowL hlt;have ht:=zAA (len:=totL List.length) hlx;have htl:=zBi (totL List.length) xs (i+1);have hgi:=hg i hlx hlt;simp only [pwA,seval,-iQ0,hlt,hrk];have hbi:=sz.r _ (List.getElem_mem hlx);refine QN (xs:=xs[i]) ⟨w4,a4,rk,by rw [←hgi],by rw [←hgi];exact hrk2⟩ (by have:=hbi.l;omega) (fun y hy=>by have:=hbi.r y hy;omega) (by omega) (by omega) ?_
  have hn:¬(k+(totL (totL List.length) (xs.take i):Int)+(totL List.length xs[i]:Int)<0):=by omega
  simp only [pwA,seval,-iQ0,hn,wrapS hlt (by omega:ys.length≤4611686018427387904)]
  refine⟨_,by omega,i+1,by omega,rfl,?_⟩
  have:k+(totL (totL List.length) (xs.take i):Int)+(totL List.length xs[i]:Int)=k+(totL (totL List.length) (xs.take (i+1)):Int):=by omega
  rw [this]
 ·have hie:i=xs.length:=by omega
  subst hie;rw [List.take_length];exact hk
end Go.Proofs
namespace Go.Grp
end Go.Grp
namespace Go.Proofs
open Go.Ab Go.Lie Go.Grp
variable {σ:PHeap} {K:PV→PHeap→Prop} {G:List Pre} {L:List (List Int)} {vG vL:PV} {lo hi:Nat} {kk:Int}
theorem rmP7 {lo hi:Nat} {k:Int} {vO vP vC:PV} {O:List Int} {P:List (List Int)} {C:List (List (List Int))} (hR:IsPr vO vP vC O P C) (ho:Own lo hi (.agg [vO,vP,vC])):
  FI (Go.Ab.rm (mkPr k vO vP vC O P C) vO) (sqI k O)∧FII (Go.Ab.rm (mkPr k vO vP vC O P C) vP) (sqL sqI List.length (k+O.length) P)∧FIII (Go.Ab.rm (mkPr k vO vP vC O P C) vC) (sqL (sqL sqI List.length) (totL List.length) (k+O.length+totL List.length P) C):=by
 obtain⟨⟨w0,w1,w2,_⟩,hnd,_⟩:=ho;simp only [ead,eads,List.append_nil,List.nodup_append]at hnd
 obtain⟨n0,⟨n1,n2,d12⟩,d0⟩:=hnd;have k0:=mkT_I.keys (k:=k) hR.O w0;have k1:=mkT_I.F.keys (k:=k+O.length) hR.P w1;have k2:=mkT_I.F.F.keys (k:=k+O.length+totL List.length P) hR.C w2;have r0:=mkT_I.rd (k:=k) hR.O w0 n0;have r1:=mkT_I.F.rd (k:=k+O.length) hR.P w1 n1;have r2:=mkT_I.F.F.rd (k:=k+O.length+totL List.length P) hR.C w2 n2;have e0:Go.Ab.rm (mkPr k vO vP vC O P C) vO=Go.Ab.rm (mkI k vO O) vO:=Zv fun o hm=>by
  unfold mkPr;rw [Qk];intro hx;rw [List.map_append,List.mem_append]at hx
  rcases hx with hx|hx
  ·exact d0 o hm o (List.mem_append.2 (.inl (k1 o hx))) rfl
  ·exact d0 o hm o (List.mem_append.2 (.inr (k2 o hx))) rfl
 have e1:Go.Ab.rm (mkPr k vO vP vC O P C) vP=Go.Ab.rm (mkF mkI List.length (k+O.length) vP P) vP:=Zv fun o hm=>by
  unfold mkPr;rw [Zo fun hx=>d0 o (k0 o hx) o (List.mem_append.2 (.inl hm)) rfl,Qk fun hx=>d12 o hm o (k2 o hx) rfl]
 have e2:Go.Ab.rm (mkPr k vO vP vC O P C) vC=Go.Ab.rm (mkF (mkF mkI List.length) (totL List.length) (k+O.length+totL List.length P) vC C) vC:=Zv fun o hm=>by
  unfold mkPr;rw [Zo fun hx=>d0 o (k0 o hx) o (List.mem_append.2 (.inr hm)) rfl,Zo fun hx=>d12 o (k1 o hx) o hm rfl]
 rw [e0,e1,e2];exact⟨r0,r1,r2⟩
theorem zEf {x:Nat}:∀{l:List Nat},x∈l→x≤l.foldr max 0
 | y::l,h=>by
  rcases List.mem_cons.1 h with rfl|h
  ·exact Nat.le_max_left _ _
  ·exact Nat.le_trans (zEf h) (Nat.le_max_right _ _)
theorem rmC {k:Int} (hG:FG vG G) (h1:G.length≤1) (hL:FII vL L) (ho:Own lo hi (.agg [.int .i64 kk,vG,vL])):
  HG (Go.Ab.rm (mkC k vG vL G L) vG) G k∧FII (Go.Ab.rm (mkC k vG vL G L) vL) (sqL sqI List.length (k+totG G) L):=by
 obtain⟨⟨_,wG,wL,_⟩,hnd,_⟩:=ho;simp only [ead,eads,List.nil_append,List.append_nil,List.nodup_append]at hnd
 obtain⟨dG,dL,dd⟩:=hnd;have kG:=zCQ (k:=k) hG h1 wG;have kL:=(mkT_I.F).keys (k:=k+totG G) hL wL;have rL:=mkT_I.F.rd (k:=k+totG G) hL wL dL;have eL:Go.Ab.rm (mkC k vG vL G L) vL=Go.Ab.rm (mkF mkI List.length (k+totG G) vL L) vL:=Zv fun o hm=>by
  unfold mkC;rw [Zo fun hx=>dd o (kG o hx) o hm rfl]
 have eG:Go.Ab.rm (mkC k vG vL G L) vG=Go.Ab.rm (mkG k vG G) vG:=Zv fun o hm=>by
  unfold mkC;rw [Qk fun hx=>dd o hm o (kL o hx) rfl]
 rw [eL,eG];refine⟨?_,rL⟩;rcases zCX hG h1 with ⟨rfl,w,a,rfl⟩|⟨w,a,vO,vP,vC,O,P,C,rfl,rfl,hR⟩
 ·exact .inl ⟨rfl,w,a,rfl⟩
 ·obtain⟨hwt,ha,hWs⟩:=wG.resolve_left (by simp)
  subst hwt;obtain⟨o,off,l,cap,rfl⟩:∃o off l cap,a=.sl o off l cap:=by
   cases a<;>simp only [isSl,Bool.false_eq_true]at ha
   exact⟨_,_,_,_,rfl⟩
  rw [Zr (by simp)]at dG
  obtain⟨no,nd⟩:=List.nodup_cons.1 dG;obtain⟨r0,r1,r2⟩:=rmP7 (lo:=0) (hi:=(eads [vO,vP,vC]).foldr max 0+1) (k:=k) hR ⟨hWs,nd,fun x hx=>⟨Nat.zero_le _,Nat.lt_succ_of_le (zEf hx)⟩⟩
  have hno:(mkPr k vO vP vC O P C).lookup o=none:=qQ.2 fun hm=>no (zAD (k:=k) hR hWs o hm)
  refine .inr ⟨true,.sl o off l cap,_,_,_,O,P,C,rfl,?_,r0,r1,r2⟩;show Go.Ab.rm (mkPr k vO vP vC O P C) (.fz true (.sl o off l cap) 1 [vO,vP,vC])=_;simp only [Go.Ab.rm,List.isEmpty_cons,cond_false,hno,rms]
theorem zD0 {k:Int} (hG:HG vG G k) (szG:SzG G) (hk0:0≤k) (hk1:k+totG G≤4611686018427387904) (hk:K (.int .i64 (k+totG G)) σ):zA Try.prog 45 [vG,.int .i64 k] σ K:=by
 rcases hG with ⟨rfl,w,a,rfl⟩|⟨w,a,v0,v1,v2,O,P,C,rfl,rfl,h0,h1,h2⟩
 ·skip
  refine ZO mix Try.func45 cf45 rfl ?_;dsimp only [if45,qI,mI0,kI0,lI0,fI0,bI0,cI0,sI0,C2,R0,S0];simp only [pwA,seval,-iQ0];refine zD (fun m vs h'=>vs=[.fz w a 0 [],.int .i64 k,.int .i64 0]∧σ=h') 0 ⟨rfl,rfl⟩ ?_
  rintro m vs h' ⟨rfl,rfl⟩
  simp only [pwA,seval,-iQ0,Int.lt_irrefl]
  simpa [totG]using hk
 ·have sz:SzP O P C:=szG.r _ (List.mem_singleton.2 rfl)
  have hk1':k+totP O P C≤4611686018427387904:=hk1;unfold totP at hk1'
  have szO:=sz.O;have d01:(0:Int)<((1:Nat):Int):=by omega
  have w1:IntKind.i64.wrap 1=1:=wrap64 (by omega) (by omega)
  refine ZO mix Try.func45 cf45 rfl ?_;dsimp only [if45,qI,mI0,kI0,lI0,fI0,bI0,cI0,sI0,C2,R0,S0];simp only [pwA,seval,-iQ0];refine zD (fun m vs h'=>(m=1∧vs=[.fz w a 1 [v0,v1,v2],.int .i64 k,.int .i64 0]∧σ=h')∨(m=0∧vs=[.fz w a 1 [v0,v1,v2],.int .i64 (k+totP O P C),.int .i64 1]∧σ=h')) 1 (.inl ⟨rfl,rfl,rfl⟩) ?_
  rintro m vs h' (⟨rfl,rfl,rfl⟩ | ⟨rfl,rfl,rfl⟩)
  rotate_left
  ·simp only [pwA,seval,-iQ0,Int.lt_irrefl]
   exact hk
  simp only [pwA,seval,-iQ0,d01];refine zA5 (xs:=O) (by unfold sqI at h0;exact h0) (by omega) hk0 (by omega) ?_
  have n1:¬(k+(O.length:Int)<0):=by omega
  simp only [pwA,seval,-iQ0,n1,d01];refine QN h1 (by have:=sz.P.l;omega) (fun y hy=>by have:=sz.P.r y hy;omega) (by omega) (by omega) ?_
  have n2:¬(k+(O.length:Int)+(totL List.length P:Int)<0):=by omega
  simp only [pwA,seval,-iQ0,n2,d01];refine zC9 h2 sz.C (by omega) (by omega) ?_
  have n3:¬(k+(O.length:Int)+(totL List.length P:Int)+(totL (totL List.length) C:Int)<0):=by omega
  have e:k+(O.length:Int)+(totL List.length P:Int)+(totL (totL List.length) C:Int)=k+(totP O P C:Int):=by unfold totP;omega
  rw [e]at n3 ⊢
  simp only [pwA,seval,-iQ0,n3,w1];first|exact⟨0,by omega,.inr ⟨rfl,rfl⟩⟩|exact⟨0,by omega,.inr rfl⟩
theorem QW {k:Int} (hG:HG vG G k) (hL:FII vL (sqL sqI List.length (k+totG G) L)) (szG:SzG G) (szL:SzL L) (hk0:0≤k) (hk1:k+totC G L≤4611686018427387904) (hk:K (.int .i64 (k+totC G L)) σ):zA Try.prog 14 [.agg [.int .i64 kk,vG,vL],.int .i64 k] σ K:=by
 have g1:=hG.one;have g2:=hL.one;have hk1':=hk1;unfold totC at hk1'
 refine zA.gh ?_;refine zB mix Try.func14 ?_
 conv=>arg 2;cbv
 refine zC rfl ?_;simp only [pwA,seval,-iQ0,g1,g2];refine zD0 hG szG hk0 (by omega) ?_
 have n1:¬(k+(totG G:Int)<0):=by omega
 simp only [pwA,seval,-iQ0,n1,g1,g2];refine QN hL (by have:=szL.l;omega) (fun y hy=>by have:=szL.r y hy;omega) (by omega) (by omega) ?_
 have n2:¬(k+(totG G:Int)+(totL List.length L:Int)<0):=by omega
 have e:k+(totG G:Int)+(totL List.length L:Int)=k+(totC G L:Int):=by unfold totC;omega
 rw [e]at n2 ⊢
 simp only [pwA,seval,-iQ0,n2];exact Gh.fin0 (zF σ _) trivial hk
end Go.Proofs
namespace Go.Ab
theorem Owns.last {pre rows:List PV} {o l lo hi hi':Nat} {cap:Cap} (h:Owns lo hi (pre++rows)) (h1:lo≤o) (h2:o<hi') (hh:hi≤hi') (hn:o∉eads (pre++rows)):Owns lo hi' (pre++[.fz true (.sl o 0 l cap) l rows]):=by
 have hw:=qw.1 h.wh;have nd:=h.nd;rw [qd]at nd hn
 by_cases hr:rows=[]
 ·subst hr
  refine⟨qw.2 fun c hc=>?_,?_,fun x hx=>?_⟩
  ·rcases List.mem_append.1 hc with hc | hc
   ·exact hw c (List.mem_append.2 (.inl hc))
   ·rw [List.mem_singleton.1 hc];exact .inl rfl
  ·rw [qd]
   simpa [eads,ead]using nd
  ·rw [qd]at hx
   have:=h.lt x (by rw [qd];simpa [eads,ead]using hx)
   omega
 ·have e:eads (pre++[PV.fz true (.sl o 0 l cap) l rows])=eads pre++(o::eads rows):=by
   rw [qd];simp only [eads,List.append_nil];rw [Zr hr]
  refine⟨qw.2 fun c hc=>?_,?_,fun x hx=>?_⟩
  ·rcases List.mem_append.1 hc with hc | hc
   ·exact hw c (List.mem_append.2 (.inl hc))
   ·rw [List.mem_singleton.1 hc]
    exact .inr ⟨rfl,rfl,qw.2 fun c hc=>hw c (List.mem_append.2 (.inr hc))⟩
  ·rw [e]
   exact(List.perm_middle (a:=o) (l₁:=eads pre) (l₂:=eads rows)).nodup_iff.2 (List.nodup_cons.2 ⟨hn,nd⟩)
  ·rw [e,List.mem_append,List.mem_cons]at hx
   have hl:=h.lt x;rw [qd,List.mem_append]at hl
   rcases hx with hx|rfl|hx
   ·have:=hl (.inl hx);omega
   ·omega
   ·have:=hl (.inr hx);omega
end Go.Ab
namespace Go.Grp
end Go.Grp
namespace Go.Proofs
open Go.Ab Go.Lie Go.Grp
variable {σ:PHeap} {K:PV→PHeap→Prop} {O:List Int} {P:List (List Int)} {C:List (List (List Int))} {vO vP vC vx vM:PV} {x:List Int} {M:List (List Int)} {sp:Nat}
theorem zEt {k0:Nat} (s:Shp O P C) (hs:PtrG σ sp vO vP vC) (hO:FI vO O) (hk0:k0≤1000000) (hk:K (.sl σ.next 0 O.length (.known O.length)) (σ.new (pis (dgs O O.length k0)))):zA Try.prog 99 [.ptr sp 0,.int .i64 k0] σ K:=by
 have hn6:=s.le;obtain⟨w0,a0,rfl⟩:=hO;have e0:∀{h:PHeap},Keep σ h→h.rd1 sp 0=some (.fz w0 a0 O.length (pis O)):=fun k=>by rw [qV (hs.keep k).obj];rfl
 have hsn:=hs.lt;refine zB mix Try.func99 ?_
 conv=>arg 2;cbv
 refine zC rfl ?_;have ew:IntKind.i64.wrap ((O.length:Int)-1)=(O.length:Int)-1:=wrap64 (by omega) (by omega)
 simp only [pwA,seval,-iQ0,e0 (Keep.refl σ),mk8 (n:=O.length) (by omega),mkL (n:=O.length) (by omega),ew,List.length_replicate,ZL]
 refine zD (fun m vs h'=>∃(c kk:Nat) (out:List Int),c≤O.length∧m=c∧vs=[.ptr sp 0,.int .i64 kk,.sl σ.next 0 O.length (.known O.length),.int .i64 ((c:Int)-1)]∧h'=σ.new (pis out)∧out.length=O.length∧kk≤k0∧dgs O c kk++out.drop c=dgs O O.length k0) O.length ?_ ?_
 ·refine⟨O.length,k0,List.replicate O.length 0,Nat.le_refl _,rfl,rfl,?_,by simp,Nat.le_refl _,?_⟩
  ·first | rfl | simp [pis]
  rw [List.drop_of_length_le (by simp),List.append_nil]
 rintro m vs h' ⟨c,kk,out,hcn,rfl,rfl,rfl,hol,hkk,hd⟩
 have kp:Keep σ (σ.new (pis out)):=zF _ _;rcases Nat.eq_zero_or_pos m with rfl|hpos
 ·simp only [pwA,seval,-iQ0,show ¬((0:Int)≤((0:Nat):Int)-1) by omega]
  have he:out=dgs O O.length k0:=by simpa [dgs]using hd
  rw [he];exact hk
 ·obtain⟨c,rfl⟩:∃c,m=c+1:=⟨m-1,by omega⟩
  have e:((c+1:Nat):Int)-1=(c:Int):=by omega
  have hco:c<out.length:=by omega
  have hcn':c<O.length:=by omega
  have ew2:IntKind.i64.wrap ((c:Int)-1)=(c:Int)-1:=wrap64 (by omega) (by omega)
  rw [e];have hb:=s.pr c hcn';have hat:=at_eq hcn';obtain⟨q,hq⟩:∃q:Nat,at_ O c=(q:Int):=⟨(at_ O c).toNat,by omega⟩
  rw [hq]at hb
  rw [hq]at hat
  have hP0:¬(q:Int)=0:=by omega
  have et:(kk:Int).tmod (q:Int)=((kk % q:Nat):Int):=rfl;have ed:(kk:Int).tdiv (q:Int)=((kk / q:Nat):Int):=rfl;have hdl:kk / q≤kk:=Nat.div_le_self _ _;have ewq:∀q:Nat,q≤kk→IntKind.i64.wrap (q:Int)=(q:Int):=fun q hq=>wrap64 (by omega) (by omega)
  have ewq:=ewq _ hdl;have hco1:c+1≤out.length:=hco;have hset:=qg hco (x:=((kk % q:Nat):Int));have hget:(pis O)[c]? = some (.int .i64 (q:Int)):=by rw [qY,List.getElem?_eq_getElem hcn',←hat];rfl
  have hs1:¬sp=σ.next:=by omega
  simp only [pwA,seval,-iQ0,e0 kp,e0 (zF σ (pis (out.set c ((kk % q:Nat):Int)))),hP0,et,ed,ewq,hcn',hget,hco1,qL,hset,ew2];refine⟨c,Nat.lt_succ_self c,c,kk / q,out.set c ((kk % q:Nat):Int),by omega,rfl,rfl,rfl,by rw [List.length_set];exact hol,Nat.le_trans hdl hkk,?_⟩
  rw [←hd,dgs,hq,Int.toNat_natCast,List.append_assoc]
  congr 1
  rw [List.drop_eq_getElem_cons (by rw [List.length_set];exact hco),List.getElem_set_self,List.drop_set_of_lt (by omega)]
  rfl
theorem zK0 {k0:Nat} (s:Shp O P C) (hR:IsPr vO vP vC O P C) (hk0:k0≤1000000) (hk:∀v,FI v (dgs O O.length k0)→K v σ):zA Try.prog 72 [.agg [vO,vP,vC],.int .i64 k0] σ K:=by
 have hn6:=s.le;have h0:=hR.O.one;have h1:=hR.P.one;have h2:=hR.C.one;obtain⟨⟨w0,a0,rfl⟩,hRP,hRC⟩:=hR;have one:∀{σ:PHeap} {K:PV→PHeap→Prop},(K (.sl σ.next 0 O.length (.known O.length)) (σ.new (pis (List.replicate O.length 0))))→zA Try.prog 90 [.agg [.fz w0 a0 O.length (pis O),vP,vC]] σ K:=fun {σ K} hk=>by
  refine zA.gh ?_;refine zB mix Try.func90 ?_
  conv=>arg 2;cbv
  refine zC rfl ?_;simp only [pwA,seval,-iQ0,h1,h2,mk8 (n:=O.length) (by omega),mkL (n:=O.length) (by omega),List.length_replicate,ZL]
  exact Gh.finS (s:=σ.next+1) ((zF σ _).new _) (by simp only [pwA,seval,-iQ0,ZL]) (by omega) (qP _ _) hk
 refine zA.gh ?_;refine zB mix Try.func72 ?_
 conv=>arg 2;cbv
 refine zC rfl ?_;simp only [pwA,seval,-iQ0,h1,h2];refine one ?_;have ew:IntKind.i64.wrap ((O.length:Int)-1)=(O.length:Int)-1:=wrap64 (by omega) (by omega)
 simp only [pwA,seval,-iQ0,ew];refine zD (fun m vs h'=>∃(c kk:Nat) (out:List Int),c≤O.length∧m=c∧vs=[.int .i64 kk,.ptr σ.next 0,.sl (σ.next+1) 0 O.length (.known O.length),.int .i64 ((c:Int)-1)]∧h'=(σ.new [.fz w0 a0 O.length (pis O),vP,vC]).new (pis out)∧out.length=O.length∧kk≤k0∧dgs O c kk++out.drop c=dgs O O.length k0) O.length ?_ ?_
 ·refine⟨O.length,k0,List.replicate O.length 0,Nat.le_refl _,rfl,rfl,rfl,by simp,Nat.le_refl _,?_⟩
  rw [List.drop_of_length_le (by simp),List.append_nil]
 rintro m vs h' ⟨c,kk,out,hcn,rfl,rfl,rfl,hol,hkk,hd⟩
 rcases Nat.eq_zero_or_pos m with rfl|hpos
 ·simp only [pwA,seval,-iQ0,show ¬((0:Int)≤((0:Nat):Int)-1) by omega]
  have he:out=dgs O O.length k0:=by simpa [dgs]using hd
  rw [←he]at hk
  clear he hd;rw [←hol];exact Gh.finF (s:=σ.next+1) ((zF σ _).new _) (by simp only [pwA,seval,-iQ0]) (by omega) (qP _ _) (by simp [capOK]) fun o1=>hk _ ⟨_,_,rfl⟩
 ·obtain⟨c,rfl⟩:∃c,m=c+1:=⟨m-1,by omega⟩
  have e:((c+1:Nat):Int)-1=(c:Int):=by omega
  have hco:c<out.length:=by omega
  have hcn':c<O.length:=by omega
  have ew2:IntKind.i64.wrap ((c:Int)-1)=(c:Int)-1:=wrap64 (by omega) (by omega)
  rw [e];have hb:=s.pr c hcn';have hat:=at_eq hcn';obtain⟨q,hq⟩:∃q:Nat,at_ O c=(q:Int):=⟨(at_ O c).toNat,by omega⟩
  rw [hq]at hb
  rw [hq]at hat
  have hP0:¬(q:Int)=0:=by omega
  have et:(kk:Int).tmod (q:Int)=((kk % q:Nat):Int):=rfl;have ed:(kk:Int).tdiv (q:Int)=((kk / q:Nat):Int):=rfl;have hdl:kk / q≤kk:=Nat.div_le_self _ _;have ewq:∀q:Nat,q≤kk→IntKind.i64.wrap (q:Int)=(q:Int):=fun q hq=>wrap64 (by omega) (by omega)
  have ewq:=ewq _ hdl;have hco1:c+1≤out.length:=hco;have hset:=qg hco (x:=((kk % q:Nat):Int));have hget:(pis O)[c]? = some (.int .i64 (q:Int)):=by rw [qY,List.getElem?_eq_getElem hcn',←hat];rfl
  simp only [pwA,seval,-iQ0,hP0,et,ed,ewq,hcn',hget,hco1,qL,hset,ew2];refine⟨c,Nat.lt_succ_self c,c,kk / q,out.set c ((kk % q:Nat):Int),by omega,rfl,rfl,rfl,by rw [List.length_set];exact hol,Nat.le_trans hdl hkk,?_⟩
  rw [←hd,dgs,hq,Int.toNat_natCast,List.append_assoc]
  congr 1
  rw [List.drop_eq_getElem_cons (by rw [List.length_set];exact hco),List.getElem_set_self,List.drop_set_of_lt (by omega)]
  rfl
theorem zDf (s:Shp O P C) (hs:PtrG σ sp vO vP vC) (hO:FI vO O) (hb:ordF O O.length≤1000) (hk:∀v h' rows,RowsI σ h' v rows→rows.map SR.x=(List.range (ordF O O.length).toNat).map (dgs O O.length)→K v h'):zA Try.prog 75 [.ptr sp 0] σ K:=by
 have h1:=ZX s.pr (i:=O.length) (Nat.le_refl _);obtain⟨N,hN⟩:∃N:Nat,ordF O O.length=(N:Int):=⟨(ordF O O.length).toNat,by omega⟩
 rw [hN,Int.toNat_natCast]at hk
 rw [hN]at hb
 refine zB mix Try.func75 ?_
 conv=>arg 2;cbv
 refine zC rfl ?_;simp only [pwA,seval,-iQ0];refine zBN s hs hO ?_;rw [hN];simp only [pwA,seval,-iQ0];refine zD (fun m vs h'=>∃(i:Nat) (v:PV) (rows:List SR),i≤N∧m=N-i∧vs=[.ptr sp 0,v,.int .i64 (N:Int),.int .i64 i]∧RowsI σ h' v rows∧rows.map SR.x=(List.range i).map (dgs O O.length)) N ?_ ?_
 ·exact⟨0,_,[],by omega,by omega,rfl,RowsI.nil σ,rfl⟩
 rintro m vs h' ⟨i,v,rows,hi,rfl,rfl,hr,hv⟩
 have hrl:rows.length=i:=by have:=congrArg List.length hv;simpa using this
 simp only [pwA,seval,-iQ0];refine iteI (fun hlt=>?_) fun hge=>?_
 rotate_left
 ·have hie:i=N:=by omega
  subst hie;exact hk _ _ rows hr hv
 have hlt':i<N:=by omega
 simp only [pwA,seval,-iQ0];refine zEt s (hs.keep hr.keep) hO (by omega) ?_
 simp only [pwA,seval,-iQ0];have hl:(dgs O O.length i).length=O.length:=QE _ _ _;have key:=fun K k=>RowsI.push (K:=K) (t:=h'.next) (h:=h'.new (pis (dgs O O.length i))) (cap:=.known O.length) (x:=dgs O O.length i) hr (zF h' _) (Nat.le_refl _) (Nat.lt_succ_self _) (by rw [QM,if_pos rfl]) (by rw [hl];exact .inr rfl) (by omega) k
 rw [hl]at key
 refine key _ fun v' h2 r2 k2 l2=>?_
 simp only [pwA,seval,-iQ0,wrapS hlt' (by omega:N≤4611686018427387904)]
 refine⟨_,by omega,i+1,v',_,by omega,rfl,rfl,r2,?_⟩
 rw [List.map_append,hv,List.range_succ,List.map_append]
 rfl
end Go.Proofs
namespace Go.Grp
end Go.Grp
namespace Go.Proofs
open Go.Ab Go.Lie Go.Grp
variable {σ:PHeap} {K:PV→PHeap→Prop} {O:List Int} {P:List (List Int)} {C:List (List (List Int))} {vO vP vC vx vM vA:PV} {x:List Int} {A M:List (List Int)} {sp:Nat}
theorem zDI (hL:∀r∈A,r.length≤1048576) (hll:A.length≤1000) (hvA:FII vA A) (hk:∀v t,FII v A→Own σ.top t v→σ.top≤t→K v (σ.up t)):zA Try.prog 64 [vA] σ K:=by
 obtain⟨wA,aA,rA,rfl,hrA⟩:=hvA;refine zA.gh ?_;refine zB mix Try.func64 ?_
 conv=>arg 2;cbv
 refine zC rfl ?_;simp only [pwA,seval,-iQ0];refine zD (fun m vs h'=>∃(i:Nat) (v:PV) (rows:List PV),i≤A.length∧m=A.length-i∧vs=[v,.fz wA aA A.length rA,.int .i64 A.length,.int .i64 i]∧Keep σ h'∧PAcc σ.next 1 h' v i rows∧All2 FI rows (A.take i)∧Owns σ.top h'.top rows) A.length ?_ ?_
 ·exact⟨0,_,[],by omega,by omega,rfl,Keep.refl σ,PAcc.nil _ _ _,by rw [List.take_zero];exact All2.nil _,Owns.nil _ _⟩
 rintro m vs h' ⟨i,v,rows,hi,rfl,rfl,hkp,ha,hall,how⟩
 simp only [pwA,seval,-iQ0];refine iteI (fun hlt=>?_) fun hge=>?_
 rotate_left
 ·have hie:i=A.length:=by omega
  subst hie;rw [List.take_length]at hall
  exact ha.own hkp (hall.bI 0) how fun a t ho ht=>hk _ t ⟨true,a,rows,rfl,hall⟩ ho ht
 obtain⟨w4,a4,hr⟩:=hrA.rowI hlt;simp only [pwA,seval,-iQ0,hlt,hr];refine zA.fzIT (fun K' k'=>zA0 rfl (by have:=hL _ (List.getElem_mem hlt);omega) k') fun v5 t5 hv5 ho5 ht5=>?_
 simp only [pwA,seval,-iQ0,hv5.one,hv5.cells];have hku:=Keep.up (Keep.refl h') ht5;refine zEY (PAcc.push (bytes:=24) (hkp.trans hku) (ha.keep hku) (by omega) (by omega) fun v' h2 k2 a2 htop=>?_)
 have htp:h2.top=t5:=htop;simp only [pwA,seval,-iQ0,wrapS hlt (by omega:A.length≤4611686018427387904)]
 exact⟨_,by omega,i+1,v',rows++[v5],by omega,rfl,rfl,k2,a2.acc,by rw [List.take_succ_eq_append_getElem hlt];exact hall.snoc hv5,by rw [htp];exact how.snoc ho5 hkp.top ht5⟩
theorem zBX (s:Shp O P C) (hs:PtrG σ sp vO vP vC) (hR:IsPr vO vP vC O P C) (hk:∀wO wP wC t,IsPr wO wP wC O P C→Owns σ.top t [wO,wP,wC]→σ.top≤t→K (.agg [wO,wP,wC]) (σ.up t)):zA Try.prog 40 [.ptr sp 0] σ K:=by
 have hn6:=s.le;have hsl:=hs.lt;have hPl:∀r∈P,r.length≤1048576:=fun r hr=>by
  obtain⟨i,hi,rfl⟩:=List.mem_iff_getElem.1 hr
  have:=(s.pw i (by rw [←s.pl];exact hi)).len
  unfold pvec at this
  rw [List.getD_eq_getElem?_getD,List.getElem?_eq_getElem hi]at this
  simp only [Option.getD_some]at this
  omega
 have hCl:∀i (hi:i<C.length),C[i].length≤6:=fun i hi=>by
  have:=s.row i (by rw [←s.cl];exact hi)
  rw [List.getD_eq_getElem?_getD,List.getElem?_eq_getElem hi]at this
  simp only [Option.getD_some]at this
  omega
 have hCr:∀i (hi:i<C.length),∀r∈C[i],r.length≤1048576:=fun i hi r hr=>by
  obtain⟨k,hk,rfl⟩:=List.mem_iff_getElem.1 hr;have hrow:=s.row i (by rw [←s.cl];exact hi)
  rw [List.getD_eq_getElem?_getD,List.getElem?_eq_getElem hi]at hrow
  simp only [Option.getD_some]at hrow
  have hcl:=s.cl
  have:=(s.cj i (i+(1+k)) (by omega) (by omega)).len
  unfold cvec at this
  rw [show i+(1+k)-i-1=k by omega]at this
  simp only [List.getD_eq_getElem?_getD,List.getElem?_eq_getElem hi,Option.getD_some,List.getElem?_eq_getElem hk]at this
  omega
 have hcl:=s.cl;have hpl:=s.pl;obtain⟨hRO,hRP,hRC⟩:=hR;have hRP0:=hRP;obtain⟨w0,a0,rfl⟩:=hRO;obtain⟨w2,a2,rC,rfl,hrC⟩:=hRC;have e0:σ.rd1 sp 0=some (.fz w0 a0 O.length (pis O)):=by rw [qV hs.obj];rfl
 have e1:σ.rd1 sp 1=some vP:=by rw [qV hs.obj];rfl
 have e2:σ.rd1 sp 2=some (.fz w2 a2 C.length rC):=by rw [qV hs.obj];rfl
 have n1:¬sp=σ.next:=by omega
 have n2:¬sp=σ.next+1:=by omega
 refine zA.gh ?_;refine zB mix Try.func40 ?_
 conv=>arg 2;cbv
 refine zC rfl ?_;simp only [pwA,seval,-iQ0,e0,e1,n1,n2];refine zA.fzIT (fun K' k'=>zA0 rfl (by omega) k') fun v0 t0 hv0 ho0 ht0=>?_
 simp only [pwA,seval,-iQ0,e0,e1,n1,n2,hv0.one];refine zDI hPl (by omega) hRP0 fun v1 t1 hv1 ho1 ht1=>?_
 simp only [pwA,seval,-iQ0,e2,n1,n2,hv0.one,hv1.one,hv0.cells,hv1.cells];refine zD (fun m vs h'=>∃(i:Nat) (vX:PV) (rows:List PV),i≤C.length∧m=C.length-i∧vs=[.ptr σ.next 0,.ptr (σ.next+1) 0,.fz w2 a2 C.length rC,.int .i64 C.length,.int .i64 i]∧Keep ((σ.new [.fz true .nils 0 [],.fz true .nils 0 [],.fz true .nils 0 []]).new [v0,v1,vX]) h'∧PAcc (σ.next+2) 1 h' vX i rows∧All2 FII rows (C.take i)∧Owns σ.top h'.top (v0::v1::rows)) C.length ?_ ?_
 ·refine⟨0,.fz true .nils 0 [],[],by omega,by omega,rfl,⟨Nat.le_refl _,Nat.le_trans ht0 ht1,fun t ht=>?_⟩,PAcc.nil _ _ _,by rw [List.take_zero];exact All2.nil _,?_⟩
  ·simp only [pwA,seval,-iQ0]
  ·exact((Owns.nil σ.top σ.top).snoc ho0 (Nat.le_refl _) ht0).snoc ho1 ht0 ht1
 rintro m vs h' ⟨i,vX,rows,hi,rfl,rfl,hkp,ha,hall,how⟩
 have hk0:Keep σ h':=((zF σ _).new _).trans hkp;have ob:h'.obj (σ.next+1)=some [v0,v1,vX]:=by rw [hkp.obj (σ.next+1) (show σ.next+1<σ.next+1+1 by omega)];simp only [pwA,seval,-iQ0]
 have ob0:h'.obj σ.next=some [.fz true .nils 0 [],.fz true .nils 0 [],.fz true .nils 0 []]:=by rw [hkp.obj _ (by show σ.next<σ.next+1+1;omega)];simp only [pwA,seval,-iQ0]
 have r2:h'.rd1 (σ.next+1) 2=some vX:=by rw [qV ob];rfl
 have r3:h'.rd (σ.next+1) 0 3=some [v0,v1,vX]:=by rw [zAV ob];rfl
 have hnx:σ.next+2≤h'.next:=hkp.next;simp only [pwA,seval,-iQ0];refine iteI (fun hlt=>?_) fun hge=>?_
 rotate_left
 ·have hie:i=C.length:=by omega
  subst hie;rw [List.take_length]at hall
  have hw3:h'.wr σ.next 0 [v0,v1,vX]=some (h'.set σ.next [v0,v1,vX]):=by
   rw [zCz ob0,if_pos ⟨by simp,by simp [hv0.one,hv1.one,ha.one]⟩];rfl
  simp only [pwA,seval,-iQ0,r3,hw3];have hkE:Keep σ (h'.set σ.next [v0,v1,vX]):=hk0.set (Nat.le_refl _) _;have b0:=hv0.bel σ.next;have b1:=hv1.bel σ.next;rcases ha with ⟨rfl,h1,h2⟩|⟨t,cap,rfl,hcp,q2,q3,q4,q5⟩
  ·subst h2
   have hC0:C=[]:=List.eq_nil_of_length_eq_zero h1;exact Gh.fin0T hkE (Nat.le_refl _) ⟨b0,b1,trivial,trivial⟩ fun _=>hk v0 v1 _ _ ⟨hv0,hv1,⟨true,.nils,[],by rw [hC0];rfl,by rw [hC0];exact All2.nil _⟩⟩ (how.snoc (Own.empty _ _ true .nils 0) hk0.top (Nat.le_refl _)) hk0.top
  ·have hbr:Bels 0 rows:=hall.bL 0
   refine Gh.freeze (s:=t) (cs:=rows) (by rw [ZT,if_neg (by omega)];exact q2) (by omega) hbr fun o ho hc hv=>?_
   have s0:sb t o rows v0=v0:=hv0.sb _ _ _;have s1:sb t o rows v1=v1:=hv1.sb _ _ _;simp only [sb,sbs,s0,s1,hcp.ok,and_self,if_true];refine Gh.fin0T (t:=max h'.top (o+1)) ((hkE.kill (show σ.next≤t by omega)).up (by simp only [PHeap.kill,PHeap.set];omega)) (Nat.le_refl _) ⟨b0,b1,trivial,trivial⟩ fun _=>hk v0 v1 _ _ ⟨hv0,hv1,⟨true,_,rows,rfl,hall⟩⟩ ?_ (by have:=hk0.top;omega)
   refine Owns.last (pre:=[v0,v1]) how ho (by omega) (by omega) fun hm=>?_
   have hm':o∈ead v0++(ead v1++eads rows):=hm;simp only [List.mem_append]at hm'
   simp only [addrs,qz,List.mem_append,List.append_nil,not_or]at hv
   rcases hm' with hm' | hm' | hm'
   ·exact hv.1 (zAI hm')
   ·exact hv.2 (zAI hm')
   ·exact hc (ZE hm')
 obtain⟨w4,a4,rs4,hr,hrs⟩:=hrC.rowL hlt;simp only [pwA,seval,-iQ0,hlt,hr,r2];refine zDI (hCr i hlt) (by have:=hCl i hlt;omega) ⟨w4,a4,rs4,rfl,hrs⟩ fun v5 t5 hv5 ho5 ht5=>?_
 have hku:=Keep.up (Keep.refl h') ht5;have nn:¬σ.next+1=h'.next:=by omega
 simp only [pwA,seval,-iQ0,r2,nn,hv5.one,hv5.cells];refine zEY (PAcc.push (bytes:=24) (hkp.trans hku) (ha.keep hku) (by omega) (by omega) fun v' h2 k2 a2 htop=>?_)
 have htp:h2.top=t5:=htop;have hw2:h2.wr (σ.next+1) 2 [v']=some (h2.set (σ.next+1) [v0,v1,v']):=by
  have ob2:h2.obj (σ.next+1)=some [v0,v1,vX]:=by rw [k2.obj (σ.next+1) (show σ.next+1<σ.next+1+1 by omega)];simp only [pwA,seval,-iQ0]
  rw [zCz ob2,if_pos ⟨by simp,by simp [a2.acc.one]⟩];rfl
 simp only [pwA,seval,-iQ0,hw2,a2.acc.cells,wrapS hlt (by omega:C.length≤4611686018427387904)]
 refine⟨_,by omega,i+1,v',rows++[v5],by omega,rfl,rfl,k2.setN _,a2.acc.setX (show σ.next+1<σ.next+1+1 by omega),by rw [List.take_succ_eq_append_getElem hlt];exact hall.snoc hv5,?_⟩
 show Owns σ.top h2.top _;rw [htp];exact how.snoc ho5 hk0.top ht5
theorem zJY (hR:IsPr vO vP vC O P C) (sz:SzP O P C) (hk:∀wO wP wC,IsPr wO wP wC O P C→K (.agg [wO,wP,wC]) σ):zA Try.prog 34 [.agg [vO,vP,vC]] σ K:=by
 have g0:=hR.O.one;have g1:=hR.P.one;have g2:=hR.C.one;have szC:=sz.C.l;have szO:=sz.O;obtain⟨hRO,hRP,hRC⟩:=hR;obtain⟨w2,a2,rC,rfl,hrC⟩:=hRC;refine zA.gh ?_;refine zB mix Try.func34 ?_
 conv=>arg 2;cbv
 refine zC rfl ?_;simp only [pwA,seval,-iQ0,g0,g1];have own1:∀{v:PV} {xs:List Int} {σ:PHeap} {K:PV→PHeap→Prop},FI v xs→xs.length≤4294967296→(∀v',FI v' xs→K v' σ)→zA Try.prog 58 [v] σ K:=fun {v xs σ K} hv hb hk=>by
  obtain⟨w,a,rfl⟩:=hv;exact zH8 rfl hb fun v=>hk _ ⟨_,_,rfl⟩
 refine own1 hRO (by omega) fun v0 hv0=>?_
 simp only [pwA,seval,-iQ0,g0,g1,hv0.one,hv0.cells];refine zC4 hRP sz.P fun v1 hv1=>?_
 simp only [pwA,seval,-iQ0,g0,g1,hv0.one,hv1.one,hv0.cells,hv1.cells];refine zD (fun m vs h'=>∃(i:Nat) (vX:PV) (rows:List PV),i≤C.length∧m=C.length-i∧vs=[.ptr σ.next 0,.ptr (σ.next+1) 0,.ptr (σ.next+2) 0,.int .i64 i]∧Keep (((σ.new [vO,vP,.fz w2 a2 C.length rC]).new [.fz true .nils 0 [],.fz true .nils 0 [],.fz true .nils 0 []]).new [v0,v1,vX]) h'∧PAcc (σ.next+3) 1 h' vX i rows∧All2 FII rows (C.take i)) C.length ?_ ?_
 ·refine⟨0,.fz true .nils 0 [],[],by omega,by omega,rfl,⟨Nat.le_refl _,Nat.le_refl _,fun t ht=>?_⟩,PAcc.nil _ _ _,by rw [List.take_zero];exact All2.nil _⟩
  simp only [pwA,seval,-iQ0]
 rintro m vs h' ⟨i,vX,rows,hi,rfl,rfl,hkp,ha,hall⟩
 have hk0:Keep σ h':=(((zF σ _).new _).new _).trans hkp;have ob:h'.obj (σ.next+2)=some [v0,v1,vX]:=by rw [hkp.obj (σ.next+2) (show σ.next+2<σ.next+1+1+1 by omega)];simp only [pwA,seval,-iQ0]
 have ob1:h'.obj (σ.next+1)=some [.fz true .nils 0 [],.fz true .nils 0 [],.fz true .nils 0 []]:=by rw [hkp.obj (σ.next+1) (show σ.next+1<σ.next+1+1+1 by omega)];simp only [pwA,seval,-iQ0]
 have ob0:h'.obj σ.next=some [vO,vP,.fz w2 a2 C.length rC]:=by rw [hkp.obj σ.next (show σ.next<σ.next+1+1+1 by omega)];simp only [pwA,seval,-iQ0]
 have q2:h'.rd1 σ.next 2=some (.fz w2 a2 C.length rC):=by rw [qV ob0];rfl
 have r2:h'.rd1 (σ.next+2) 2=some vX:=by rw [qV ob];rfl
 have r3:h'.rd (σ.next+2) 0 3=some [v0,v1,vX]:=by rw [zAV ob];rfl
 have hnx:σ.next+3≤h'.next:=hkp.next;simp only [pwA,seval,-iQ0,q2];refine iteI (fun hlt=>?_) fun hge=>?_
 rotate_left
 ·have hie:i=C.length:=by omega
  subst hie;rw [List.take_length]at hall
  have hw3:h'.wr (σ.next+1) 0 [v0,v1,vX]=some (h'.set (σ.next+1) [v0,v1,vX]):=by
   rw [zCz ob1,if_pos ⟨by simp,by simp [hv0.one,hv1.one,ha.one]⟩];rfl
  simp only [pwA,seval,-iQ0,r3,hw3];have hkE:Keep σ (h'.set (σ.next+1) [v0,v1,vX]):=hk0.set (Nat.le_succ _) _;have b0:=hv0.bel σ.next;have b1:=hv1.bel σ.next;rcases ha with ⟨rfl,h1,h2⟩|⟨t,cap,rfl,hcp,q2,q3,q4,q5⟩
  ·subst h2
   have hC0:C=[]:=List.eq_nil_of_length_eq_zero h1;exact Gh.fin0 hkE ⟨b0,b1,trivial,trivial⟩ (hk v0 v1 _ ⟨hv0,hv1,⟨true,.nils,[],by rw [hC0];rfl,by rw [hC0];exact All2.nil _⟩⟩)
  ·refine Gh.freeze (s:=t) (cs:=rows) (by rw [ZT,if_neg (by omega)];exact q2) (by omega) (hall.bL 0) fun o ho hc hv=>?_
   have s0:sb t o rows v0=v0:=hv0.sb _ _ _;have s1:sb t o rows v1=v1:=hv1.sb _ _ _;simp only [sb,sbs,s0,s1,hcp.ok,and_self,if_true];exact Gh.fin0 ((hkE.kill (show σ.next≤t by omega)).up (by simp only [PHeap.kill,PHeap.set];omega)) ⟨b0,b1,trivial,trivial⟩ (hk v0 v1 _ ⟨hv0,hv1,⟨true,_,rows,rfl,hall⟩⟩)
 obtain⟨w4,a4,rs4,hr,hrs⟩:=hrC.rowL hlt;simp only [pwA,seval,-iQ0,hlt,hr,q2,r2];refine zC4 ⟨w4,a4,rs4,rfl,hrs⟩ (sz.C.r _ (List.getElem_mem hlt)) fun v5 hv5=>?_
 have nn:¬σ.next+2=h'.next:=by omega
 simp only [pwA,seval,-iQ0,r2,nn,hv5.one,hv5.cells];refine PAcc.push (bytes:=24) hkp ha (by omega) (by omega) fun v' h2 k2 a2=>?_
 have hw2:h2.wr (σ.next+2) 2 [v']=some (h2.set (σ.next+2) [v0,v1,v']):=by
  have ob2:h2.obj (σ.next+2)=some [v0,v1,vX]:=by rw [k2.obj (σ.next+2) (show σ.next+2<σ.next+1+1+1 by omega)];simp only [pwA,seval,-iQ0]
  rw [zCz ob2,if_pos ⟨by simp,by simp [a2.acc.one]⟩];rfl
 simp only [pwA,seval,-iQ0,hw2,a2.acc.cells,wrapS hlt (by omega:C.length≤4611686018427387904)]
 exact⟨_,by omega,i+1,v',rows++[v5],by omega,rfl,rfl,k2.setN _,a2.acc.setX (show σ.next+2<σ.next+1+1+1 by omega),by rw [List.take_succ_eq_append_getElem hlt];exact hall.snoc hv5⟩
end Go.Proofs
namespace Go.Grp
end Go.Grp
namespace Go.Proofs
open Go.Ab Go.Lie Go.Grp
variable {σ h h':PHeap} {K:PV→PHeap→Prop} {O:List Int} {P:List (List Int)} {C:List (List (List Int))} {vO vP vC vx vM vA v:PV} {x:List Int} {A M:List (List Int)} {sp se:Nat} {rows:List SR}
def nEl (O:List Int):Nat:=(ordF O O.length).toNat
def regAt (O:List Int) (P:List (List Int)) (C:List (List (List Int))) (i t:Nat):Int:=numF O (mu O P C O.length (dgs O O.length t) (Grp.unit O i)) O.length
def Zl (O:List Int) (P:List (List Int)) (C:List (List (List Int))) (i:Nat):List Int:=(List.range (nEl O)).map (regAt O P C i)
def regul (O:List Int) (P:List (List Int)) (C:List (List (List Int))):List (List Int):=(List.range O.length).map (Zl O P C)
theorem zEb (s:Shp O P C):ordF O O.length=(nEl O:Int)∧1≤nEl O:=by
 have h1:=ZX s.pr (i:=O.length) (Nat.le_refl _);unfold nEl;omega
theorem RowsI.finT {hg:PHeap} {c:Int} (a:RowsI hg h v rows) (hg0:Keep σ hg) (k:∀z t,FII z (rows.map SR.x)→Own σ.top t z→σ.top≤t→K (.tup [z,.int .i64 c]) (σ.up t)):Gh σ K (.tup [v,.int .i64 c]) h:=by
 have hk:=hg0.trans a.keep;have ok:∀q∈rows,q.ok h σ.next:=fun q hq=>⟨(a.ok q hq).1,(a.ok q hq).2.1,Nat.le_trans hg0.next (a.ok q hq).2.2.1,(a.ok q hq).2.2.2⟩
 rcases a.acc with ⟨rfl,h1,h2⟩|⟨s,cap,rfl,q1,q2,q3,q4,q5⟩
 ·have h0:rows=[]:=List.eq_nil_of_length_eq_zero h1
  exact Gh.fin0T hk hk.top ⟨trivial,trivial,trivial⟩ fun _=>k _ σ.top ⟨true,.nils,[],by rw [h0];rfl,by rw [h0];exact All2.nil _⟩ (Own.empty _ _ _ _ _) (Nat.le_refl _)
 ·have hn:s∉Zk rows:=fun hm=>a.ne s hm 0 _ cap rfl
  have ht:TR.ok h σ.next (.tup [TR.rows s cap rows,.leaf (.int .i64 c)]):=⟨TR.rows_ok q1 q2 (Nat.le_trans hg0.next q4) q5 ok,trivial,trivial⟩
  have:=Gh.treeO (K:=K) hk ht (by
   simp only [TR.slots,TR.slotss,TR.rows,TR.rows_slots,List.append_nil];exact List.nodup_cons.2 ⟨hn,a.nd⟩) fun aa T h1 h2=>k _ T TR.rows_FII ⟨h1.wh.1,by
    have:=h1.nd
    simpa [TR.fz,TR.fzs,ead,eads]using this,fun o ho=>h1.lt o (by simp only [TR.fz,TR.fzs,ead,eads];exact List.mem_append.2 (.inl ho))⟩ h2
  simpa only [TR.pv,TR.pvs,TR.rows,List.length_map]using this
theorem zFg {cap:Cap} (s:Shp O P C) (hs:PtrG σ sp vO vP vC) (hO:FI vO O) (hx:gS O x) (he:σ.obj se=some (pis x)) (hk:K (.int .i64 (numF O x O.length)) σ):zA Try.prog 77 [.ptr sp 0,.sl se 0 O.length cap] σ K:=by
 have hn6:=s.le;have hxl:=hx.len;obtain⟨w0,a0,rfl⟩:=hO;have e0:σ.rd1 sp 0=some (.fz w0 a0 O.length (pis O)):=by rw [qV hs.obj];rfl
 have ern:∀t,σ.rd1 se t=(pis x)[t]?:=fun t=>qV he t
 refine zB mix Try.func77 ?_
 conv=>arg 2;cbv
 refine zC rfl ?_;simp only [pwA,seval,-iQ0,e0];refine zD (fun m vs h'=>∃i:Nat,i≤O.length∧m=O.length-i∧vs=[.ptr sp 0,.int .i64 (numF O x i),.sl se 0 O.length cap,.int .i64 O.length,.int .i64 i]∧σ=h') O.length ⟨0,by omega,by omega,rfl,rfl⟩ ?_
 rintro m vs h' ⟨i,hi,rfl,rfl,rfl⟩
 simp only [pwA,seval,-iQ0];refine iteI (fun hltO=>?_) fun hge=>?_
 rotate_left
 ·have hie:i=O.length:=by omega
  subst hie;exact hk
 have hlt:i<x.length:=by omega
 have hb:=ZX s.pr (i:=i+1) hltO;have h7:=pow7 (i:=i+1) (by omega)
 have hnb:=zAW s.pr hx.bd (i:=i+1) hltO;have hb1:=ZX s.pr (i:=i) hi;have h71:=pow7 (i:=i) (by omega)
 have hnb1:=zAW s.pr hx.bd (i:=i) hi;have bx:=hx.bd i hltO;have ha:=at_eq hltO;have hax:=at_eq hlt;have hm:numF O x i*O[i] + x[i]=numF O x (i+1):=by rw [numF,ha,hax]
 rw [hax]at bx
 rw [ha]at bx
 have hm0:0≤numF O x i*O[i]:=by
  have:=(s.pr i hltO).1
  rw [ha]at this
  exact Int.mul_nonneg hnb1.1 (by omega)
 have hw0:IntKind.i64.wrap (numF O x i*O[i])=numF O x i*O[i]:=wrap64 (by omega) (by omega)
 have hw:IntKind.i64.wrap (numF O x i*O[i] + x[i])=numF O x (i+1):=by rw [hm,wrap64 (by omega) (by omega)]
 simp only [pwA,seval,-iQ0,e0,ern,hlt,hltO,gi hlt,gi hltO,qY,hw0,hw,wrapS hltO (by omega:O.length≤4611686018427387904)]
 exact⟨_,by omega,i+1,by omega,rfl,rfl⟩
theorem Keep.set2 {a b:PHeap} (k:Keep a b) (s:Nat) (ds:List PV):Keep (a.set s ds) (b.set s ds):=
 ⟨k.next,k.top,fun t ht=>by
  rw [ZT,ZT]
  by_cases e:t=s
  ·rw [if_pos e,if_pos e]
  ·rw [if_neg e,if_neg e];exact k.obj t ht⟩
theorem zAx (hp:qo O P C) (hc:Cons O P C) (sz:SzP O P C) (hR:IsPr vO vP vC O P C) (hN:ordF O O.length≤128) (hk:∀v t,FII v (regul O P C)→Own σ.top t v→σ.top≤t→K (.tup [v,.int .i64 0]) (σ.up t)):zA Try.prog 39 [.agg [vO,vP,vC]] σ K:=by
 have s:=hp.shp;have F:=Cons.full s hc;have hn6:=s.le;obtain⟨hNe,hN1⟩:=zEb s;have hN8:nEl O≤128:=by omega
 have g0:=hR.O.one;have g1:=hR.P.one;have g2:=hR.C.one;have hR0:=hR;obtain⟨⟨w0,a0,rfl⟩,hRP,hRC⟩:=hR;have hs:PtrG (σ.new [.fz w0 a0 O.length (pis O),vP,vC]) σ.next (.fz w0 a0 O.length (pis O)) vP vC:=⟨by simp only [pwA,seval,-iQ0],Nat.lt_succ_self _⟩
 refine zA.gh ?_;refine zB mix Try.func39 ?_
 conv=>arg 2;cbv
 refine zC rfl ?_;simp only [pwA,seval,-iQ0,g1,g2];refine zAK hR0 sz fun t ht=>?_
 obtain rfl:t=true:=ht.2 ⟨hp,hc⟩;simp only [pwA,seval,-iQ0];refine zBN s hs hR0.O ?_;rw [hNe];have d1:¬(128:Int)<(nEl O:Int):=by omega
 simp only [pwA,seval,-iQ0,d1];generalize hH:σ.new [.fz w0 a0 O.length (pis O),vP,vC]=H0 at *
 have hg0:Keep σ H0:=by rw [←hH];exact zF _ _
 have e0:∀{g:PHeap},Keep H0 g→g.rd1 σ.next 0=some (.fz w0 a0 O.length (pis O)):=fun k=>by rw [qV (hs.keep k).obj];rfl
 simp only [pwA,seval,-iQ0,e0 (Keep.refl H0)];refine zD (fun m vs h'=>∃(i:Nat) (vL:PV) (rows:List SR),i≤O.length∧m=O.length-i∧vs=[.ptr σ.next 0,vL,.int .i64 O.length,.int .i64 i]∧RowsI H0 h' vL rows∧rows.map SR.x=(List.range i).map (Zl O P C)) O.length ⟨0,_,[],by omega,by omega,rfl,RowsI.nil H0,rfl⟩ ?_
 rintro m vs h' ⟨i,vL,rows,hi,rfl,rfl,hr,hv⟩
 have hrl:rows.length=i:=by have:=congrArg List.length hv;simpa using this
 simp only [pwA,seval,-iQ0];refine iteI (fun hlt=>?_) fun hge=>?_
 rotate_left
 ·have hie:i=O.length:=by omega
  subst hie;exact RowsI.finT hr hg0 fun z t hz ho ht=>hk z t (by rw [show rows.map SR.x=regul O P C from hv]at hz;exact hz) ho ht
 have hTG:=ZF s F (d:=O.length) O.length (j:=i) (by omega) hlt (by omega)
 refine zDf s (hs.keep hr.keep) hR0.O (by omega) fun vE h2 rsE rE hE=>?_
 have hEl:rsE.length=nEl O:=by have:=congrArg List.length hE;simpa [nEl]using this
 obtain⟨sE,capE,rfl,hfE,oE,lE,gE,ltE⟩:=rE.acc.pos (by omega)
 have eX:∀t (ht:t<rsE.length),rsE[t].x=dgs O O.length t:=fun t ht=>by
  have:=congrArg (fun L=>L[t]?) hE
  simp only [List.getElem?_map,List.getElem?_eq_getElem ht,Option.map_some]at this
  rw [List.getElem?_range (by rw [hNe,Int.toNat_natCast];omega)]at this
  simpa using this
 rw [hEl];simp only [pwA,seval,-iQ0];refine zD (fun m vs h3=>∃(t:Nat) (vX:PV) (Hc:PHeap),t≤nEl O∧m=nEl O-t∧vs=[.ptr σ.next 0,vL,.int .i64 i,vX,.int .i64 O.length,.int .i64 i,.sl sE 0 (nEl O) capE,.int .i64 (nEl O:Nat),.int .i64 t]∧Keep Hc h3∧Keep h' Hc∧Hc.next=h2.next∧Hc.obj sE=some (rsE.map SR.pv)∧(∀q (hq:q<rsE.length),t≤q→Hc.obj rsE[q].s=some (pis rsE[q].x))∧PAcc h2.next 1 h3 vX t (pis ((List.range t).map (regAt O P C i)))) (nEl O) ⟨0,_,h2,by omega,by omega,rfl,Keep.refl _,rE.keep,rfl,oE,fun q hq _=>(rE.ok _ (List.getElem_mem hq)).2.1,PAcc.nil _ _ _⟩ ?_
 rintro m vs h3 ⟨t,vX,Hc,ht,rfl,rfl,hk3,hkc,hnc,hoE,hun,ha⟩
 have hk03:Keep H0 h3:=hr.keep.trans (hkc.trans hk3);simp only [pwA,seval,-iQ0];refine iteI (fun hlt2=>?_) fun hge2=>?_
 rotate_left
 ·have hte:t=nEl O:=by omega
  subst hte;obtain⟨sX,capX,rfl,hfX,oX,lX,gX,ltX⟩:=ha.pos (by omega)
  have hxl:(Zl O P C i).length=nEl O:=by simp [Zl]
  simp only [pwA,seval,-iQ0];have hnx2:h'.next≤h2.next:=rE.keep.next;have key:=fun K k=>RowsI.push (K:=K) (t:=sX) (h:=h3) (cap:=capX) (x:=Zl O P C i) hr (hkc.trans hk3) (by omega) ltX oX (by rw [hxl];exact hfX) (by omega) k
  rw [hxl]at key
  refine key _ fun v' h4 r4 k4 l4=>?_
  simp only [pwA,seval,-iQ0,wrapS hlt (by omega:O.length≤4611686018427387904)]
  refine⟨_,by omega,i+1,v',_,by omega,rfl,rfl,r4,?_⟩
  rw [List.map_append,hv,List.range_succ,List.map_append]
  rfl
 have hltE:t<rsE.length:=by omega
 have hok:=rE.ok _ (List.getElem_mem hltE);have hxl:rsE[t].x.length=O.length:=by rw [eX t hltE];exact QE _ _ _
 have hse:rsE[t].s<Hc.next:=by rw [hnc];exact hok.2.2.2
 have hse3:rsE[t].s<h3.next:=Nat.lt_of_lt_of_le hse hk3.next;have hob:h3.obj rsE[t].s=some (pis (dgs O O.length t)):=by rw [hk3.obj _ hse,hun t hltE (Nat.le_refl _),eX t hltE]
 have hsEl:sE<Hc.next:=by rw [hnc];exact ltE
 have hob3:h3.obj sE=some (rsE.map SR.pv):=by rw [hk3.obj _ hsEl];exact hoE
 have hrd:h3.rd1 sE t=some (.sl rsE[t].s 0 O.length rsE[t].cap):=by
  rw [qV hob3,List.getElem?_map,List.getElem?_eq_getElem hltE];show some (PV.sl _ 0 rsE[t].x.length _)=_;rw [hxl]
 have hfc:full 1 rsE[t].cap O.length:=by have:=hok.1;rwa [hxl]at this
 have hge':h'.next≤rsE[t].s:=hok.2.2.1;have hn0:σ.next<h'.next:=Nat.lt_of_lt_of_le (by rw [←hH];exact Nat.lt_succ_self _) hr.keep.next
 have hneE:sE≠rsE[t].s:=fun e=>rE.ne rsE[t].s (List.mem_map.2 ⟨_,List.getElem_mem hltE,rfl⟩) 0 _ capE (by rw [e])
 simp only [pwA,seval,-iQ0,hlt2,hrd];refine hTG h3 _ σ.next rsE[t].s rsE[t].cap (dgs O O.length t) _ vP vC (hs.keep hk03) hR0 hob hse3 (by omega) hfc (by rw [Nat.sub_self];exact zDH s t) ?_
 have hmu:gS O (mu O P C O.length (dgs O O.length t) (Grp.unit O i)):=F.g.cl (zDH s t) (s.unit hlt (Nat.zero_le _));simp only [pwA,seval,-iQ0];refine zFg s ((hs.keep hk03).set (by omega) _) hR0.O hmu (by rw [ZT,if_pos rfl]) ?_
 have kc2:=Keep.set2 hk3 rsE[t].s (pis (mu O P C O.length (dgs O O.length t) (Grp.unit O i)));have hn2:(Hc.set rsE[t].s (pis (mu O P C O.length (dgs O O.length t) (Grp.unit O i)))).next=h2.next:=hnc;simp only [pwA,seval,-iQ0];refine PAcc.push (bytes:=8) (σb:=Hc.set rsE[t].s (pis (mu O P C O.length (dgs O O.length t) (Grp.unit O i)))) (n:=t) (cs:=pis ((List.range t).map (regAt O P C i))) kc2 (by rw [hn2];exact ha.setX (by rw [←hnc];exact hse)) (by omega) (by omega) fun v' h4 k4 a4=>?_
 simp only [pwA,seval,-iQ0,wrapS hlt2 (by omega:nEl O≤4611686018427387904)]
 refine⟨_,by omega,t+1,v',_,by omega,rfl,rfl,k4,hkc.set hge' _,hnc,by rw [ZT,if_neg hneE];exact hoE,fun q hq hqt=>?_,?_⟩
 ·rw [ZT,if_neg]
  ·exact hun q hq (by omega)
  ·intro e
   have:=List.pairwise_iff_getElem.1 rE.nd t q (by simpa [Zk]using hltE) (by simpa [Zk]using hq) (by omega)
   simp only [Zk,List.getElem_map]at this
   exact this e.symm
 ·rw [hn2]at a4
  have e:pis ((List.range (t+1)).map (regAt O P C i))=pis ((List.range t).map (regAt O P C i))++[.int .i64 (regAt O P C i t)]:=by
   rw [List.range_succ,List.map_append,←zCt];rfl
  rw [e];exact a4.acc
end Go.Proofs
namespace Go.Grp
end Go.Grp
namespace Go.Proofs
open Go.Ab Go.Lie Go.Grp
variable {σ h h':PHeap} {K:PV→PHeap→Prop} {O:List Int} {P:List (List Int)} {C:List (List (List Int))} {vO vP vC vx vM vA v:PV} {x:List Int} {A M:List (List Int)} {sp se:Nat} {rows:List SR}
theorem RowsI.finU {hg:PHeap} (a:RowsI hg h v rows) (hg0:Keep σ hg) (k:∀z t,FII z (rows.map SR.x)→Own σ.top t z→σ.top≤t→K z (σ.up t)):Gh σ K v h:=by
 have hk:=hg0.trans a.keep;have ok:∀q∈rows,q.ok h σ.next:=fun q hq=>⟨(a.ok q hq).1,(a.ok q hq).2.1,Nat.le_trans hg0.next (a.ok q hq).2.2.1,(a.ok q hq).2.2.2⟩
 rcases a.acc with ⟨rfl,h1,h2⟩|⟨s,cap,rfl,q1,q2,q3,q4,q5⟩
 ·have h0:rows=[]:=List.eq_nil_of_length_eq_zero h1
  exact Gh.fin0T hk hk.top trivial fun _=>k _ σ.top ⟨true,.nils,[],by rw [h0];rfl,by rw [h0];exact All2.nil _⟩ (Own.empty _ _ _ _ _) (Nat.le_refl _)
 ·have hn:s∉Zk rows:=fun hm=>a.ne s hm 0 _ cap rfl
  have ht:TR.ok h σ.next (TR.rows s cap rows):=TR.rows_ok q1 q2 (Nat.le_trans hg0.next q4) q5 ok
  have:=Gh.treeO (K:=K) hk ht (by
   simp only [TR.slots,TR.rows,TR.rows_slots];exact List.nodup_cons.2 ⟨hn,a.nd⟩) fun aa T h1 h2=>k _ T TR.rows_FII h1 h2
  simpa only [TR.pv,TR.rows,List.length_map]using this
theorem zEh (hp:qo O P C) (hc:Cons O P C) (hR:IsPr vO vP vC O P C) (hN:ordF O O.length≤128) (hk:∀v t,FII v (regul O P C)→σ.top≤t→K v (σ.up t)):zA Try.prog 35 [.agg [vO,vP,vC]] σ K:=by
 have s:=hp.shp;have F:=Cons.full s hc;have hn6:=s.le;obtain⟨hNe,hN1⟩:=zEb s;have hN8:nEl O≤128:=by omega
 have g0:=hR.O.one;have g1:=hR.P.one;have g2:=hR.C.one;have hR0:=hR;obtain⟨⟨w0,a0,rfl⟩,hRP,hRC⟩:=hR;refine zA.gh ?_;refine zB mix Try.func35 ?_
 conv=>arg 2;cbv
 refine zC rfl ?_;simp only [pwA,seval,-iQ0,g1,g2];have hb:(σ.new [.fz w0 a0 O.length (pis O),vP,vC]).obj σ.next=some [.fz w0 a0 O.length (pis O),vP,vC]:=by simp only [pwA,seval,-iQ0]
 have hnl:σ.next<(σ.new [.fz w0 a0 O.length (pis O),vP,vC]).next:=Nat.lt_succ_self _;have hg0:Keep σ (σ.new [.fz w0 a0 O.length (pis O),vP,vC]):=zF _ _;have hnx:(σ.new [.fz w0 a0 O.length (pis O),vP,vC]).next=σ.next+1:=rfl;rw [←hnx];generalize σ.new [.fz w0 a0 O.length (pis O),vP,vC]=H0 at *
 have e0:∀{g:PHeap},Keep H0 g→g.rd1 σ.next 0=some (.fz w0 a0 O.length (pis O)):=fun k=>by rw [qV ((k.obj _ hnl).trans hb)];rfl
 have e3:∀{g:PHeap},Keep H0 g→g.rd σ.next 0 3=some [.fz w0 a0 O.length (pis O),vP,vC]:=fun k=>by rw [zAV ((k.obj _ hnl).trans hb)];rfl
 refine zD (fun m vs h'=>∃(i:Nat) (vL:PV) (rows:List SR),i≤O.length∧m=O.length-i∧vs=[.ptr σ.next 0,vL,.int .i64 i]∧RowsI H0 h' vL rows∧rows.map SR.x=(List.range i).map (Zl O P C)) O.length ⟨0,_,[],by omega,by omega,rfl,RowsI.new H0,rfl⟩ ?_
 rintro m vs h' ⟨i,vL,rows,hi,rfl,rfl,hr,hv⟩
 have hrl:rows.length=i:=by have:=congrArg List.length hv;simpa using this
 simp only [pwA,seval,-iQ0,e0 hr.keep];refine iteI (fun hlt=>?_) fun hge=>?_
 rotate_left
 ·have hie:i=O.length:=by omega
  subst hie;exact RowsI.finU hr hg0 fun z t hz _ ht=>hk z t (by rw [show rows.map SR.x=regul O P C from hv]at hz;exact hz) ht
 simp only [pwA,seval,-iQ0,e0 hr.keep];refine zC3 (by omega) hlt fun vG hG=>?_
 simp only [pwA,seval,-iQ0];refine zD (fun m vs h3=>∃(t:Nat) (vX:PV),t≤nEl O∧m=nEl O-t∧vs=[.ptr σ.next 0,vL,.int .i64 i,vG,vX,.int .i64 t]∧Keep h' h3∧PAcc h'.next 1 h3 vX t (pis ((List.range t).map (regAt O P C i)))) (nEl O) ⟨0,_,by omega,by omega,rfl,zF _ _,(PSl.new _ 1 rfl (Nat.le_refl _)).acc⟩ ?_
 rintro m vs h3 ⟨t,vX,ht,rfl,rfl,hk3,ha⟩
 have hk03:Keep H0 h3:=hr.keep.trans hk3;simp only [pwA,seval,-iQ0,e3 hk03];refine zC2 s hR0 ?_;rw [hNe];simp only [pwA,seval,-iQ0];refine iteI (fun hlt2=>?_) fun hge2=>?_
 rotate_left
 ·have hte:t=nEl O:=by omega
  subst hte;obtain⟨sX,capX,rfl,hfX,oX,lX,gX,ltX⟩:=ha.pos (by omega)
  have hxl:(Zl O P C i).length=nEl O:=by simp [Zl]
  simp only [pwA,seval,-iQ0];have key:=fun K k=>RowsI.push (K:=K) (t:=sX) (h:=h3) (cap:=capX) (x:=Zl O P C i) hr hk3 gX ltX oX (by rw [hxl];exact hfX) (by omega) k
  rw [hxl]at key
  refine key _ fun v' h4 r4 k4 l4=>?_
  simp only [pwA,seval,-iQ0,wrapS hlt (by omega:O.length≤4611686018427387904)]
  refine⟨_,by omega,i+1,v',_,by omega,rfl,rfl,r4,?_⟩
  rw [List.map_append,hv,List.range_succ,List.map_append]
  rfl
 have hlt2':t<nEl O:=by omega
 simp only [pwA,seval,-iQ0,e3 hk03];refine zK0 s hR0 (by omega) fun v1 f1=>?_
 simp only [pwA,seval,-iQ0,e3 hk03];refine zH7 s hR0 (zDH s t) (s.unit hlt (Nat.zero_le _)) f1 hG fun v2 f2=>?_
 simp only [pwA,seval,-iQ0,e3 hk03];have hmu:gS O (gm O P C (dgs O O.length t) (Grp.unit O i)):=F.g.cl (zDH s t) (s.unit hlt (Nat.zero_le _));refine zFj s hR0 hmu f2 ?_;simp only [pwA,seval,-iQ0];refine PAcc.push (bytes:=8) (σb:=h') (n:=t) (cs:=pis ((List.range t).map (regAt O P C i))) hk3 ha (by omega) (by omega) fun v' h4 k4 a4=>?_
 simp only [pwA,seval,-iQ0,wrapS hlt2' (by omega:nEl O≤4611686018427387904)]
 refine⟨_,by omega,t+1,v',by omega,rfl,rfl,k4,?_⟩
 have e:pis ((List.range (t+1)).map (regAt O P C i))=pis ((List.range t).map (regAt O P C i))++[.int .i64 (regAt O P C i t)]:=by
  rw [List.range_succ,List.map_append,←zCt];rfl
 rw [e];exact a4.acc
theorem zEg (hp:qo O P C) (hc:Cons O P C) (hR:IsPr vO vP vC O P C) (hN:ordF O O.length≤128) (hk:∀v,FII v (regul O P C)→K v σ):zA Try.prog 35 [.agg [vO,vP,vC]] σ K:=
 zA.notop (p:=fun v _=>FII v (regul O P C)) (fun K' k'=>zEh hp hc hR hN fun v t hv ht=>k' v t (hv.bel _) hv ht) fun v t hv=>hk v hv
end Go.Proofs
namespace Go.Grp
end Go.Grp
namespace Go.Proofs
open Go.Ab Go.Lie Go.Grp
variable {σ h h':PHeap} {K:PV→PHeap→Prop} {O:List Int} {P:List (List Int)} {C:List (List (List Int))} {vO vP vC vx vM vA v:PV} {x:List Int} {A M:List (List Int)} {sp se:Nat}
def CRes (O:List Int) (P:List (List Int)) (C:List (List (List Int))) (k:Int) (G:List Pre) (L:List (List Int)) (c:Int):Prop:=
 (¬qo O P C∧(k=0∧G=[]∧L=[])∧c=1)∨(qo O P C∧128<ordF O O.length∧(k=0∧G=[]∧L=[])∧c=3)∨(qo O P C∧ordF O O.length≤128∧¬Cons O P C∧(k=0∧G=[]∧L=[])∧c=4)∨
 (qo O P C∧ordF O O.length≤128∧Cons O P C∧(k=1∧G=[(O,P,C)]∧L=regul O P C)∧c=0)
theorem CRes.unique {k k' c c':Int} {G G':List Pre} {L L':List (List Int)} (h:CRes O P C k G L c) (g:CRes O P C k' G' L' c'):(k=k'∧G=G'∧L=L')∧c=c':=by
 rcases h with ⟨a,⟨rfl,rfl,rfl⟩,rfl⟩|⟨a,b,⟨rfl,rfl,rfl⟩,rfl⟩|⟨a,b,d,⟨rfl,rfl,rfl⟩,rfl⟩|⟨a,b,d,⟨rfl,rfl,rfl⟩,rfl⟩<;>rcases g with ⟨a',⟨rfl,rfl,rfl⟩,rfl⟩|⟨a',b',⟨rfl,rfl,rfl⟩,rfl⟩|⟨a',b',d',⟨rfl,rfl,rfl⟩,rfl⟩|⟨a',b',d',⟨rfl,rfl,rfl⟩,rfl⟩<;>first|exact⟨⟨rfl,rfl,rfl⟩,rfl⟩|(exfalso;first|exact a a' | exact a' a|exact d d' | exact d' d|omega)
theorem Owns.append {lo t hi:Nat} {a b:List PV} (h:Owns lo t a) (g:Owns t hi b) (hl:lo≤t) (ht:t≤hi):Owns lo hi (a++b):=by
 refine⟨qw.2 fun c hc=>?_,?_,fun o ho=>?_⟩
 ·rcases List.mem_append.1 hc with hc | hc
  ·exact qw.1 h.wh c hc
  ·exact qw.1 g.wh c hc
 ·rw [qd,List.nodup_append]
  refine⟨h.nd,g.nd,fun x hx y hy e=>?_⟩
  have:=h.lt x hx
  have:=g.lt y hy
  omega
 ·rw [qd,List.mem_append]at ho
  rcases ho with ho|ho
  ·have:=h.lt o ho;omega
  ·have:=g.lt o ho;omega
theorem Owns.swap {lo hi:Nat} {a b:PV} (h:Owns lo hi [a,b]):Owns lo hi [b,a]:=by
 obtain⟨⟨w1,w2,_⟩,nd,hlt⟩:=h;simp only [eads,List.append_nil]at nd hlt
 refine⟨⟨w2,w1,trivial⟩,?_,fun o ho=>?_⟩
 ·simp only [eads,List.append_nil]
  exact(List.perm_append_comm (l₁:=ead b) (l₂:=ead a)).nodup_iff.2 nd
 ·simp only [eads,List.append_nil]at ho
  exact hlt o (List.mem_append.2 ((List.mem_append.1 ho).symm))
theorem zIJ {w:Bool} {a:AV}:FG (.fz w a 0 []) []:=⟨w,a,[],rfl,All2.nil _⟩
theorem zII {w:Bool} {a:AV} {wO wP wC:PV} (h:IsPr wO wP wC O P C):FG (.fz w a 1 [wO,wP,wC]) [(O,P,C)]:=⟨w,a,[(wO,wP,wC)],rfl,(All2.nil FI3).snoc h⟩
theorem zAy (hp:qo O P C) (hc:¬Cons O P C) (sz:SzP O P C) (hR:IsPr vO vP vC O P C) (hk:K (.tup [.fz true .nils 0 [],.int .i64 1]) σ):zA Try.prog 39 [.agg [vO,vP,vC]] σ K:=by
 have g0:=hR.O.one;have g1:=hR.P.one;have g2:=hR.C.one;refine zA.gh ?_;refine zB mix Try.func39 ?_
 conv=>arg 2;cbv
 refine zC rfl ?_;simp only [pwA,seval,-iQ0,g0,g1,g2];refine zAK hR sz fun t ht=>?_
 cases t with
 | true=>exact absurd (ht.1 rfl).2 hc
 | false=>
  simp only [pwA,seval,-iQ0];exact Gh.fin0 (zF σ _) ⟨trivial,trivial,trivial⟩ hk
theorem zEn {hE:PHeap} {g:Nat} {wO wP wC vL:PV} {L:List (List Int)} (kk:Keep σ hE) (hg:hE.obj g=some [wO,wP,wC]) (h0:σ.next≤g) (hq:IsPr wO wP wC O P C) (fL:FII vL L)
  (k:∀o,σ.top≤o→o∉qz [wO,wP,wC]→o∉addrs vL→σ.top≤max hE.top (o+1)→K (.tup [.agg [.int .i64 1,.fz true (.sl o 0 1 (.known 1)) 1 [wO,wP,wC],vL],.int .i64 0]) (σ.up (max hE.top (o+1)))):Gh σ K (.tup [.agg [.int .i64 1,.sl g 0 1 (.known 1),vL],.int .i64 0]) hE:=by
 refine Gh.freeze (s:=g) (cs:=[wO,wP,wC]) hg h0 ⟨hq.O.bel 0,hq.P.bel 0,hq.C.bel 0,trivial⟩ fun o ho hc hv=>?_
 have sL:sb g o [wO,wP,wC] vL=vL:=fL.sb _ _ _;simp only [sb,sbs,sL,capOK,and_self,if_true,decide_true,Nat.le_refl];have hv':o∉addrs vL:=by
  simp only [addrs,qz,List.nil_append,List.append_nil]at hv
  exact hv
 exact Gh.fin0T (t:=max hE.top (o+1)) ((kk.kill h0).up (by simp only [PHeap.kill];omega)) (Nat.le_refl _) ⟨⟨trivial,trivial,fL.bel _,trivial⟩,trivial,trivial⟩ fun _=>k o ho hc hv' (by have:=kk.top;omega)
theorem Qg (sz:SzP O P C) (hR:IsPr vO vP vC O P C)
  (hk:∀k G L vG vL c t,CRes O P C k G L c→FG vG G→FII vL L→Owns σ.top t [vG,vL]→σ.top≤t→K (.tup [.agg [.int .i64 k,vG,vL],.int .i64 c]) (σ.up t)):zA Try.prog 9 [.agg [vO,vP,vC]] σ K:=by
 have g0:=hR.O.one;have g1:=hR.P.one;have g2:=hR.C.one;have hkp:Keep σ ((σ.new [vO,vP,vC]).new [.int .i64 0,.fz true .nils 0 [],.fz true .nils 0 []]):=(zF _ _).new _;have hs:PtrG ((σ.new [vO,vP,vC]).new [.int .i64 0,.fz true .nils 0 [],.fz true .nils 0 []]) σ.next vO vP vC:=⟨by simp only [pwA,seval,-iQ0],by show σ.next<σ.next+1+1;omega⟩
 have hset:∀cs:List PV,Keep σ (((σ.new [vO,vP,vC]).new [.int .i64 0,.fz true .nils 0 [],.fz true .nils 0 []]).set (σ.next+1) cs):=fun cs=>hkp.set (Nat.le_succ _) cs
 have nilE:∀{c:Int} {g:PHeap},Keep σ g→CRes O P C 0 [] [] c→Gh σ K (.tup [.agg [.int .i64 0,.fz true .nils 0 [],.fz true .nils 0 []],.int .i64 c]) g:=fun {c g} kk h=>
  Gh.fin0T kk kk.top ⟨⟨trivial,trivial,trivial,trivial⟩,trivial,trivial⟩ fun _=>hk 0 [] [] _ _ c σ.top h zIJ ⟨true,.nils,[],rfl,All2.nil _⟩ (((Owns.nil σ.top σ.top).snoc (Own.empty _ _ true .nils 0) (Nat.le_refl _) (Nat.le_refl _)).snoc (Own.empty _ _ true .nils 0) (Nat.le_refl _) (Nat.le_refl _)) (Nat.le_refl _)
 refine zA.gh ?_;refine zB mix Try.func9 ?_
 conv=>arg 2;cbv
 refine zC rfl ?_;simp only [pwA,seval,-iQ0,g0,g1,g2];refine Qh hR sz fun t ht=>?_
 cases t with
 | false=>
  simp only [pwA,seval,-iQ0,g0,g1,g2];exact nilE hkp (.inl ⟨fun h=>(by cases ht.2 h),⟨rfl,rfl,rfl⟩,rfl⟩)
 | true=>
 have hp:=ht.1 rfl;have s:=hp.shp;have hn6:=s.le;have hb:=ZX s.pr (i:=O.length) (Nat.le_refl _);have h7:=pow7 (i:=O.length) (by omega)
 simp only [pwA,seval,-iQ0];refine zBN s hs hR.O ?_
 by_cases h128:128<ordF O O.length
 ·simp only [pwA,seval,-iQ0,h128]
  exact nilE hkp (.inr (.inl ⟨hp,h128,⟨rfl,rfl,rfl⟩,rfl⟩))
 simp only [pwA,seval,-iQ0,h128,g0,g1,g2];have hN:ordF O O.length≤128:=by omega
 by_cases hc:Cons O P C
 rotate_left
 ·refine zAy hp hc sz hR ?_
  simp only [pwA,seval,-iQ0];exact nilE hkp (.inr (.inr (.inl ⟨hp,hN,hc,⟨rfl,rfl,rfl⟩,rfl⟩)))
 refine zAx hp hc sz hR hN fun vL t1 fL oL ht1=>?_
 have l1:=fL.one;simp only [pwA,seval,-iQ0,l1];have hs2:=hs.keep ((Keep.refl _).up ht1);refine zBX s hs2 hR fun wO wP wC t2 hq oq ht2=>?_
 have q0:=hq.O.one;have q1:=hq.P.one;have q2:=hq.C.one;have l2:=fL.cells;have z3:ofAVs (zeros [.nils,.nils,.nils] 1)=[.fz true .nils 0 [],.fz true .nils 0 [],.fz true .nils 0 []]:=rfl;simp only [pwA,seval,-iQ0,l1,l2,q0,q1,q2,z3];have kk:Keep σ (((((σ.new [vO,vP,vC]).new [.int .i64 1,.sl (σ.next+2) 0 1 (.known 1),vL]).new [wO,wP,wC]).up t1).up t2):=Keep.up (Keep.up (((zF σ _).new _).new _) ht1) ht2;refine zEn kk (g:=σ.next+2) (by simp only [pwA,seval,-iQ0]) (by omega) hq fL fun o ho h1 h2 h3=>?_
 have ob:Owns σ.top t2 [vL,wO,wP,wC]:=Owns.append ((Owns.nil σ.top σ.top).snoc oL (Nat.le_refl _) ht1) oq ht1 ht2;refine hk 1 [(O,P,C)] (regul O P C) _ _ 0 _ (.inr (.inr (.inr ⟨hp,hN,hc,⟨rfl,rfl,rfl⟩,rfl⟩))) (zII hq) fL ?_ h3;refine Owns.swap (Owns.last (pre:=[vL]) (rows:=[wO,wP,wC]) ob ho (Nat.lt_of_lt_of_le (Nat.lt_succ_self o) (Nat.le_max_right _ _)) (Nat.le_max_left _ _) fun hm=>?_)
 rcases List.mem_append.1 (show o∈ead vL++eads [wO,wP,wC] from hm)with hm|hm
 ·exact h2 (zAI hm)
 ·exact h1 (ZE hm)
theorem zBg (sz:SzP O P C) (hR:IsPr vO vP vC O P C)
  (hk:∀k G L vG vL c t,CRes O P C k G L c→FG vG G→FII vL L→σ.top≤t→K (.tup [.agg [.int .i64 k,vG,vL],.int .i64 c]) (σ.up t)):zA Try.prog 7 [.agg [vO,vP,vC]] σ K:=by
 have g0:=hR.O.one;have g1:=hR.P.one;have g2:=hR.C.one;have hkp:Keep σ ((σ.new [vO,vP,vC]).new [.int .i64 0,.fz true .nils 0 [],.fz true .nils 0 []]):=(zF _ _).new _;have nilE:∀{c:Int} {g:PHeap},Keep σ g→CRes O P C 0 [] [] c→Gh σ K (.tup [.agg [.int .i64 0,.fz true .nils 0 [],.fz true .nils 0 []],.int .i64 c]) g:=fun {c g} kk h=>
  Gh.fin0T kk kk.top ⟨⟨trivial,trivial,trivial,trivial⟩,trivial,trivial⟩ fun _=>hk 0 [] [] _ _ c σ.top h zIJ ⟨true,.nils,[],rfl,All2.nil _⟩ (Nat.le_refl _)
 have finE:∀{hE:PHeap} {g:Nat} {wO wP wC vL:PV},qo O P C→ordF O O.length≤128→Cons O P C→Keep σ hE→hE.obj g=some [wO,wP,wC]→σ.next≤g→IsPr wO wP wC O P C→FII vL (regul O P C)→Gh σ K (.tup [.agg [.int .i64 1,.sl g 0 1 (.known 1),vL],.int .i64 0]) hE:=fun hp hN hc kk ho hg hq fL=>
  zEn kk ho hg hq fL fun o _ _ _ h3=>hk 1 [(O,P,C)] (regul O P C) _ _ 0 _ (.inr (.inr (.inr ⟨hp,hN,hc,⟨rfl,rfl,rfl⟩,rfl⟩))) (zII hq) fL h3
 refine zA.gh ?_;refine ZO mix Try.func7 cf7 rfl ?_;dsimp only [if7,qI,eI,kI0,LI0,cI0,nI0,C1,I0,vI0,R0,S0];simp only [pwA,seval,-iQ0,g0,g1,g2];refine zAr hR sz fun t ht=>?_
 cases t with
 | false=>
  simp only [pwA,seval,-iQ0,g0,g1,g2];exact nilE hkp (.inl ⟨fun h=>(by cases ht.2 h),⟨rfl,rfl,rfl⟩,rfl⟩)
 | true=>
 have hp:=ht.1 rfl;have s:=hp.shp;have hn6:=s.le;simp only [pwA,seval,-iQ0,g0,g1,g2];refine zC2 s hR ?_
 by_cases h128:128<ordF O O.length
 ·simp only [pwA,seval,-iQ0,h128]
  exact nilE hkp (.inr (.inl ⟨hp,h128,⟨rfl,rfl,rfl⟩,rfl⟩))
 have hN:ordF O O.length≤128:=by omega
 simp only [pwA,seval,-iQ0,h128,g0,g1,g2];refine zCS s hR fun t ht=>?_
 cases t with
 | false=>
  simp only [pwA,seval,-iQ0,g0,g1,g2];exact nilE hkp (.inr (.inr (.inl ⟨hp,hN,fun h=>(by cases ht.2 h),⟨rfl,rfl,rfl⟩,rfl⟩)))
 | true=>
 have hc:=ht.1 rfl;have z3:ofAVs (zeros [.nils,.nils,.nils] 1)=[.fz true .nils 0 [],.fz true .nils 0 [],.fz true .nils 0 []]:=rfl;have nn:¬σ.next=σ.next+2:=by omega
 simp only [pwA,seval,-iQ0,g0,g1,g2,zDR,TVp_e,TVp_q,zCf,zCe]
 repeat' apply And.intro
 all_goals (refine zJY hR sz fun wO wP wC hq=>?_)
 all_goals (simp only [pwA,seval,-iQ0,g0,g1,g2,z3,hq.O.one,hq.P.one,hq.C.one,zDR,TVp_e,TVp_q,zCf,zCe])
 all_goals (repeat' apply And.intro)
 all_goals (refine zEg hp hc hR hN fun vL fL=>?_)
 all_goals (simp only [pwA,seval,-iQ0,z3,hq.O.one,hq.P.one,hq.C.one,fL.one,fL.cells,zDR,TVp_e,TVp_q,zCf,zCe])
 all_goals (exact finE (g:=σ.next+2) hp hN hc (((zF σ _).new _).new _) (by simp only [pwA,seval,-iQ0]) (by omega) hq fL)
theorem zB0 (sz:SzP O P C) (hR:IsPr vO vP vC O P C)
  (hk:∀k G L vG vL c,CRes O P C k G L c→FG vG G→FII vL L→K (.tup [.agg [.int .i64 k,vG,vL],.int .i64 c]) σ):zA Try.prog 7 [.agg [vO,vP,vC]] σ K:=
 zA.notop (p:=fun v _=>∃k G L vG vL c,v=.tup [.agg [.int .i64 k,vG,vL],.int .i64 c]∧CRes O P C k G L c∧FG vG G∧FII vL L)
  (fun K' k'=>zBg sz hR fun k G L vG vL c t h1 h2 h3 ht=>k' _ t ⟨⟨trivial,h2.bel _,h3.bel _,trivial⟩,trivial,trivial⟩ ⟨k,G,L,vG,vL,c,rfl,h1,h2,h3⟩ ht)
  fun v t ⟨k,G,L,vG,vL,c,e,h1,h2,h3⟩=>by rw [e];exact hk k G L vG vL c h1 h2 h3
end Go.Proofs
