/- Proofs of membership: the program's side, over a contract of the search. -/
import Derived.Test.YtkhbdmlhjnijaaaDP29
import Derived.Test.YtkhbdmlhjnijaaaDAbPa
import Derived.Test.YtkhbdmlhjnijaaaDP36
import Derived.Test.YtkhbdmlhjnijaaaDP28
import Derived.Test.YtkhbdmlhjnijaaaDP33
import Derived.Test.YtkhbdmlhjnijaaaDAbPn
import Derived.Test.YtkhbdmlhjnijaaaDAbPz
import Derived.Test.YtkhbdmlhjnijaaaDAbPk
import Derived.Test.YtkhbdmlhjnijaaaDAbPj
import Derived.Test.YtkhbdmlhjnijaaaDP31
open Int renaming reduceNatCast'→iQ0
set_option maxRecDepth 100000
set_option linter.unusedSimpArgs false
set_option linter.unusedVariables false
namespace Go.Proofs
open Go.Ab Go.Lie
variable {σ:PHeap} {K:PV→PHeap→Prop} {n:Nat} {p:Int}
structure LS where
 s:Nat
 cap:Cap
 cs:List PV
variable {h:PHeap} {p0 sO:Nat} {vO vP vC:PV} {cO pc:List PV} {ls:List (Option LS)}
end Go.Proofs
namespace Go.Proofs
open Go.Ab Go.Lie
variable {σ:PHeap} {K:PV→PHeap→Prop} {p:Int} {n c m k:Nat} {W:List (List Int)} {B:List (List (List Int))} {vP vB vL:PV} {s:Nat} {x y u v:List Int} {vx vy:PV} {xs:List (List Int)}
theorem zBc (hL:FII vL xs) (sz:SzL xs) (hk:∀v,FII v xs→K v σ):zA Try.prog 59 [vL] σ K:=by
 have hb:=sz.l;obtain⟨wl,al,rl,rfl,hrl⟩:=hL;refine zA.gh ?_;refine zB mix Try.func59 ?_
 conv=>arg 2;cbv
 refine zC rfl ?_;simp only [pwA,seval,-iQ0];refine zF (fun m vs h'=>∃i v rows,i≤xs.length∧m=xs.length-i∧vs=[.fz wl al xs.length rl,v,.int .i64 (i:Nat)]∧Keep σ h'∧PSl σ.next 1 h' v i rows∧All2 FI rows (xs.take i)) xs.length ?_ ?_
 ·exact⟨0,_,[],by omega,by omega,rfl,zD σ _,PSl.new σ.next 1 rfl (Nat.le_refl _),by simpa using All2.nil _⟩
 ·rintro m vs h' ⟨i,v,rows,hi,rfl,rfl,hkp,ha,hall⟩
  simp only [pwA,seval,-iQ0];refine iteI (fun hlt=>?_) fun hge=>?_
  ·obtain⟨w4,a4,hrk⟩:=hrl.rowI hlt
   simp only [pwA,seval,-iQ0,hlt,hrk];refine zA.fz (e:=1) (fun K'=>ZV rfl (by have:=sz.r _ (List.getElem_mem hlt);omega)) (qH _ _) fun o cap=>?_
   simp only [pwA,seval,-iQ0];refine PSl.push (bytes:=24) (σb:=σ) hkp ha (by omega) (by omega) fun v2 h2 k2 a2=>?_
   simp only [pwA,seval,-iQ0,wrapS hlt (by omega:xs.length≤4611686018427387904)]
   refine⟨_,by omega,i+1,v2,_,by omega,rfl,rfl,k2,a2,?_⟩
   rw [List.take_succ_eq_append_getElem hlt];exact hall.snoc ⟨_,_,rfl⟩
  ·have hie:i=xs.length:=by omega
   subst hie;rw [List.take_length]at hall
   exact ha.fin hkp (hall.bI 0) fun o cap=>hk _ ⟨_,_,_,rfl,hall⟩
end Go.Proofs
namespace Go.Grp
end Go.Grp
namespace Go.Proofs
open Go.Ab Go.Lie Go.Grp
variable {σ:PHeap} {K:PV→PHeap→Prop} {n c:Nat} {p:Int} {W:List (List Int)} {B:List (List (List Int))} {vP vB vM:PV} {s:Nat} {O:List Int} {P:List (List Int)} {C:List (List (List Int))} {vO vQ vC:PV} {lo hi:Nat}
theorem zDt {v:PV} {xs:List (List (List Int))} {k:Int} (hI:FIII v (sqL (sqL sqI List.length) (totL List.length) k xs)) (sz:SzM xs) (hk0:0≤k) (hk1:k+totL (totL List.length) xs≤4611686018427387904) (hk:K (.int .i64 (k+totL (totL List.length) xs)) σ):zA Try.prog 79 [v,.int .i64 k] σ K:=by
 have hb:=sz.l;obtain⟨w,a,rows,rfl,hr⟩:=hI;have hl:=QS (sqL sqI List.length) (totL List.length) xs k;have hg:∀(i:Nat) (hi:i<xs.length) (h2:i<(sqL (sqL sqI List.length) (totL List.length) k xs).length),(sqL (sqL sqI List.length) (totL List.length) k xs)[i]=sqL sqI List.length (k+totL (totL List.length) (xs.take i)) xs[i]:=fun i hi _=>zEB (sqL sqI List.length) (totL List.length) xs k i hi
 generalize sqL (sqL sqI List.length) (totL List.length) k xs=ys at *
 refine zB mix Try.func79 ?_
 conv=>arg 2;cbv
 refine zC rfl ?_;simp only [pwA,seval,-iQ0];refine zF (fun m vs h'=>∃i:Nat,i≤ys.length∧m=ys.length-i∧vs=[.fz w a ys.length rows,.int .i64 (k+totL (totL List.length) (xs.take i)),.int .i64 i]∧σ=h') ys.length ?_ ?_
 ·exact⟨0,by omega,by omega,by rw [List.take_zero,zBI,show k+((0:Nat):Int)=k by omega];rfl,rfl⟩
 rintro m vs h' ⟨i,hi,rfl,rfl,rfl⟩
 simp only [pwA,seval,-iQ0];refine iteI (fun hlt=>?_) fun hge=>?_
 ·have hlx:i<xs.length:=by omega
  obtain⟨w4,a4,rk,hrk,hrk2⟩:=hr.rowL hlt;have ht:=zAg (len:=totL List.length) hlx;have htl:=zCP (totL List.length) xs (i+1);have hgi:=hg i hlx hlt;simp only [pwA,seval,-iQ0,hlt,hrk];have hbi:=sz.r _ (List.getElem_mem hlx);refine Qr (xs:=xs[i]) ⟨w4,a4,rk,by rw [←hgi],by rw [←hgi];exact hrk2⟩ (by have:=hbi.l;omega) (fun y hy=>by have:=hbi.r y hy;omega) (by omega) (by omega) ?_
  have hn:¬(k+(totL (totL List.length) (xs.take i):Int)+(totL List.length xs[i]:Int)<0):=by omega
  simp only [pwA,seval,-iQ0,hn,wrapS hlt (by omega:ys.length≤4611686018427387904)]
  refine⟨_,by omega,i+1,by omega,rfl,?_⟩
  have:k+(totL (totL List.length) (xs.take i):Int)+(totL List.length xs[i]:Int)=k+(totL (totL List.length) (xs.take (i+1)):Int):=by omega
  rw [this]
 ·have hie:i=xs.length:=by omega
  subst hie;rw [List.take_length];exact hk
end Go.Proofs
namespace Go.Grp
end Go.Grp
namespace Go.Proofs
open Go.Ab Go.Lie Go.Grp
variable {σ:PHeap} {K:PV→PHeap→Prop} {G:List Pre} {L:List (List Int)} {vG vL:PV} {lo hi:Nat} {kk:Int}
theorem rmP7 {lo hi:Nat} {k:Int} {vO vP vC:PV} {O:List Int} {P:List (List Int)} {C:List (List (List Int))} (hR:IsPr vO vP vC O P C) (ho:Own lo hi (.agg [vO,vP,vC])):
  FI (Go.Ab.rm (mkPr k vO vP vC O P C) vO) (sqI k O)∧FII (Go.Ab.rm (mkPr k vO vP vC O P C) vP) (sqL sqI List.length (k+O.length) P)∧FIII (Go.Ab.rm (mkPr k vO vP vC O P C) vC) (sqL (sqL sqI List.length) (totL List.length) (k+O.length+totL List.length P) C):=by
 obtain⟨⟨w0,w1,w2,_⟩,hnd,_⟩:=ho;simp only [ead,eads,List.append_nil,List.nodup_append]at hnd
 obtain⟨n0,⟨n1,n2,d12⟩,d0⟩:=hnd;have k0:=mkT_I.keys (k:=k) hR.O w0;have k1:=mkT_I.F.keys (k:=k+O.length) hR.P w1;have k2:=mkT_I.F.F.keys (k:=k+O.length+totL List.length P) hR.C w2;have r0:=mkT_I.rd (k:=k) hR.O w0 n0;have r1:=mkT_I.F.rd (k:=k+O.length) hR.P w1 n1;have r2:=mkT_I.F.F.rd (k:=k+O.length+totL List.length P) hR.C w2 n2;have e0:Go.Ab.rm (mkPr k vO vP vC O P C) vO=Go.Ab.rm (mkI k vO O) vO:=QK fun o hm=>by
  unfold mkPr;rw [zAF];intro hx;rw [List.map_append,List.mem_append]at hx
  rcases hx with hx|hx
  ·exact d0 o hm o (List.mem_append.2 (.inl (k1 o hx))) rfl
  ·exact d0 o hm o (List.mem_append.2 (.inr (k2 o hx))) rfl
 have e1:Go.Ab.rm (mkPr k vO vP vC O P C) vP=Go.Ab.rm (mkF mkI List.length (k+O.length) vP P) vP:=QK fun o hm=>by
  unfold mkPr;rw [QD fun hx=>d0 o (k0 o hx) o (List.mem_append.2 (.inl hm)) rfl,zAF fun hx=>d12 o hm o (k2 o hx) rfl]
 have e2:Go.Ab.rm (mkPr k vO vP vC O P C) vC=Go.Ab.rm (mkF (mkF mkI List.length) (totL List.length) (k+O.length+totL List.length P) vC C) vC:=QK fun o hm=>by
  unfold mkPr;rw [QD fun hx=>d0 o (k0 o hx) o (List.mem_append.2 (.inr hm)) rfl,QD fun hx=>d12 o (k1 o hx) o hm rfl]
 rw [e0,e1,e2];exact⟨r0,r1,r2⟩
theorem zFe {x:Nat}:∀{l:List Nat},x∈l→x≤l.foldr max 0
 | y::l,h=>by
  rcases List.mem_cons.1 h with rfl|h
  ·exact Nat.le_max_left _ _
  ·exact Nat.le_trans (zFe h) (Nat.le_max_right _ _)
theorem rmC {k:Int} (hG:FG vG G) (h1:G.length≤1) (hL:FII vL L) (ho:Own lo hi (.agg [.int .i64 kk,vG,vL])):
  HG (Go.Ab.rm (mkC k vG vL G L) vG) G k∧FII (Go.Ab.rm (mkC k vG vL G L) vL) (sqL sqI List.length (k+totG G) L):=by
 obtain⟨⟨_,wG,wL,_⟩,hnd,_⟩:=ho;simp only [ead,eads,List.nil_append,List.append_nil,List.nodup_append]at hnd
 obtain⟨dG,dL,dd⟩:=hnd;have kG:=zDG (k:=k) hG h1 wG;have kL:=(mkT_I.F).keys (k:=k+totG G) hL wL;have rL:=mkT_I.F.rd (k:=k+totG G) hL wL dL;have eL:Go.Ab.rm (mkC k vG vL G L) vL=Go.Ab.rm (mkF mkI List.length (k+totG G) vL L) vL:=QK fun o hm=>by
  unfold mkC;rw [QD fun hx=>dd o (kG o hx) o hm rfl]
 have eG:Go.Ab.rm (mkC k vG vL G L) vG=Go.Ab.rm (mkG k vG G) vG:=QK fun o hm=>by
  unfold mkC;rw [zAF fun hx=>dd o hm o (kL o hx) rfl]
 rw [eL,eG];refine⟨?_,rL⟩;rcases zDM hG h1 with ⟨rfl,w,a,rfl⟩|⟨w,a,vO,vP,vC,O,P,C,rfl,rfl,hR⟩
 ·exact .inl ⟨rfl,w,a,rfl⟩
 ·obtain⟨hwt,ha,hWs⟩:=wG.resolve_left (by simp)
  subst hwt;obtain⟨o,off,l,cap,rfl⟩:∃o off l cap,a=.sl o off l cap:=by
   cases a<;>simp only [isSl,Bool.false_eq_true]at ha
   exact⟨_,_,_,_,rfl⟩
  rw [Zl (by simp)]at dG
  obtain⟨no,nd⟩:=List.nodup_cons.1 dG;obtain⟨r0,r1,r2⟩:=rmP7 (lo:=0) (hi:=(eads [vO,vP,vC]).foldr max 0+1) (k:=k) hR ⟨hWs,nd,fun x hx=>⟨Nat.zero_le _,Nat.lt_succ_of_le (zFe hx)⟩⟩
  have hno:(mkPr k vO vP vC O P C).lookup o=none:=qX.2 fun hm=>no (zAl (k:=k) hR hWs o hm)
  refine .inr ⟨true,.sl o off l cap,_,_,_,O,P,C,rfl,?_,r0,r1,r2⟩;show Go.Ab.rm (mkPr k vO vP vC O P C) (.fz true (.sl o off l cap) 1 [vO,vP,vC])=_;simp only [Go.Ab.rm,List.isEmpty_cons,cond_false,hno,rms]
theorem zEw {k:Int} (hG:HG vG G k) (szG:SzG G) (hk0:0≤k) (hk1:k+totG G≤4611686018427387904) (hk:K (.int .i64 (k+totG G)) σ):zA Try.prog 45 [vG,.int .i64 k] σ K:=by
 rcases hG with ⟨rfl,w,a,rfl⟩|⟨w,a,v0,v1,v2,O,P,C,rfl,rfl,h0,h1,h2⟩
 ·skip
  refine zB mix Try.func45 ?_
  conv=>arg 2;cbv
  refine zC rfl ?_;simp only [pwA,seval,-iQ0];refine zF (fun m vs h'=>vs=[.fz w a 0 [],.int .i64 k,.int .i64 0]∧σ=h') 0 ⟨rfl,rfl⟩ ?_
  rintro m vs h' ⟨rfl,rfl⟩
  simp only [pwA,seval,-iQ0,Int.lt_irrefl]
  simpa [totG]using hk
 ·have sz:SzP O P C:=szG.r _ (List.mem_singleton.2 rfl)
  have hk1':k+totP O P C≤4611686018427387904:=hk1;unfold totP at hk1'
  have szO:=sz.O;have d01:(0:Int)<((1:Nat):Int):=by omega
  have w1:IntKind.i64.wrap 1=1:=wrap64 (by omega) (by omega)
  refine zB mix Try.func45 ?_
  conv=>arg 2;cbv
  refine zC rfl ?_;simp only [pwA,seval,-iQ0];refine zF (fun m vs h'=>(m=1∧vs=[.fz w a 1 [v0,v1,v2],.int .i64 k,.int .i64 0]∧σ=h')∨(m=0∧vs=[.fz w a 1 [v0,v1,v2],.int .i64 (k+totP O P C),.int .i64 1]∧σ=h')) 1 (.inl ⟨rfl,rfl,rfl⟩) ?_
  rintro m vs h' (⟨rfl,rfl,rfl⟩ | ⟨rfl,rfl,rfl⟩)
  rotate_left
  ·simp only [pwA,seval,-iQ0,Int.lt_irrefl]
   exact hk
  simp only [pwA,seval,-iQ0,d01];refine zBn (xs:=O) (by unfold sqI at h0;exact h0) (by omega) hk0 (by omega) ?_
  have n1:¬(k+(O.length:Int)<0):=by omega
  simp only [pwA,seval,-iQ0,n1,d01];refine Qr h1 (by have:=sz.P.l;omega) (fun y hy=>by have:=sz.P.r y hy;omega) (by omega) (by omega) ?_
  have n2:¬(k+(O.length:Int)+(totL List.length P:Int)<0):=by omega
  simp only [pwA,seval,-iQ0,n2,d01];refine zDt h2 sz.C (by omega) (by omega) ?_
  have n3:¬(k+(O.length:Int)+(totL List.length P:Int)+(totL (totL List.length) C:Int)<0):=by omega
  have e:k+(O.length:Int)+(totL List.length P:Int)+(totL (totL List.length) C:Int)=k+(totP O P C:Int):=by unfold totP;omega
  rw [e]at n3 ⊢
  simp only [pwA,seval,-iQ0,n3,w1]
  first | exact⟨0,by omega,.inr ⟨rfl,rfl⟩⟩ | exact⟨0,by omega,.inr rfl⟩
theorem Q5 {k:Int} (hG:HG vG G k) (hL:FII vL (sqL sqI List.length (k+totG G) L)) (szG:SzG G) (szL:SzL L) (hk0:0≤k) (hk1:k+totC G L≤4611686018427387904) (hk:K (.int .i64 (k+totC G L)) σ):zA Try.prog 14 [.agg [.int .i64 kk,vG,vL],.int .i64 k] σ K:=by
 have g1:=hG.one;have g2:=hL.one;have hk1':=hk1;unfold totC at hk1'
 refine zA.gh ?_;refine zB mix Try.func14 ?_
 conv=>arg 2;cbv
 refine zC rfl ?_;simp only [pwA,seval,-iQ0,g1,g2];refine zEw hG szG hk0 (by omega) ?_
 have n1:¬(k+(totG G:Int)<0):=by omega
 simp only [pwA,seval,-iQ0,n1,g1,g2];refine Qr hL (by have:=szL.l;omega) (fun y hy=>by have:=szL.r y hy;omega) (by omega) (by omega) ?_
 have n2:¬(k+(totG G:Int)+(totL List.length L:Int)<0):=by omega
 have e:k+(totG G:Int)+(totL List.length L:Int)=k+(totC G L:Int):=by unfold totC;omega
 rw [e]at n2 ⊢
 simp only [pwA,seval,-iQ0,n2];exact Gh.fin0 (zD σ _) trivial hk
end Go.Proofs
namespace Go.Ab
theorem Owns.last {pre rows:List PV} {o l lo hi hi':Nat} {cap:Cap} (h:Owns lo hi (pre++rows)) (h1:lo≤o) (h2:o<hi') (hh:hi≤hi') (hn:o∉eads (pre++rows)):Owns lo hi' (pre++[.fz true (.sl o 0 l cap) l rows]):=by
 have hw:=q8.1 h.wh;have nd:=h.nd;rw [qU]at nd hn
 by_cases hr:rows=[]
 ·subst hr
  refine⟨q8.2 fun c hc=>?_,?_,fun x hx=>?_⟩
  ·rcases List.mem_append.1 hc with hc | hc
   ·exact hw c (List.mem_append.2 (.inl hc))
   ·rw [List.mem_singleton.1 hc];exact .inl rfl
  ·rw [qU]
   simpa [eads,ead]using nd
  ·rw [qU]at hx
   have:=h.lt x (by rw [qU];simpa [eads,ead]using hx)
   omega
 ·have e:eads (pre++[PV.fz true (.sl o 0 l cap) l rows])=eads pre++(o::eads rows):=by
   rw [qU];simp only [eads,List.append_nil];rw [Zl hr]
  refine⟨q8.2 fun c hc=>?_,?_,fun x hx=>?_⟩
  ·rcases List.mem_append.1 hc with hc | hc
   ·exact hw c (List.mem_append.2 (.inl hc))
   ·rw [List.mem_singleton.1 hc]
    exact .inr ⟨rfl,rfl,q8.2 fun c hc=>hw c (List.mem_append.2 (.inr hc))⟩
  ·rw [e]
   exact(List.perm_middle (a:=o) (l₁:=eads pre) (l₂:=eads rows)).nodup_iff.2 (List.nodup_cons.2 ⟨hn,nd⟩)
  ·rw [e,List.mem_append,List.mem_cons]at hx
   have hl:=h.lt x;rw [qU,List.mem_append]at hl
   rcases hx with hx|rfl|hx
   ·have:=hl (.inl hx);omega
   ·omega
   ·have:=hl (.inr hx);omega
end Go.Ab
namespace Go.Grp
end Go.Grp
namespace Go.Proofs
open Go.Ab Go.Lie Go.Grp
variable {σ h h':PHeap} {K:PV→PHeap→Prop} {O:List Int} {P:List (List Int)} {C:List (List (List Int))} {vO vP vC vx vy vL v c x:PV} {xs:List (List Int)} {b m t:Nat} {cs ds:List PV}
theorem _root_.Go.Ab.Keep.keepOf2 {σ T h:PHeap} {rr:List PV} (k:Keep (T.new rr) h) (kp:Keep σ T):Keep σ h:=(kp.new rr).trans k
def PT (b:Nat) (h:PHeap) (v:PV) (m:Nat) (cs:List PV):Prop:=
 (v=.fz true .nils 0 []∧m=0∧cs=[])∨∃s off cap row,v=.sl s off m cap∧(cap=.grown 1∨∃c,cap=.known c∧m≤c∧off+c≤row.length)∧h.obj s=some row∧(row.drop off).take m=cs∧off+m≤row.length∧b≤s∧s<h.next
theorem PT.len (a:PT b h v m cs):cs.length=m:=by
 rcases a with ⟨_,rfl,rfl⟩|⟨s,off,cap,row,rfl,h1,h2,h3,h4,h5,h6⟩
 ·rfl
 ·rw [←h3,List.length_take,List.length_drop];omega
theorem PT.of (a:PSl b 1 h v m cs):PT b h v m cs:=by
 obtain⟨s,cap,rfl,h1,h2,h3,h4,h5⟩:=a;refine .inr ⟨s,0,cap,cs,rfl,?_,h2,by rw [List.drop_zero,List.take_of_length_le (by omega)],by omega,h4,h5⟩
 rcases h1 with rfl|rfl
 ·exact .inl rfl
 ·exact .inr ⟨m,rfl,Nat.le_refl _,by omega⟩
theorem PT.set (a:PT b h v m cs) (ht:t<b) (ds:List PV):PT b (h.set t ds) v m cs:=by
 rcases a with a|⟨s,off,cap,row,rfl,h1,h2,h3,h4,h5,h6⟩
 ·exact .inl a
 ·exact .inr ⟨s,off,cap,row,rfl,h1,by rw [ZC,if_neg (by omega)];exact h2,h3,h4,h5,h6⟩
theorem PT.pLen (a:PT b h v m cs):pLen v=some (.int .i64 m):=by
 rcases a with ⟨rfl,rfl,_⟩|⟨s,off,cap,row,rfl,_⟩<;>rfl
theorem PT.unsnoc (a:PT b h v (m+1) (cs++[c])):∃s off cap v',v=.sl s off (m+1) cap∧h.rd1 s (off+m)=some c∧QW 1 v none (some (.int .i64 m)) none=some v'∧PT b h v' m cs:=by
 have hl:=a.len;rcases a with ⟨_,e,_⟩|⟨s,off,cap,row,rfl,h1,h2,h3,h4,h5,h6⟩
 ·cases e
 have hlen:cs.length=m:=by simpa using hl
 have e4:row[off+m]? = some c:=by
  have e:((row.drop off).take (m+1))[m]? = some c:=by
   rw [h3,List.getElem?_append_right (by omega),hlen,Nat.sub_self];rfl
  rw [List.getElem?_take_of_lt (by omega),List.getElem?_drop]at e
  exact e
 have e3:(row.drop off).take m=cs:=by
  have e:((row.drop off).take (m+1)).take m=cs:=by rw [h3,List.take_append_of_le_length (by omega),List.take_of_length_le (by omega)]
  rw [List.take_take,Nat.min_eq_left (by omega)]at e
  exact e
 have hz:(m:Int)≤((m+1:Nat):Int):=by omega
 rcases h1 with rfl|⟨k,rfl,hk1,hk2⟩
 ·refine⟨s,off,_,.sl s off m (.grown 1),rfl,by rw [qW h2];exact e4,?_,.inr ⟨s,off,_,row,rfl,.inl rfl,h2,e3,by omega,h5,h6⟩⟩
  simp only [pwA,seval,-iQ0,hz]
  rfl
 ·have hmk:(m:Int)≤(k:Int):=by omega
  refine⟨s,off,_,.sl s off m (.known k),rfl,by rw [qW h2];exact e4,?_,.inr ⟨s,off,_,row,rfl,.inr ⟨k,rfl,by omega,hk2⟩,h2,e3,by omega,h5,h6⟩⟩
  simp only [pwA,seval,-iQ0,hz,hmk];rw [if_pos (show m≤k by omega)]
  simp
theorem PT.push {σb:PHeap} {bytes:Nat} {K:PV×PHeap→Prop} (hx1:x.one=true) (hk:Keep σb h) (a:PT σb.next h v m cs)
  (h1:(m+1)*bytes≤140737488355328) (h2:m+1≤4611686018427387904) (k:∀v' h',Keep σb h'→PT σb.next h' v' (m+1) (cs++[x])→K (v',h')):optK (qo 1 bytes (h.new [x]) v (.sl h.next 0 1 (.known 1))) K:=by
 have hl:=a.len;rcases a with ⟨rfl,rfl,rfl⟩|⟨s,off,cap,row,rfl,q1,q2,q3,q4,q5,q6⟩
 ·exact PAcc.push hk (PAcc.nil _ _ _) h1 h2 fun v' h' k1 k2=>k v' h' k1 (.of k2)
 rw [QX];have hp:Zv 1 (h.new [x]) (.sl h.next 0 1 (.known 1)) 1=some [x]:=by simp [Qy,Qo]
 have hobj:(h.new [x]).obj s=some row:=by simp only [PHeap.new];rw [if_neg (by omega)];exact q2
 have hn:=hk.next;simp only [plen,Option.bind_some];rw [if_neg (by omega),hp]
 simp only [Option.bind_some];rcases q1 with rfl|⟨c,rfl,c1,c2⟩
 ·rw [zAx,if_pos ⟨h1,h2,rfl⟩,hobj]
  simp only [Option.bind_some];rw [if_pos (by omega),Nat.mul_one,q3]
  refine ZQ rfl (k _ _ (((hk.new _).kill (by omega)).new _) (.inr ⟨(h.new [x]).next,0,_,cs++[x],rfl,.inl rfl,by simp [PHeap.new,PHeap.kill],?_,by simp [hl],by simp [PHeap.new];omega,by simp [PHeap.new,PHeap.kill]⟩))
  rw [List.drop_zero,List.take_of_length_le (by simp [hl])]
 ·rw [zAw]
  by_cases hc:m+1≤c
  ·rw [if_pos hc,Nat.mul_one,zA8 hobj,if_pos ⟨by simp;omega,by simp [hx1]⟩]
   simp only [Option.map_some,List.length_singleton];refine ZQ rfl (k _ _ ((hk.new _).set q5 _) (.inr ⟨s,off,_,_,rfl,.inr ⟨c,rfl,hc,?_⟩,by rw [ZC,if_pos rfl],?_,?_,q5,Nat.lt_succ_of_lt q6⟩))
   ·simp;omega
   ·have e1:(row.take (off+m)).length=off+m:=by simp;omega
    rw [List.append_assoc,List.drop_append_of_le_length (by omega),List.take_append,show((row.take (off+m)).drop off).length=m by simp;omega]
    have e2:(row.take (off+m)).drop off=cs:=by
     rw [←q3,List.drop_take];congr 1;omega
    rw [e2,List.take_of_length_le (by omega),show m+1-m=1 by omega]
    simp
   ·simp;omega
  ·rw [if_neg hc,if_pos ⟨h1,h2⟩,QC hobj,if_pos (by omega),Nat.mul_one,q3]
   simp only [Option.map_some];refine ZQ rfl (k _ _ ((hk.new _).new _) (.inr ⟨(h.new [x]).next,0,_,cs++[x],rfl,.inl rfl,by simp [PHeap.new],?_,by simp [hl],by simp [PHeap.new];omega,by simp [PHeap.new]⟩))
   rw [List.drop_zero,List.take_of_length_le (by simp [hl])]
theorem zJU (hL:FII vL xs) (sz:SzL xs) (hk:∀v h' rows,Keep σ h'→PT σ.next h' v xs.length rows→All2 FI rows xs→K v h'):zA Try.prog 59 [vL] σ K:=by
 have hb:=sz.l;obtain⟨wl,al,rl,rfl,hrl⟩:=hL;refine zB mix Try.func59 ?_
 conv=>arg 2;cbv
 refine zC rfl ?_;simp only [pwA,seval,-iQ0];refine zF (fun m vs h'=>∃i v rows,i≤xs.length∧m=xs.length-i∧vs=[.fz wl al xs.length rl,v,.int .i64 (i:Nat)]∧Keep σ h'∧PSl σ.next 1 h' v i rows∧All2 FI rows (xs.take i)) xs.length ?_ ?_
 ·exact⟨0,_,[],by omega,by omega,rfl,zD σ _,PSl.new σ.next 1 rfl (Nat.le_refl _),by simpa using All2.nil _⟩
 ·rintro m vs h' ⟨i,v,rows,hi,rfl,rfl,hkp,ha,hall⟩
  simp only [pwA,seval,-iQ0];refine iteI (fun hlt=>?_) fun hge=>?_
  ·obtain⟨w4,a4,hrk⟩:=hrl.rowI hlt
   simp only [pwA,seval,-iQ0,hlt,hrk];refine zA.fz (e:=1) (fun K'=>ZV rfl (by have:=sz.r _ (List.getElem_mem hlt);omega)) (qH _ _) fun o cap=>?_
   simp only [pwA,seval,-iQ0];refine PSl.push (bytes:=24) (σb:=σ) hkp ha (by omega) (by omega) fun v2 h2 k2 a2=>?_
   simp only [pwA,seval,-iQ0,wrapS hlt (by omega:xs.length≤4611686018427387904)]
   refine⟨_,by omega,i+1,v2,_,by omega,rfl,rfl,k2,a2,?_⟩
   rw [List.take_succ_eq_append_getElem hlt];exact hall.snoc ⟨_,_,rfl⟩
  ·have hie:i=xs.length:=by omega
   subst hie;rw [List.take_length]at hall
   exact hk _ _ rows hkp (.of ha) hall
theorem zBa {x:List Int} {vx:PV} (g:LG O P C) (hR:IsPr vO vP vC O P C) (hx:gS O x) (hvx:FI vx x) {k:Int} (hk0:-1000≤k∧k<0) (hk:∀v,FI v (Grp.pw (gm O P C) (zv O) (ginv (gS O) (gm O P C) (zv O) x) (-k).toNat)→K v σ):
  zA Try.prog 86 [.agg [vO,vP,vC],vx,.int .i64 k] σ K:=by
 have h0:=hR.O.one;have h1:=hR.P.one;have h2:=hR.C.one;have M:=g.F.g.toMon;have hk1:k<0:=hk0.2;have hkw:IntKind.i64.wrap (0-k)=-k:=by rw [wrap64 (by omega) (by omega)];omega
 refine zA.gh ?_;refine zB mix Try.func86 ?_
 conv=>arg 2;cbv
 refine zC rfl ?_;simp only [pwA,seval,-iQ0,h0,h1,h2,hk1];refine zEa g.s g.co hR hx hvx fun v hv=>?_
 simp only [pwA,seval,-iQ0,h0,h1,h2,hkw];refine zAa g.s (d:=O.length) (i:=0) (by omega) (Qp g.s (by omega)) M hR (g.F.g.inv_in hx).1 hv (by omega) fun v hv=>?_
 simp only [pwA,seval,-iQ0];exact Gh.fin0 (zD σ _) (hv.bel _) (hk v hv)
end Go.Proofs
namespace Go.Proofs
open Go.Ab Go.Lie
variable {σ σ0 σ1:PHeap} {K:PV→PHeap→Prop} {vC:PV} {bs:List Int} {s:Nat} {a sd:Int}
def FB (v:PV) (bs:List Int):Prop:=∃w a,v=.fz w a bs.length (bs.map (.int .u8))
theorem FB.one {v:PV} (h:FB v bs):v.one=true:=by obtain⟨w,a,rfl⟩:=h;rfl
theorem zIU (σ:PHeap) (x y:List PV):(σ.new x).set σ.next y=σ.new y:=by
 simp only [PHeap.new,PHeap.set]
 congr 1
 funext t
 split<;>rfl
end Go.Proofs
set_option linter.unusedSectionVars false
namespace Go.Proofs
open Go.Ab Go.Lie
variable {σ σ0 h h':PHeap} {K:PV→PHeap→Prop} {vC:PV} {bs:List Int} {s b n:Nat} {p:Int} {RP R:PV→List Int→Prop} {sP sB:Nat} {capP capB:Cap} {cs:List PV} {ls:List LS} {W:List (List Int)} {B:List (List (List Int))}
theorem zDW {h:PHeap} {t i:Nat} {cs:List PV} {v:PV} (ho:h.obj t=some cs) (hi:i<cs.length) (hv:v.one=true):h.wr t i [v]=some (h.set t (cs.set i v)):=by
 rw [zA8 ho,if_pos ⟨by simp;omega,by simp [hv]⟩]
 congr 2
 rw [List.append_assoc];exact take_set cs hi v
end Go.Proofs
namespace Go.Proofs
open Go.Ab Go.Lie
variable {σ σ0 h h':PHeap} {K:PV→PHeap→Prop} {vC:PV} {bs:List Int} {s b n r0:Nat} {p:Int} {sP sB:Nat} {capP capB:Cap} {cs:List PV} {ls:List LS} {W:List (List Int)} {B:List (List (List Int))} {R:PV→List Int→Prop} {F F':List (List Int)→List (List (List Int))→Prop}
variable {E:Nat→List Int→Prop}
theorem ownFI {v:PV} {xs:List Int} (hv:FI v xs) (hb:xs.length≤4294967296) (hk:∀v',FI v' xs→K v' σ):zA Try.prog 58 [v] σ K:=by
 obtain⟨w,a,rfl⟩:=hv;exact zAp rfl hb fun v=>hk _ ⟨_,_,rfl⟩
end Go.Proofs
namespace Go.Grp
end Go.Grp
namespace Go.Proofs
open Go.Ab Go.Lie Go.Grp
variable {σ:PHeap} {K:PV→PHeap→Prop} {O:List Int} {P:List (List Int)} {C:List (List (List Int))} {vO vP vC vx vy vB:PV} {x y:List Int} {p:Int} {n:Nat} {W:List (List Int)} {B:List (List (List Int))} {sp s:Nat}
theorem zB7 (hR:IsPr vO vP vC O P C) (szO:O.length≤1048576) (bO:∀o∈O,isP o) (hy:FI vy y) (hb:y.length≤1048576) (hk:∀t:Bool,(t=true↔isExp O y)→K (.bool t) σ):zA Try.prog 102 [.agg [vO,vP,vC],vy] σ K:=by
 have h0:=hR.O.one;have h1:=hR.P.one;have h2:=hR.C.one;refine zA.gh ?_;refine zB mix Try.func102 ?_
 conv=>arg 2;cbv
 refine zC rfl ?_;simp only [pwA,seval,-iQ0,h0,h1,h2];refine Qa (t:=0) (by omega) (Nat.zero_le _) hR.O szO bO hy hb fun t ht=>?_
 simp only [pwA,seval,-iQ0];exact Gh.fin0 (zD σ _) trivial (hk _ (ht.trans ⟨fun h=>h.1,fun h=>⟨h,fun x hx=>by simp at hx⟩⟩))
end Go.Proofs
namespace Go.Grp
end Go.Grp
namespace Go.Proofs
open Go.Ab Go.Lie Go.Grp
variable {σ h h':PHeap} {K:PV→PHeap→Prop} {O x y:List Int} {P:List (List Int)} {C:List (List (List Int))} {vO vP vC vx vL:PV} {L:List (List Int)} {D R:List (Option (List Int))} {rb rr:List PV} {d n sT:Nat}
def DRf (n:Nat) (c:PV) (r:Option (List Int)):Prop:=(c=.fz true .nils 0 []∧r=none)∨∃w a y,c=.fz w a n (pis y)∧y.length=n∧r=some y
theorem DRf.bel {c:PV} {r:Option (List Int)} (h:DRf n c r):Bel 0 c:=by
 rcases h with ⟨rfl,_⟩|⟨w,a,y,rfl,_⟩
 ·trivial
 ·rename_i e2;obtain⟨hl,_⟩:=e2;subst hl;exact FI.bel ⟨w,a,rfl⟩ 0
theorem DRf.bels (h:All2 (DRf n) rb D) (m:Nat):Bels m rb:=by
 refine QM.2 fun c hc=>?_
 obtain⟨k,hk,rfl⟩:=List.mem_iff_getElem.1 hc;exact(DRf.bel (h.2 k _ _ (List.getElem?_eq_getElem hk) (List.getElem?_eq_getElem (by rw [←h.1];exact hk)))).up (Nat.zero_le _)
theorem DRf.get (h:All2 (DRf n) rb D) {d:Nat} (hd:d<D.length):(rb[d]? = some (.fz true .nils 0 [])∧D[d]? = some none)∨∃w a y,rb[d]? = some (.fz w a n (pis y))∧y.length=n∧D[d]? = some (some y):=by
 have hb:d<rb.length:=by rw [h.1];exact hd
 rw [List.getElem?_eq_getElem hb,List.getElem?_eq_getElem hd];rcases h.2 d _ _ (List.getElem?_eq_getElem hb) (List.getElem?_eq_getElem hd)with ⟨e1,e2⟩|⟨w,a,y,e1,e3,e2⟩
 ·exact .inl ⟨by rw [e1],by rw [e2]⟩
 ·exact .inr ⟨w,a,y,by rw [e1],e3,by rw [e2]⟩
theorem DRf.put (h:All2 (DRf n) rb D) {v:PV} (hv:FI v y) (hy:y.length=n):All2 (DRf n) (rb.set d v) (D.set d (some y)):=by
 obtain⟨w,a,rfl⟩:=hv;refine⟨by rw [List.length_set,List.length_set];exact h.1,fun k c r hc hr=>?_⟩
 rw [List.getElem?_set]at hc hr
 by_cases e:d=k
 ·rw [if_pos e]at hc hr
  split at hc
  ·split at hr
   ·cases hc;cases hr;exact .inr ⟨w,a,y,by rw [hy],hy,rfl⟩
   ·cases hr
  ·cases hc
 ·rw [if_neg e]at hc hr
  exact h.2 k c r hc hr
theorem DRf.start (n m:Nat):All2 (DRf n) (List.replicate m (.fz true .nils 0 [])) (List.replicate m none):=by
 refine⟨by simp,fun k c r hc hr=>?_⟩
 rw [List.getElem?_replicate]at hc hr
 split at hc
 ·rename_i h
  rw [if_pos h]at hr
  cases hc;cases hr;exact .inl ⟨rfl,rfl⟩
 ·cases hc
theorem zGh (g:LG O P C) (hR:IsPr vO vP vC O P C) (hT:σ.obj sT=some rb) (hTl:sT<σ.next) (hD:OkD O D) (hrb:All2 (DRf O.length) rb D) (hx:gS O x) (hvx:FI vx x)
  (hk:∀v z,FI v z→gS O z→(dep z<O.length→D[dep z]? = some none)→Rdu O P C D x z→K (.tup [.int .i64 (dep z),v]) σ):zA Try.prog 85 [.agg [vO,vP,vC],.sl sT 0 O.length (.known O.length),vx] σ K:=by
 have h0:=hR.O.one;have h1:=hR.P.one;have h2:=hR.C.one;have s:=g.s;have F:=g.F;have G:=F.g;have hn6:=s.le;have hxl:=hx.len;refine zA.gh ?_;have hne:¬sT=σ.next:=Nat.ne_of_lt hTl;refine zB mix Try.func85 ?_
 conv=>arg 2;cbv
 refine zC rfl ?_;simp only [pwA,seval,-iQ0,h0,h1,h2];refine ownFI hvx (by omega) fun v0 hv0=>?_
 simp only [pwA,seval,-iQ0];refine zF (fun m vs h'=>∃(d:Nat) (z:List Int) (v:PV),d≤O.length∧m=O.length-d∧vs=[.sl sT 0 O.length (.known O.length),.ptr σ.next 0,v,.int .i64 d]∧σ.new [vO,vP,vC]=h'∧TT O d z∧FI v z∧Rdu O P C D x z) O.length ⟨0,x,v0,by omega,by omega,rfl,rfl,hx,hv0,.refl _⟩ ?_
 rintro m vs h' ⟨d,z,v,hd,rfl,rfl,rfl,hz,hv,hr⟩
 have hzS:gS O z:=hz.mono (Nat.zero_le _);have hzl:=hz.len;simp only [pwA,seval,-iQ0];refine iteI (fun hlt=>?_) fun hge=>?_
 rotate_left
 ·have hde:d=O.length:=by omega
  subst hde;have hz0:z=zv O:=hz.ext (s.zv _) fun j h1 h2=>by omega
  have hdz:dep z=O.length:=by rw [hz0];exact zIN s
  exact Gh.fin0 (zD σ _) ⟨trivial,hv.bel _,trivial⟩ (by rw [←hdz];exact hk v z hv hzS (fun h=>by omega) hr)
 have hlt':d<O.length:=by omega
 have hdz:d<z.length:=by omega
 obtain⟨wz,az,rfl⟩:=hv;have hvz:FI (.fz wz az z.length (pis z)) z:=⟨wz,az,rfl⟩;have w1:IntKind.i64.wrap ((d:Int)+1)=((d+1:Nat):Int):=by rw [wrap64 (by omega) (by omega)];omega
 have bz:=hzS.bd d hlt';have bO:=s.pr d hlt'
 by_cases hz0:at_ z d=0
 ·simp only [pwA,seval,-iQ0,hdz,pisAt hdz,hz0,w1]
  refine⟨_,by omega,d+1,z,_,by omega,rfl,rfl,⟨hz.len,hz.bd,fun j hj=>?_⟩,hvz,hr⟩
  rcases Nat.lt_or_ge j d with h|h
  ·exact hz.zero j h
  ·rw [show j=d by omega];exact hz0
 have hrd:=qW hT d;rcases DRf.get hrb (d:=d) (by rw [hD.len];exact hlt')with ⟨e1,e2⟩|⟨w,a,y,e1,e3,e2⟩
 ·rw [e1]at hrd
  have hdp:dep z=d:=zFt (fun j hj=>hz.zero j hj) hz0
  simp only [pwA,seval,-iQ0,hdz,pisAt hdz,hz0,hlt',hne,hrd];exact Gh.fin0 (zD σ _) ⟨trivial,hvz.bel _,trivial⟩ (by rw [←hdp];exact hk _ z hvz hzS (fun _=>by rw [hdp];exact e2) hr)
 ·rw [e1]at hrd
  obtain⟨y1,y2⟩:=hD.row _ _ e2;have yS:gS O y:=y1.mono (Nat.zero_le _);have hnn:¬((O.length:Int)=0):=by omega
  have hneg:IntKind.i64.wrap (0-at_ z d)=-at_ z d:=by rw [wrap64 (by omega) (by omega)];omega
  simp only [pwA,seval,-iQ0,hdz,pisAt hdz,hz0,hlt',hne,hrd,hnn,h0,h1,h2,hneg];refine zBa g hR yS ⟨w,a,by rw [e3]⟩ (k:=-at_ z d) (by omega) fun v1 f1=>?_
  rw [Int.neg_neg]at f1
  obtain⟨q1,q2,q3,q4⟩:=zBK s F g.cent hlt' hzS y1 y2;have q5:TT O (d+1) (gm O P C z (Grp.pw (gm O P C) (zv O) (ginv (gS O) (gm O P C) (zv O) y) (at_ z d).toNat)):=⟨q1.len,q1.bd,fun j hj=>by
   rcases Nat.lt_or_ge j d with h|h
   ·rw [q3 j h];exact hz.zero j h
   ·rw [show j=d by omega];exact q4⟩
  have hr2:=hr.trans (Rdu.stepR s F g.cent hD e2 hlt' hz hz0 q1 q2 q5);simp only [pwA,seval,-iQ0,h0,h1,h2];refine Zx s hR hzS (G.pw (G.inv_in yS).1 _) hvz f1 fun v2 f2=>?_
  simp only [pwA,seval,-iQ0,w1];exact⟨_,by omega,d+1,_,v2,by omega,rfl,rfl,q5,f2,hr2⟩
structure FullI (O:List Int) (P:List (List Int)) (C:List (List (List Int))) (D R:List (Option (List Int))) (k:Nat):Prop where
 len:R.length=O.length
 dom:∀d,k≤d→d<O.length→((∃y,R[d]? = some (some y))↔∃y,D[d]? = some (some y))
 row:∀(d:Nat) (y:List Int),k≤d→R[d]? = some (some y)→TT O d y∧at_ y d=1
 red:∀(d e:Nat) (y z:List Int),k≤d→k≤e→d≠e→R[d]? = some (some y)→R[e]? = some (some z)→at_ y e=0
 iff:∀N,gB O P C N→((∀(d:Nat) (y:List Int),k≤d→R[d]? = some (some y)→N y)↔∀(d:Nat) (y:List Int),k≤d→D[d]? = some (some y)→N y)
theorem FullI.start (n:Nat) (hn:O.length=n) (hD:D.length=n):FullI O P C D (List.replicate n none) n:=by
 have no:∀{E:List (Option (List Int))} {d y},E.length=n→n≤d→E[d]? = some (some y)→False:=fun hE hd h=>by
  rw [List.getElem?_eq_none (by omega)]at h;cases h
 exact⟨by simp [hn],fun d h1 h2=>by omega,fun d y h1 h2=>(no (by simp) h1 h2).elim,fun d e y z h1 _ _ h2=>(no (by simp) h1 h2).elim,fun N _=>⟨fun _ d y h1 h2=>(no hD h1 h2).elim,fun _ d y h1 h2=>(no (by simp) h1 h2).elim⟩⟩
theorem FullI.skip {k:Nat} (f:FullI O P C D R (k+1)) (hk:k<O.length) (h1:D[k]? = some none) (h2:R[k]? = some none):FullI O P C D R k:=by
 have up:∀{d:Nat} {y:List Int},k≤d→(R[d]? = some (some y)∨D[d]? = some (some y))→k+1≤d:=fun {d y} hd h=>by
  rcases Nat.lt_or_ge k d with e|e
  ·exact e
  ·rw [show d=k by omega,h1,h2]at h
   rcases h with h|h<;>cases h
 refine⟨f.len,fun d a b=>?_,fun d y a b=>f.row d y (up a (.inl b)) b,fun d e y z a b c h h'=>f.red d e y z (up a (.inl h)) (up b (.inl h')) c h h',fun N hN=>?_⟩
 ·constructor
  ·rintro ⟨y,hy⟩;exact(f.dom d (up a (.inl hy)) b).1 ⟨y,hy⟩
  ·rintro ⟨y,hy⟩;exact(f.dom d (up a (.inr hy)) b).2 ⟨y,hy⟩
 ·constructor
  ·intro g d y a b
   exact(f.iff N hN).1 (fun d y a' b'=>g d y (by omega) b') d y (up a (.inr b)) b
  ·intro g d y a b
   exact(f.iff N hN).2 (fun d y a' b'=>g d y (by omega) b') d y (up a (.inl b)) b
theorem FullI.put {k:Nat} {x y:List Int} (f:FullI O P C D R (k+1)) (hk:k<O.length) (h1:D[k]? = some (some y)) (hx:TT O k x) (hx1:at_ x k=1) (hz:∀(e:Nat) (z:List Int),k<e→R[e]? = some (some z)→at_ x e=0)
  (hN:∀N,gB O P C N→(∀(d:Nat) (y:List Int),k+1≤d→R[d]? = some (some y)→N y)→(N y↔N x)):FullI O P C D (R.set k (some x)) k:=by
 have hl:k<R.length:=by rw [f.len];exact hk
 have ge:∀{d:Nat} {w:List Int},(R.set k (some x))[d]? = some (some w)→(d=k∧w=x)∨(d≠k∧R[d]? = some (some w)):=fun {d w} h=>by
  rw [List.getElem?_set]at h
  split at h
  ·rename_i e
   cases h;exact .inl ⟨e.symm,rfl⟩
  ·rename_i e;exact .inr ⟨fun h=>e h.symm,h⟩
 have at_k:(R.set k (some x))[k]? = some (some x):=by rw [List.getElem?_set,if_pos rfl,if_pos hl]
 have at_n:∀{d:Nat} {w:List Int},d≠k→R[d]? = some (some w)→(R.set k (some x))[d]? = some (some w):=fun {d w} h e=>by rw [List.getElem?_set,if_neg (fun h'=>h h'.symm)];exact e
 refine⟨by rw [List.length_set];exact f.len,fun d a b=>?_,fun d w a b=>?_,fun d e w z a b c h h'=>?_,fun N hN'=>?_⟩
 ·by_cases e:d=k
  ·subst e;exact⟨fun _=>⟨y,h1⟩,fun _=>⟨x,at_k⟩⟩
  ·constructor
   ·rintro ⟨w,hw⟩
    rcases ge hw with ⟨e',_⟩|⟨_,hw⟩
    ·exact absurd e' e
    ·exact(f.dom d (by omega) b).1 ⟨w,hw⟩
   ·rintro ⟨w,hw⟩
    obtain⟨z,hz'⟩:=(f.dom d (by omega) b).2 ⟨w,hw⟩
    exact⟨z,at_n e hz'⟩
 ·rcases ge b with ⟨rfl,rfl⟩ | ⟨e,hw⟩
  ·exact⟨hx,hx1⟩
  ·exact f.row d w (by omega) hw
 ·rcases ge h with ⟨e1,e2⟩ | ⟨e1,hw⟩
  ·rcases ge h' with ⟨e3,_⟩ | ⟨e3,hz'⟩
   ·omega
   ·rw [e2];exact hz e z (by omega) hz'
  ·rcases ge h' with ⟨e3,e4⟩ | ⟨e3,hz'⟩
   ·have:=(f.row d w (by omega) hw).1.zero
    rw [e3];exact this k (by omega)
   ·exact f.red d e w z (by omega) (by omega) c hw hz'
 ·have key:((∀(d:Nat) (w:List Int),k≤d→(R.set k (some x))[d]? = some (some w)→N w)↔(N x∧∀(d:Nat) (w:List Int),k+1≤d→R[d]? = some (some w)→N w)):=by
   constructor
   ·intro h
    exact⟨h k x (Nat.le_refl _) at_k,fun d w a b=>h d w (by omega) (at_n (by omega) b)⟩
   ·rintro ⟨h2,h3⟩ d w a b
    rcases ge b with ⟨_,rfl⟩|⟨e,hw⟩
    ·exact h2
    ·exact h3 d w (by omega) hw
  have key2:((∀(d:Nat) (w:List Int),k≤d→D[d]? = some (some w)→N w)↔(N y∧∀(d:Nat) (w:List Int),k+1≤d→D[d]? = some (some w)→N w)):=by
   constructor
   ·intro h
    exact⟨h k y (Nat.le_refl _) h1,fun d w a b=>h d w (by omega) b⟩
   ·rintro ⟨h2,h3⟩ d w a b
    by_cases e:d=k
    ·subst e;rw [h1]at b;cases b;exact h2
    ·exact h3 d w (by omega) b
  rw [key,key2,←f.iff N hN'];constructor
  ·rintro ⟨a,b⟩;exact⟨(hN N hN' b).2 a,b⟩
  ·rintro ⟨a,b⟩;exact⟨(hN N hN' b).1 a,b⟩
end Go.Proofs
namespace Go.Grp
end Go.Grp
namespace Go.Proofs
open Go.Ab Go.Lie Go.Grp
variable {σ h h':PHeap} {K:PV→PHeap→Prop} {O x y:List Int} {P:List (List Int)} {C:List (List (List Int))} {vO vP vC vx vL:PV} {L:List (List Int)} {D R:List (Option (List Int))} {rb rr:List PV} {d n sT:Nat}
def rowsD (R:List (Option (List Int))) (k:Nat):List (List Int):=(R.take k).filterMap id
theorem zBQ {k:Nat} (h:R[k]? = some none):rowsD R (k+1)=rowsD R k:=by
 unfold rowsD;have hl:k<R.length:=by
  rcases Nat.lt_or_ge k R.length with e|e
  ·exact e
  ·rw [List.getElem?_eq_none e]at h;cases h
 rw [List.getElem?_eq_getElem hl]at h
 rw [List.take_succ_eq_append_getElem hl,List.filterMap_append,Option.some.inj h]
 simp
theorem zBP {k:Nat} (h:R[k]? = some (some y)):rowsD R (k+1)=rowsD R k++[y]:=by
 unfold rowsD;have hl:k<R.length:=by
  rcases Nat.lt_or_ge k R.length with e|e
  ·exact e
  ·rw [List.getElem?_eq_none e]at h;cases h
 rw [List.getElem?_eq_getElem hl]at h
 rw [List.take_succ_eq_append_getElem hl,List.filterMap_append,Option.some.inj h]
 simp
theorem zER (k:Nat):(rowsD R k).length≤k:=by
 unfold rowsD;refine Nat.le_trans (List.length_filterMap_le _ _) ?_;rw [List.length_take];omega
theorem Q0 {v:List Int} {k:Nat}:v∈rowsD R k↔∃d,d<k∧R[d]? = some (some v):=by
 unfold rowsD;rw [List.mem_filterMap];constructor
 ·rintro ⟨o,ho,rfl⟩
  obtain⟨d,hd,e⟩:=List.mem_iff_getElem.1 ho;rw [List.length_take]at hd
  refine⟨d,by omega,?_⟩
  rw [List.getElem_take]at e
  rw [List.getElem?_eq_getElem (by omega),e]
 ·rintro ⟨d,hd,e⟩
  have hl:d<R.length:=by
   rcases Nat.lt_or_ge d R.length with e' | e'
   ·exact e'
   ·rw [List.getElem?_eq_none e']at e;cases e
  refine⟨some v,?_,rfl⟩;rw [List.mem_take_iff_getElem];rw [List.getElem?_eq_getElem hl]at e
  exact⟨d,by omega,Option.some.inj e⟩
theorem zCQ (hy:TT O d y) (h1:at_ y d=1):dep y=d:=zFt (fun j hj=>hy.zero j hj) (by rw [h1];decide)
theorem zIZ (f:FullI O P C D R 0) (hD:OkD O D):CanD O P C D (rowsD R O.length):=by
 have hR:∀{d:Nat} {y:List Int},R[d]? = some (some y)→d<O.length:=fun {d y} h=>by
  rw [←f.len];rcases Nat.lt_or_ge d R.length with e|e
  ·exact e
  ·rw [List.getElem?_eq_none e]at h;cases h
 have get:∀{v:List Int},v∈rowsD R O.length→∃d,d<O.length∧R[d]? = some (some v)∧TT O d v∧at_ v d=1∧dep v=d:=fun {v} hv=>by
  obtain⟨d,hd,e⟩:=Q0.1 hv;obtain⟨h1,h2⟩:=f.row d v (Nat.zero_le _) e;exact⟨d,hd,e,h1,h2,zCQ h1 h2⟩
 refine⟨fun v hv=>?_,?_,fun v hv w hw hne=>?_,fun d y hy=>?_,zER _,fun N hN=>?_⟩
 ·obtain⟨d,hd,e,h1,h2,h3⟩:=get hv
  exact⟨h1.mono (Nat.zero_le _),by omega,by rw [h3];exact h2⟩
 ·have:∀k,k≤O.length→(rowsD R k).Pairwise fun a b=>dep a<dep b:=by
   intro k
   induction k with
   | zero=>intro _;simp [rowsD]
   | succ k ih=>
    intro hk;have hl:k<R.length:=by rw [f.len];omega
    rcases hc:R[k]? with _|_|y
    ·rw [List.getElem?_eq_getElem hl]at hc;cases hc
    ·rw [zBQ hc];exact ih (by omega)
    ·rw [zBP hc,List.pairwise_append]
     obtain⟨h1,h2⟩:=f.row k y (Nat.zero_le _) hc;refine⟨ih (by omega),by simp,fun a ha b hb=>?_⟩
     rw [List.mem_singleton.1 hb,zCQ h1 h2];obtain⟨d,hd,e⟩:=Q0.1 ha;obtain⟨h3,h4⟩:=f.row d a (Nat.zero_le _) e
     have:=zCQ h3 h4;omega
  exact this _ (Nat.le_refl _)
 ·obtain⟨d,hd,e,h1,h2,h3⟩:=get hv
  obtain⟨d',hd',e',h1',h2',h3'⟩:=get hw;rw [h3'];exact f.red d d' v w (Nat.zero_le _) (Nat.zero_le _) (by omega) e e'
 ·have hd:d<O.length:=by
   rw [←hD.len];rcases Nat.lt_or_ge d D.length with e|e
   ·exact e
   ·rw [List.getElem?_eq_none e]at hy;cases hy
  obtain⟨z,hz⟩:=(f.dom d (Nat.zero_le _) hd).2 ⟨y,hy⟩;obtain⟨h1,h2⟩:=f.row d z (Nat.zero_le _) hz;exact⟨z,Q0.2 ⟨d,hd,hz⟩,zCQ h1 h2⟩
 ·constructor
  ·intro h
   exact fun d y hy=>(f.iff N hN).1 (fun d y _ hy=>h y (Q0.2 ⟨d,hR hy,hy⟩)) d y (Nat.zero_le _) hy
  ·intro h v hv
   obtain⟨d,hd,e⟩:=Q0.1 hv;exact(f.iff N hN).2 (fun d y _ hy=>h d y hy) d v (Nat.zero_le _) e
theorem zHr (g:LG O P C) (hR:IsPr vO vP vC O P C) (hT:σ.obj sT=some rb) (hTl:sT<σ.next) (hD:OkD O D) (hrb:All2 (DRf O.length) rb D)
  (hk:∀v u,FII v u→CanD O P C D u→K v σ):zA Try.prog 89 [.agg [vO,vP,vC],.sl sT 0 O.length (.known O.length)] σ K:=by
 have h0:=hR.O.one;have h1:=hR.P.one;have h2:=hR.C.one;have s:=g.s;have F:=g.F;have G:=F.g;have hn6:=s.le;refine zA.gh ?_;have hne:¬sT=σ.next:=Nat.ne_of_lt hTl;have hw0:IntKind.i64.wrap ((O.length:Int)-1)=(O.length:Int)-1:=wrap64 (by omega) (by omega)
 refine zB mix Try.func89 ?_
 conv=>arg 2;cbv
 refine zC rfl ?_;simp only [pwA,seval,-iQ0,h0,h1,h2,mk24 (n:=O.length) (by omega),mkL (n:=O.length) (by omega),hw0]
 have hb1:(σ.new [vO,vP,vC]).rd σ.next 0 3=some [vO,vP,vC]:=by simp only [pwA,seval,-iQ0]
 have hTp:(σ.new [vO,vP,vC]).obj sT=some rb:=by simp only [pwA,seval,-iQ0,hne];exact hT
 have hpn:(σ.new [vO,vP,vC]).next=σ.next+1:=rfl;have kp:Keep σ (σ.new [vO,vP,vC]):=zD σ _;generalize σ.new [vO,vP,vC]=T at *
 rw [←hpn];have hbel:Bel T.next vO∧Bel T.next vP∧Bel T.next vC:=⟨hR.O.bel _,hR.P.bel _,hR.C.bel _⟩;refine zF (fun m vs h'=>∃(k:Nat) (R:List (Option (List Int))) (rr:List PV),m=k∧k≤O.length∧vs=[.sl sT 0 O.length (.known O.length),.ptr σ.next 0,.sl T.next 0 O.length (.known O.length),.int .i64 ((k:Int)-1)]∧h'=T.new rr∧All2 (DRf O.length) rr R∧FullI O P C D R k∧(∀d,d<k→R[d]? = some none)) O.length ?_ ?_
 ·exact⟨O.length,List.replicate O.length none,_,rfl,Nat.le_refl _,rfl,rfl,DRf.start _ _,FullI.start _ rfl hD.len,fun d hd=>by rw [List.getElem?_replicate,if_pos hd]⟩
 rintro m vs h' ⟨k,R,rr,rfl,hkn,rfl,rfl,hrr,hf,hfree⟩
 have hobR:(T.new rr).obj T.next=some rr:=by rw [qf,if_pos rfl]
 have hobT:(T.new rr).obj sT=some rb:=by rw [qf,if_neg (by omega)];exact hTp
 have hld:(T.new rr).rd σ.next 0 3=some [vO,vP,vC]:=by rw [Qo,if_neg (by omega)];exact hb1
 have hlr:rr.length=O.length:=by rw [hrr.1];exact hf.len
 rcases Nat.eq_zero_or_pos m with rfl|hmp
 ·simp only [pwA,seval,-iQ0,show ¬((0:Int)≤((0:Nat):Int)-1) by omega]
  refine zF (fun m vs h'=>∃(i:Nat) (v:PV) (cs:List PV),i≤O.length∧m=O.length-i∧vs=[.sl T.next 0 O.length (.known O.length),v,.int .i64 i]∧Keep (T.new rr) h'∧PSl (T.new rr).next 1 h' v (rowsD R i).length cs∧All2 FI cs (rowsD R i)) O.length ?_ ?_
  ·exact⟨0,_,[],by omega,by omega,rfl,zD _ _,PSl.new (h:=T.new rr) (cs:=[]) (T.next+1) 1 rfl (Nat.le_refl _),All2.nil _⟩
  rintro m vs h' ⟨i,v,cs,hi,rfl,rfl,kk,ps,hall⟩
  have hrl:=zER (R:=R) i;have hrd:=qW (h:=h') (by rw [kk.obj _ (by show T.next<T.next+1;omega)];exact hobR) i
  simp only [pwA,seval,-iQ0];refine iteI (fun hlt=>?_) fun hge=>?_
  rotate_left
  ·have hie:i=O.length:=by omega
   subst hie;have hcd:=zIZ hf hD;have kk2:=kk.keepOf2 kp;have hn1:σ.next≤(T.new rr).next:=by show σ.next≤T.next+1;omega
   have ps2:PSl σ.next 1 h' v (rowsD R O.length).length cs:=by
    obtain⟨s1,cap1,a1,a2,a3,a4,a5,a6⟩:=ps;exact⟨s1,cap1,a1,a2,a3,a4,by omega,a6⟩
   exact ps2.fin kk2 (hall.bI 0) fun o cap=>hk _ _ ⟨_,_,_,rfl,hall⟩ hcd
  have hlt':i<O.length:=by omega
  rcases DRf.get hrr (d:=i) (by rw [hf.len];exact hlt')with ⟨e1,e2⟩|⟨w,a,y,e1,e3,e2⟩
  ·rw [e1]at hrd
   simp only [pwA,seval,-iQ0,hlt',hrd,wrapS hlt' (by omega:O.length≤4611686018427387904)]
   exact⟨_,by omega,i+1,v,cs,by omega,rfl,rfl,kk,by rw [zBQ e2];exact ps,by rw [zBQ e2];exact hall⟩
  ·rw [e1]at hrd
   have hpos:(0:Int)<(O.length:Int):=by omega
   simp only [pwA,seval,-iQ0,hlt',hrd,hpos];refine PSl.push (bytes:=24) (σb:=T.new rr) kk ps (by omega) (by omega) fun v2 h2 k2 a2=>?_
   simp only [pwA,seval,-iQ0,wrapS hlt' (by omega:O.length≤4611686018427387904)]
   refine⟨_,by omega,i+1,v2,cs++[.fz w a O.length (pis y)],by omega,rfl,rfl,k2,?_,?_⟩
   ·rw [zBP e2,List.length_append];exact a2
   ·rw [zBP e2];exact hall.snoc ⟨w,a,by rw [e3]⟩
 obtain⟨k,rfl⟩:∃k,m=k+1:=⟨m-1,by omega⟩
 have e:((k+1:Nat):Int)-1=(k:Int):=by omega
 have hkn':k<O.length:=hkn;rw [e];have hrdT:=qW hobT k;have hrdR:=qW hobR k;have hw2:IntKind.i64.wrap ((k:Int)-1)=(k:Int)-1:=wrap64 (by omega) (by omega)
 rcases DRf.get hrb (d:=k) (by rw [hD.len];exact hkn')with ⟨e1,e2⟩|⟨w,a,y,e1,e3,e2⟩
 ·rw [e1]at hrdT
  simp only [pwA,seval,-iQ0,hkn',hrdT,hw2];exact⟨k,Nat.lt_succ_self k,k,R,rr,rfl,by omega,rfl,rfl,hrr,hf.skip hkn' e2 (hfree k (Nat.lt_succ_self k)),fun d hd=>hfree d (by omega)⟩
 rw [e1]at hrdT
 obtain⟨y1,y2⟩:=hD.row _ _ e2;have yS:gS O y:=y1.mono (Nat.zero_le _);have hnn:¬((O.length:Int)=0):=by omega
 have w1:IntKind.i64.wrap ((k:Int)+1)=((k+1:Nat):Int):=by rw [wrap64 (by omega) (by omega)];omega
 simp only [pwA,seval,-iQ0,hkn',hrdT,hnn,w1];refine zF (fun m vs h'=>∃(e:Nat) (x:List Int) (v:PV),k+1≤e∧e≤O.length∧m=O.length-e∧vs=[.sl sT 0 O.length (.known O.length),.ptr σ.next 0,.sl T.next 0 O.length (.known O.length),.int .i64 k,v,.int .i64 e]∧h'=T.new rr∧FI v x∧TT O k x∧at_ x k=1∧(∀(j:Nat) (z:List Int),k<j→j<e→R[j]? = some (some z)→at_ x j=0)∧(∀N,gB O P C N→(∀(d:Nat) (y:List Int),k+1≤d→R[d]? = some (some y)→N y)→(N y↔N x))) (O.length-(k+1)) ?_ ?_
 ·exact⟨k+1,y,.fz w a O.length (pis y),Nat.le_refl _,hkn,by omega,rfl,rfl,⟨w,a,by rw [e3]⟩,y1,y2,fun j z h1 h2=>by omega,fun _ _ _=>Iff.rfl⟩
 rintro m vs h' ⟨e,x,v,hke,heO,rfl,rfl,rfl,hv,hx,hx1,hx0,hN⟩
 have xS:gS O x:=hx.mono (Nat.zero_le _);have hxl:=hx.len;obtain⟨wx,ax,rfl⟩:=hv;have hvx:FI (.fz wx ax x.length (pis x)) x:=⟨wx,ax,rfl⟩;simp only [pwA,seval,-iQ0];refine iteI (fun hlt=>?_) fun hge=>?_
 rotate_left
 ·have hee:e=O.length:=by omega
  subst hee;have hwr:=zDW hobR (i:=k) (v:=.fz wx ax x.length (pis x)) (by omega) hvx.one
  rw [hxl]at hwr hvx
  have hss:(T.new rr).set T.next (rr.set k (.fz wx ax O.length (pis x)))=T.new (rr.set k (.fz wx ax O.length (pis x))):=zIU T rr _;rw [hss]at hwr
  simp only [pwA,seval,-iQ0,hxl,hkn',hwr,hw2];refine⟨k,Nat.lt_succ_self k,k,R.set k (some x),rr.set k (.fz wx ax O.length (pis x)),rfl,by omega,rfl,rfl,DRf.put hrr (by rw [←hxl];exact⟨wx,ax,rfl⟩) hxl,hf.put hkn' e2 hx hx1 (fun j z h1 h2=>?_) hN,fun d hd=>?_⟩
  ·have hj:j<O.length:=by
    rw [←hf.len];rcases Nat.lt_or_ge j R.length with e|e
    ·exact e
    ·rw [List.getElem?_eq_none e]at h2;cases h2
   exact hx0 j z h1 hj h2
  ·rw [List.getElem?_set,if_neg (by omega)];exact hfree d (by omega)
 have hlt':e<O.length:=by omega
 have hrdE:=qW hobR e;have hex:e<x.length:=by omega
 have w2:IntKind.i64.wrap ((e:Int)+1)=((e+1:Nat):Int):=by rw [wrap64 (by omega) (by omega)];omega
 rcases DRf.get hrr (d:=e) (by rw [hf.len];exact hlt')with ⟨f1,f2⟩|⟨w',a',r,f1,f3,f2⟩
 ·rw [f1]at hrdE
  have natz:¬((0:Int)<((0:Nat):Int)):=by decide
  simp only [pwA,seval,-iQ0,hlt',hrdE,w2,natz,decide_false];refine⟨_,by omega,e+1,x,_,by omega,by omega,rfl,rfl,hvx,hx,hx1,fun j z h1 h2 h3=>?_,hN⟩
  rcases Nat.lt_or_ge j e with h|h
  ·exact hx0 j z h1 h h3
  ·rw [show j=e by omega,f2]at h3;cases h3
 rw [f1]at hrdE
 obtain⟨r1,r2⟩:=hf.row e r (by omega) f2
 have rS:gS O r:=r1.mono (Nat.zero_le _);have bx:=xS.bd e hlt';have bO:=s.pr e hlt';have hpos:(0:Int)<(O.length:Int):=by omega
 by_cases hz:at_ x e=0
 ·simp only [pwA,seval,-iQ0,hlt',hrdE,hpos,decide_true,hex,pisAt hex,hz,w2]
  refine⟨_,by omega,e+1,x,_,by omega,by omega,rfl,rfl,hvx,hx,hx1,fun j z h1 h2 h3=>?_,hN⟩
  rcases Nat.lt_or_ge j e with h|h
  ·exact hx0 j z h1 h h3
  ·rw [show j=e by omega];exact hz
 have hneg:IntKind.i64.wrap (0-at_ x e)=-at_ x e:=by rw [wrap64 (by omega) (by omega)];omega
 obtain⟨q1,q2,q3,q4⟩:=zBK s F g.cent hlt' xS r1 r2;simp only [pwA,seval,-iQ0,hlt',hrdE,hpos,decide_true,hex,pisAt hex,hz,hld,hneg];refine zBa g hR rS ⟨w',a',by rw [f3]⟩ (k:=-at_ x e) (by omega) fun v1 g1=>?_
 rw [Int.neg_neg]at g1
 simp only [pwA,seval,-iQ0,hld];refine Zx s hR xS (G.pw (G.inv_in rS).1 _) hvx g1 fun v2 g2=>?_
 simp only [pwA,seval,-iQ0,w2];generalize gm O P C x (Grp.pw (gm O P C) (zv O) (ginv (gS O) (gm O P C) (zv O) r) (at_ x e).toNat)=x' at *
 refine⟨_,by omega,e+1,x',v2,by omega,by omega,rfl,rfl,g2,⟨q1.len,q1.bd,fun j hj=>by rw [q3 j (by omega)];exact hx.zero j hj⟩,by rw [q3 k (by omega)];exact hx1,fun j z h1 h2 h3=>?_,fun N hN1 hN2=>(hN N hN1 hN2).trans ?_⟩
 ·rcases Nat.lt_or_ge j e with h | h
  ·rw [q3 j h];exact hx0 j z h1 h h3
  ·rw [show j=e by omega];exact q4
 ·have hr:=hN2 e r (by omega) f2
  have hp:=hN1.pw hr (at_ x e).toNat;constructor
  ·intro h;rw [←q2]at h;exact hN1.quotR G hp q1 h
  ·intro h;rw [←q2];exact hN1.cl h hp
end Go.Proofs
namespace Go.Grp
end Go.Grp
namespace Go.Proofs
open Go.Ab Go.Lie Go.Grp
variable {σ h h':PHeap} {K:PV→PHeap→Prop} {O x y:List Int} {P:List (List Int)} {C:List (List (List Int))} {vO vP vC vx vL:PV} {L:List (List Int)} {D R:List (Option (List Int))} {rb rr:List PV} {d n sT:Nat}
theorem All2.unsnoc {α β:Type} {R:α→β→Prop} {us:List α} {bs:List β} {b:β} (h:All2 R us (bs++[b])):∃us' a,us=us'++[a]∧All2 R us' bs∧R a b:=by
 have hl:=h.1;rw [List.length_append,List.length_singleton]at hl
 have hne:us≠[]:=fun e=>by rw [e]at hl;simp at hl
 refine⟨us.dropLast,us.getLast hne,(List.dropLast_concat_getLast hne).symm,⟨by rw [List.length_dropLast];omega,fun k c r hc hr=>?_⟩,?_⟩
 ·have hk:k<us.dropLast.length:=by
   rcases Nat.lt_or_ge k us.dropLast.length with e|e
   ·exact e
   ·rw [List.getElem?_eq_none e]at hc;cases hc
  rw [List.length_dropLast]at hk
  refine h.2 k c r ?_ ?_
  ·rw [List.getElem?_eq_getElem (by rw [List.length_dropLast];exact hk),List.getElem_dropLast]at hc
   rw [List.getElem?_eq_getElem (by omega)];exact hc
  ·rw [List.getElem?_append_left (by omega)];exact hr
 ·refine h.2 bs.length _ _ ?_ ?_
  ·rw [List.getLast_eq_getElem,List.getElem?_eq_getElem (by omega)]
   congr 2;omega
  ·rw [List.getElem?_append_right (Nat.le_refl _),Nat.sub_self];rfl
theorem zJO {α:Type} (Q:List α):Q=[]∨∃Q' x,Q=Q'++[x]:=by
 rcases Q.eq_nil_or_concat with h|⟨l,b,h⟩
 ·exact .inl h
 ·exact .inr ⟨l,b,by rw [h,List.concat_eq_append]⟩
theorem zGj (g:LG O P C) (hR:IsPr vO vP vC O P C) (hL:FII vL L) (sz:SzL L) (hg:∀x∈L,gS O x)
  (hk:∀v u,FII v u→CanG O (GC O P C L) u→K v σ):zA Try.prog 56 [.agg [vO,vP,vC],vL] σ K:=by
 have h0:=hR.O.one;have h1:=hR.P.one;have h2:=hR.C.one;have s:=g.s;have F:=g.F;have G:=F.g;have hC:=g.cent;have hn6:=s.le;have hp:=ZF.isp g.pr;have hLl:=sz.l;have hR0:=hR;obtain⟨⟨w0,a0,rfl⟩,hRP,hRC⟩:=hR;refine zA.gh ?_;refine zB mix Try.func56 ?_
 conv=>arg 2;cbv
 refine zC rfl ?_;simp only [pwA,seval,-iQ0,h1,h2,mk24 (n:=O.length) (by omega),mkL (n:=O.length) (by omega),hL.sb]
 have hbo:(σ.new [.fz w0 a0 O.length (pis O),vP,vC]).obj σ.next=some [.fz w0 a0 O.length (pis O),vP,vC]:=by simp only [pwA,seval,-iQ0]
 have hpn:(σ.new [.fz w0 a0 O.length (pis O),vP,vC]).next=σ.next+1:=rfl;have kp:Keep σ (σ.new [.fz w0 a0 O.length (pis O),vP,vC]):=zD σ _;generalize σ.new [.fz w0 a0 O.length (pis O),vP,vC]=T at *
 rw [←hpn];refine zJU hL sz fun vQ h1' rq kq pq hrq=>?_
 simp only [pwA,seval,-iQ0];have kself:∀{rb:List PV} {h:PHeap},Keep (T.new rb) h→h.rd σ.next 0 3=some [.fz w0 a0 O.length (pis O),vP,vC]∧h.rd1 σ.next 0=some (.fz w0 a0 O.length (pis O))∧h.obj T.next=some rb∧T.next<h.next:=fun {rb h} k=>by
  have e1:∀t,t<T.next→h.obj t=T.obj t:=fun t ht=>by rw [k.obj t (by show t<T.next+1;omega),qf,if_neg (by omega)]
  have e2:=e1 σ.next (by omega)
  rw [hbo]at e2
  refine⟨by rw [QC e2];rfl,by rw [qW e2];rfl,?_,k.next⟩
  ·rw [k.obj T.next (Nat.lt_succ_self _),qf,if_pos rfl]
 have kset:∀{rb rb':List PV} {h:PHeap},Keep (T.new rb) h→Keep (T.new rb') (h.set T.next rb'):=fun {rb rb' h} k=>⟨k.next,k.top,fun t ht=>by
  rw [ZC]
  split
  ·rename_i e;rw [e,qf,if_pos rfl]
  ·rename_i e
   rw [k.obj t ht,qf,qf,if_neg e,if_neg e]⟩
 refine zF (fun m vs h'=>∃(D:List (Option (List Int))) (rb:List PV) (Q:List (List Int)) (vQ:PV) (rq:List PV),m=10*free D+Q.length∧vs=[.ptr σ.next 0,.int .i64 O.length,.sl T.next 0 O.length (.known O.length),vQ]∧Keep (T.new rb) h'∧PT (T.next+1) h' vQ Q.length rq∧All2 FI rq Q∧(∀x∈Q,gS O x)∧All2 (DRf O.length) rb D∧OkD O D∧QI O P C D Q∧(∀N,gB O P C N→((InD N D∧∀q∈Q,N q)↔∀q∈L,N q))∧Q.length+10*free D≤L.length+10*O.length) (10*free (List.replicate O.length none)+L.length) ?_ ?_
 ·refine⟨List.replicate O.length none,_,L,vQ,rq,rfl,rfl,kq,pq,hrq,hg,DRf.start _ _,OkD.start _ rfl,QI.start _,fun N _=>⟨fun h=>h.2,fun h=>⟨InD.start _,h⟩⟩,?_⟩
  have:=zCX (List.replicate O.length none)
  rw [List.length_replicate]at this
  omega
 clear kq pq hrq vQ rq h1'
 rintro m vs h' ⟨D,rb,Q,vQ,rq,rfl,rfl,kk,pq,hrq,hgQ,hrb,hD,hQI,hS,hbd⟩
 obtain⟨l3,l1,lT,lTn⟩:=kself kk;have hlen:=pq.pLen;have hf6:=zCX D;rw [hD.len]at hf6
 rcases zJO Q with rfl|⟨Q,x,rfl⟩
 ·have natz:¬((0:Int)<((0:Nat):Int)):=by decide
  simp only [List.length_nil]at hlen
  simp only [pwA,seval,-iQ0,hlen,natz,l3];refine zHr g hR0 lT lTn hD hrb fun v u hv hcd=>?_
  simp only [pwA,seval,-iQ0];exact Gh.fin0 (kk.keepOf2 kp) (hv.bel _) (hk v u hv (hcd.can s F hC hD hQI fun N hN=>⟨fun h=>(hS N hN).1 ⟨h,fun q hq=>(by cases hq)⟩,fun h=>((hS N hN).2 h).1⟩))
 have hll:(Q++[x]).length=Q.length+1:=by simp
 rw [hll]at pq hlen hbd
 obtain⟨rq',c,rfl,hrq',hc⟩:=All2.unsnoc hrq;obtain⟨sq,off,cap,vQ',rfl,hrd,hsl,pq'⟩:=pq.unsnoc;have hx:=hgQ x (by simp)
 have hgQ':∀q∈Q,gS O q:=fun q hq=>hgQ q (by simp [hq])
 have hpos:(0:Int)<((Q.length+1:Nat):Int):=by omega
 have hsub:IntKind.i64.wrap (((Q.length+1:Nat):Int)-1)=(Q.length:Int):=by rw [wrap64 (by omega) (by omega)];omega
 have hQlt:Q.length<Q.length+1:=Nat.lt_succ_self _;rw [hll];simp only [pwA,seval,-iQ0,hlen,hpos,hsub,hQlt,hrd,hsl,l3];refine zGh g hR0 lT lTn hD hrb hx hc fun vz z fz gz hz1 hz2=>?_
 have hzl:=gz.len
 by_cases hd:dep z<O.length
 rotate_left
 ·have hdn:dep z=O.length:=by have:=zD0 z;omega
  have hz0:=zJs gz (by omega)
  simp only [pwA,seval,-iQ0,hdn];refine⟨_,?_,D,rb,Q,vQ',rq',rfl,rfl,kk,pq',hrq',hgQ',hrb,hD,(hQI.mem (Q':=x::Q) (fun q hq=>by
   rcases List.mem_append.1 hq with h|h
   ·exact List.mem_cons_of_mem _ h
   ·rw [List.mem_singleton.1 h];simp)).drop (by rw [←hz0];exact hz2),fun N hN=>?_,by omega⟩
  ·omega
  ·rw [←hS N hN]
   refine⟨fun⟨h1,h2⟩=>⟨h1,fun q hq=>?_⟩,fun⟨h1,h2⟩=>⟨h1,fun q hq=>h2 q (by simp [hq])⟩⟩
   rcases List.mem_append.1 hq with hq|hq
   ·exact h2 q hq
   ·rw [List.mem_singleton.1 hq,hz2.iff F hN h1,hz0];exact hN.one
 have hdz:dep z<z.length:=by omega
 have hOd:=hp _ (List.getElem_mem hd);have bO:=hOd.bd;have bz:=gz.bd _ hd;have nz:=zBF hdz;have eO:at_ O (dep z)=O[dep z]:=at_eq hd;rw [eO]at bz
 have hdn:((dep z:Int)=(O.length:Int))=False:=by simp;omega
 obtain⟨wz,az,rfl⟩:=fz;have fz:FI (.fz wz az z.length (pis z)) z:=⟨wz,az,rfl⟩;simp only [pwA,seval,-iQ0,hdn,l3,l1,hdz,pisAt hdz,hd,pisAt hd];refine zJW (p:=at_ O (dep z)) (by rw [eO];exact hOd) (by rw [eO];omega) fun q q1 q2 q3=>?_
 simp only [pwA,seval,-iQ0,hdn,l3,l1];refine zEZ g hR0 gz fz (k:=q) (by rw [eO]at q2;omega) fun vy fy=>?_
 obtain⟨y1,y2⟩:=zA4 s F hC hd (zIT gz) q.toNat;have hy1:at_ (Grp.pw (gm O P C) (zv O) z q.toNat) (dep z)=1:=by
  rw [y2,Int.toNat_of_nonneg (by omega),Int.mul_comm];exact q3
 have hNy:∀N,gB O P C N→N z→N (Grp.pw (gm O P C) (zv O) z q.toNat):=fun N hN h=>hN.pw h _
 generalize Grp.pw (gm O P C) (zv O) z q.toNat=y at *
 have yS:gS O y:=y1.mono (Nat.zero_le _);have hyl:=yS.len;obtain⟨wy,ay,rfl⟩:=fy;have fy:FI (.fz wy ay y.length (pis y)) y:=⟨wy,ay,rfl⟩;have hnone:D[dep z]? = some none:=hz1 hd;have hfree:=zFl (y:=y) hnone;have hdb:dep z<rb.length:=by rw [hrb.1,hD.len];exact hd
 have hwr:=zDW lT (i:=dep z) (v:=.fz wy ay y.length (pis y)) hdb fy.one;have kk2:=kset (rb':=rb.set (dep z) (.fz wy ay y.length (pis y))) kk;have hrb2:=DRf.put (d:=dep z) hrb fy hyl;have hD2:=hD.put hd y1 hy1;obtain⟨k3,k1,kT,kTn⟩:=kself kk2;have pq2:=pq'.set (t:=T.next) (Nat.lt_succ_self _) (rb.set (dep z) (.fz wy ay y.length (pis y)));have hnx:(h'.set T.next (rb.set (dep z) (.fz wy ay y.length (pis y)))).next=h'.next:=rfl;simp only [pwA,seval,-iQ0,hd,hwr];generalize h'.set T.next (rb.set (dep z) (.fz wy ay y.length (pis y)))=h2 at *
 rw [←hnx];refine PT.push (bytes:=24) (σb:=T.new (rb.set (dep z) (.fz wy ay y.length (pis y)))) fz.one kk2 pq2 (by omega) (by omega) fun v3 h3 kk3 pq3=>?_
 obtain⟨m3,m1,mT,mTn⟩:=kself kk3;simp only [pwA,seval,-iQ0,m3,m1,hd,pisAt hd];refine zEZ g hR0 yS fy (k:=at_ O (dep z)) (by rw [eO];omega) fun vo fo=>?_
 have gpo:gS O (Grp.pw (gm O P C) (zv O) y (at_ O (dep z)).toNat):=G.pw yS _;have fo1:=fo.one;have fo2:=fo.cells;simp only [pwA,seval,-iQ0,fo1,fo2,m3,m1,hd,pisAt hd];refine PT.push (bytes:=24) (σb:=T.new (rb.set (dep z) (.fz wy ay y.length (pis y)))) fo.one kk3 pq3 (by omega) (by omega) fun v4 h4 kk4 pq4=>?_
 have hrq4:All2 FI ((rq'++[.fz wz az z.length (pis z)])++[vo]) ((Q++[z])++[Grp.pw (gm O P C) (zv O) y (at_ O (dep z)).toNat]):=(hrq'.snoc fz).snoc fo;have hgQ2:∀q∈(Q++[z])++[Grp.pw (gm O P C) (zv O) y (at_ O (dep z)).toNat],gS O q:=fun q hq=>by
  rcases List.mem_append.1 hq with hq|hq
  ·rcases List.mem_append.1 hq with hq | hq
   ·exact hgQ' q hq
   ·rw [List.mem_singleton.1 hq];exact gz
  ·rw [List.mem_singleton.1 hq];exact gpo
 generalize hQ2:(Q++[z])++[Grp.pw (gm O P C) (zv O) y (at_ O (dep z)).toNat]=Q2 at *
 have hQ2l:Q2.length=Q.length+1+1:=by rw [←hQ2];simp
 have hmz:z∈Q2:=by rw [←hQ2];simp
 have hmQ:∀q∈Q,q∈Q2:=fun q hq=>by rw [←hQ2];simp [hq]
 have hmp:Grp.pw (gm O P C) (zv O) y (at_ O (dep z)).toNat∈Q2:=by rw [←hQ2];simp
 have hNQ2:∀N,gB O P C N→N y→((∀q∈Q2,N q)↔(∀q∈Q,N q)∧N z):=fun N hN hy=>by
  rw [←hQ2];refine⟨fun h=>⟨fun q hq=>h q (by simp [hq]),h z (by simp)⟩,fun⟨h3,h4⟩ q hq=>?_⟩
  rcases List.mem_append.1 hq with hq|hq
  ·rcases List.mem_append.1 hq with hq | hq
   ·exact h3 q hq
   ·rw [List.mem_singleton.1 hq];exact h4
  ·rw [List.mem_singleton.1 hq];exact hN.pw hy _
 generalize (rq'++[PV.fz wz az z.length (pis z)])++[vo]=rq2 at *
 rw [←hQ2l]at pq4
 simp only [pwA,seval,-iQ0];refine zF (fun m us h3=>∃(i:Nat) (vQ:PV) (E:List (List Int)) (re:List PV),i≤O.length∧m=O.length-i∧us=[.ptr σ.next 0,.int .i64 O.length,.sl T.next 0 O.length (.known O.length),vQ,.int .i64 (dep z),.fz wy ay y.length (pis y),.int .i64 i]∧Keep (T.new (rb.set (dep z) (.fz wy ay y.length (pis y)))) h3∧PT (T.next+1) h3 vQ (Q2++E).length re∧All2 FI re (Q2++E)∧(∀q∈E,gS O q)∧E.length≤i∧(∀(e:Nat) (b:List Int),e<i→D[e]? = some (some b)→gcom O P C y b∈E)∧∀N,gB O P C N→InD N D→N y→∀q∈E,N q) O.length ?_ ?_
 ·exact⟨0,v4,[],_,by omega,by omega,rfl,kk4,by rw [List.append_nil];exact pq4,by rw [List.append_nil];exact hrq4,fun q hq=>(by cases hq),Nat.le_refl _,fun e b h=>(by omega),fun N _ _ _ q hq=>(by cases hq)⟩
 clear kk4 pq4 v4 h4 kk3 pq3 v3 h3 m3 m1 mT mTn
 rintro m us h5 ⟨i,vQ5,E,re,hi,rfl,rfl,kk5,pq5,hre,hgE,hEl,hcE,hNE⟩
 obtain⟨m3,m1,mT,mTn⟩:=kself kk5;simp only [pwA,seval,-iQ0];refine iteI (fun hlt=>?_) fun hge=>?_
 rotate_left
 ·refine⟨10*free (D.set (dep z) (some y))+(Q2++E).length,?_,D.set (dep z) (some y),_,Q2++E,vQ5,re,rfl,rfl,kk5,pq5,hre,?_,hrb2,hD2,(hQI.mem (Q':=x::Q) (fun q hq=>by
   rcases List.mem_append.1 hq with h|h
   ·exact List.mem_cons_of_mem _ h
   ·rw [List.mem_singleton.1 h];simp)).put hz2 hnone (by simp [hmz]) (fun q hq=>by simp [hmQ q hq]) (List.mem_append.2 (.inl hmp)) (fun e b hb=>.inr (by
    have:=hcE e b (by
     rcases Nat.lt_or_ge e D.length with h|h
     ·have:=hD.len;omega
     ·rw [List.getElem?_eq_none h]at hb;cases hb) hb
    simp [this])),fun N hN=>?_,?_⟩
  ·simp only [List.length_append,List.length_singleton];omega
  ·intro q hq
   rcases List.mem_append.1 hq with hq|hq
   ·exact hgQ2 q hq
   ·exact hgE q hq
  ·rw [←hS N hN,InD.put hnone]
   constructor
   ·rintro ⟨⟨g1,g2⟩,g3⟩
    obtain⟨g4,g5⟩:=(hNQ2 N hN g2).1 fun q hq=>g3 q (by simp [hq])
    refine⟨g1,fun q hq=>?_⟩
    rcases List.mem_append.1 hq with hq|hq
    ·exact g4 q hq
    ·rw [List.mem_singleton.1 hq];exact(hz2.iff F hN g1).2 g5
   ·rintro ⟨g1,g2⟩
    have gz':=(hz2.iff F hN g1).1 (g2 x (by simp))
    have gy:=hNy N hN gz';refine⟨⟨g1,gy⟩,fun q hq=>?_⟩
    rcases List.mem_append.1 hq with hq|hq
    ·exact(hNQ2 N hN gy).2 ⟨fun q hq=>g2 q (by simp [hq]),gz'⟩ q hq
    ·exact hNE N hN g1 gy q hq
  ·simp only [List.length_append];omega
 have hlt':i<O.length:=by omega
 have w1:IntKind.i64.wrap ((i:Int)+1)=((i+1:Nat):Int):=by rw [wrap64 (by omega) (by omega)];omega
 have hrd3:=qW mT i
 by_cases hie:i=dep z
 ·subst hie
  simp only [pwA,seval,-iQ0,w1];refine⟨_,by omega,dep z+1,vQ5,E,re,by omega,rfl,rfl,kk5,pq5,hre,hgE,by omega,fun e b h1 h2=>?_,hNE⟩
  rcases Nat.lt_or_ge e (dep z)with h|h
  ·exact hcE e b h h2
  ·rw [show e=dep z by omega,hnone]at h2;cases h2
 have hie':¬((i:Int)=(dep z:Int)):=by omega
 have hgetn:(rb.set (dep z) (.fz wy ay y.length (pis y)))[i]? = rb[i]?:=by rw [List.getElem?_set,if_neg (by omega)]
 rw [hgetn]at hrd3
 rcases DRf.get hrb (d:=i) (by rw [hD.len];exact hlt')with ⟨e1,e2⟩|⟨w,a,b,e1,e3,e2⟩
 ·rw [e1]at hrd3
  have natz:¬((0:Int)<((0:Nat):Int)):=by decide
  simp only [pwA,seval,-iQ0,hie',hlt',hrd3,natz,decide_false,w1];refine⟨_,by omega,i+1,vQ5,E,re,by omega,rfl,rfl,kk5,pq5,hre,hgE,by omega,fun e b h1 h2=>?_,hNE⟩
  rcases Nat.lt_or_ge e i with h|h
  ·exact hcE e b h h2
  ·rw [show e=i by omega,e2]at h2;cases h2
 rw [e1]at hrd3
 have bS:gS O b:=(hD.row _ _ e2).1.mono (Nat.zero_le _);have hpos:(0:Int)<(O.length:Int):=by omega
 simp only [pwA,seval,-iQ0,hie',hlt',hrd3,hpos,decide_true,m3];refine zHt s g.co hR0 yS bS fy ⟨w,a,by rw [e3]⟩ fun vc fc=>?_
 have fc1:=fc.one;have fc2:=fc.cells;simp only [pwA,seval,-iQ0,hie',hlt',hrd3,hpos,decide_true,m3,fc1,fc2];refine PT.push (bytes:=24) (σb:=T.new (rb.set (dep z) (.fz wy ay y.length (pis y)))) fc.one kk5 pq5 (by rw [List.length_append];omega) (by rw [List.length_append];omega) fun v6 h6 kk6 pq6=>?_
 simp only [pwA,seval,-iQ0,w1];refine⟨_,by omega,i+1,v6,E++[gcom O P C y b],re++[vc],by omega,rfl,rfl,kk6,?_,?_,?_,?_,?_,?_⟩
 rotate_left
 ·rw [←List.append_assoc];exact hre.snoc fc
 ·intro q hq
  rcases List.mem_append.1 hq with hq|hq
  ·exact hgE q hq
  ·rw [List.mem_singleton.1 hq];exact G.com_in yS bS
 ·simp;omega
 ·intro e b' h1 h2
  rcases Nat.lt_or_ge e i with h|h
  ·simp [hcE e b' h h2]
  ·rw [show e=i by omega,e2]at h2;cases h2;simp
 ·intro N hN hD1 hy q hq
  rcases List.mem_append.1 hq with hq|hq
  ·exact hNE N hN hD1 hy q hq
  ·rw [List.mem_singleton.1 hq];exact hN.com_in hy (hD1 _ _ e2)
 ·rw [←List.append_assoc,List.length_append,List.length_singleton];exact pq6
end Go.Proofs
namespace Go.Proofs
open Go.Ab Go.Lie
variable {p:Int} {n:Nat} {W:List (List Int)} {B:List (List (List Int))} {id:Prop}
def wl (n:Nat) (id:Prop) (w:List (List Int)):Prop:=(id∧w=units n)∨(¬id∧w=[])
end Go.Proofs
namespace Go.Grp
end Go.Grp
namespace Go.Proofs
open Go.Ab Go.Lie Go.Grp
variable {σ h h':PHeap} {K:PV→PHeap→Prop} {O x y:List Int} {P:List (List Int)} {C:List (List (List Int))} {vO vP vC vx vL vU:PV} {L u:List (List Int)} {D R:List (Option (List Int))} {rb rr:List PV} {d n sT sp:Nat}
theorem zKx (g:LG O P C) {H:List Int→Prop} (hH:gB O P C H) (hu:CanG O H u) {x z:List Int} (hx:gS O x) (hz:gS O z) (h0:∀v∈u,at_ z (dep v)=0) (hN:∀N,gB O P C N→(∀v∈u,N v)→(N x↔N z)):z=zv O↔H x:=by
 have s:=g.s;constructor
 ·rintro rfl
  exact(hN H hH hu.mem).2 hH.one
 ·intro h
  have hzH:=(hN H hH hu.mem).1 h;rcases Nat.lt_or_ge (dep z) O.length with hd|hd
  ·obtain⟨v,hv,e⟩:=hu.all z hzH hd
   exact absurd (by rw [←e];exact h0 v hv) (zBF (by rw [hz.len];exact hd))
  ·exact zJs hz hd
theorem zEJ (hR:IsPr vO vP vC O P C) (szO:O.length≤1048576) (bO:∀o∈O,isP o) (hL:FII vL L) (sz:SzL L) (hk:∀t:Bool,(t=true↔∀x∈L,isExp O x)→K (.bool t) σ):zA Try.prog 82 [.agg [vO,vP,vC],vL] σ K:=by
 have fl:∀{A:Prop},¬A→((false=true)↔A):=fun h=>⟨fun x=>(by cases x),fun x=>absurd x h⟩
 have h0:=hR.O.one;have h1:=hR.P.one;have h2:=hR.C.one;have hxl:=sz.l;obtain⟨wl,al,rl,rfl,hrl⟩:=hL;refine zA.gh ?_;refine zB mix Try.func82 ?_
 conv=>arg 2;cbv
 refine zC rfl ?_;simp only [pwA,seval,-iQ0,h0,h1,h2];have hkp:Keep σ (σ.new [vO,vP,vC]):=zD σ _;have hld:(σ.new [vO,vP,vC]).rd σ.next 0 3=some [vO,vP,vC]:=by simp only [pwA,seval,-iQ0]
 generalize σ.new [vO,vP,vC]=H at *
 refine zF (fun m us h'=>∃i:Nat,i≤L.length∧m=L.length-i∧us=[.fz wl al L.length rl,.ptr σ.next 0,.int .i64 i]∧H=h'∧∀x∈L.take i,isExp O x) L.length ⟨0,by omega,by omega,rfl,rfl,by simp⟩ ?_
 rintro m us h' ⟨i,hi,rfl,rfl,rfl,hall⟩
 simp only [pwA,seval,-iQ0];refine iteI (fun hlt=>?_) fun hge=>?_
 rotate_left
 ·have hie:i=L.length:=by omega
  subst hie;rw [List.take_length]at hall
  exact Gh.fin0 hkp trivial (hk _ ⟨fun _=>hall,fun _=>rfl⟩)
 obtain⟨w4,a4,hr⟩:=hrl.rowI hlt;have hxi:=sz.r _ (List.getElem_mem hlt);simp only [pwA,seval,-iQ0,hlt,hr,hld];refine zB7 hR szO bO ⟨w4,a4,rfl⟩ hxi fun t ht=>?_
 cases t with
 | false=>
  simp only [pwA,seval,-iQ0];exact Gh.fin0 hkp trivial (hk _ (fl fun h=>by have:=ht.2 (h _ (List.getElem_mem hlt));cases this))
 | true=>
 have h3:=ht.1 rfl;simp only [pwA,seval,-iQ0,wrapS hlt (by omega:L.length≤4611686018427387904)]
 refine⟨_,by omega,i+1,by omega,rfl,rfl,fun x hx=>?_⟩
 rw [List.take_succ_eq_append_getElem hlt,List.mem_append,List.mem_singleton]at hx
 rcases hx with hx|hx
 ·exact hall x hx
 ·rw [hx];exact h3
end Go.Proofs
namespace Go.Grp
end Go.Grp
namespace Go.Proofs
open Go.Ab Go.Lie Go.Grp
variable {σ h h':PHeap} {K:PV→PHeap→Prop} {O x y:List Int} {P:List (List Int)} {C:List (List (List Int))} {vO vP vC vx vL vU vT:PV} {L u:List (List Int)} {D R:List (Option (List Int))} {rb rr:List PV} {d n sT sp:Nat}
theorem zJT {l:Nat} {w:Bool} {a:AV} {xs:List Int} (hl:l=xs.length) (hb:xs.length≤1048576) (hk:K (.int .i64 (dep xs)) σ):zA Try.prog 116 [.fz w a l (pis xs)] σ K:=by
 subst hl;refine zB mix Try.func116 ?_
 conv=>arg 2;cbv
 refine zC rfl ?_;simp only [pwA,seval,-iQ0];refine zF (fun m vs h'=>∃i:Nat,i≤dep xs∧m=dep xs-i∧vs=[.fz w a xs.length (pis xs),.int .i64 i]∧σ=h') (dep xs) ?_ ?_
 ·exact⟨0,by omega,by omega,rfl,rfl⟩
 rintro m vs h' ⟨i,hi,rfl,rfl,rfl⟩
 have hdl:=zD0 xs
 by_cases hlt:i<xs.length
 ·simp only [pwA,seval,-iQ0,hlt,qa,gi hlt]
  by_cases h0:xs[i]=0
  ·have hid:i<dep xs:=by
    rcases Nat.lt_or_ge i (dep xs)with x|x
    ·exact x
    ·have:i=dep xs:=by omega
     subst this;exact absurd (by rw [at_eq hlt];exact h0) (zBF hlt)
   simp only [pwA,seval,-iQ0,h0,wrapS hlt (by omega:xs.length≤4611686018427387904)]
   exact⟨_,by omega,i+1,by omega,rfl,rfl⟩
  ·have hid:i=dep xs:=by
    rcases Nat.lt_or_ge i (dep xs)with x|x
    ·exact absurd (by rw [←at_eq hlt];exact zAb x) h0
    ·omega
   subst hid;simp only [pwA,seval,-iQ0,h0];exact hk
 ·have hid:i=dep xs:=by omega
  have hxe:xs.length=dep xs:=by omega
  simp only [pwA,seval,-iQ0,hlt];rw [hxe];exact hk
theorem zGi {l:Nat} {w:Bool} {a:AV} (hl:l=x.length) (hb:x.length≤1048576) (hk:K (.int .i64 (dep x)) σ):zA Try.prog 113 [.fz w a l (pis x)] σ K:=by
 refine zB mix Try.func113 ?_
 conv=>arg 2;cbv
 refine zC rfl ?_;simp only [pwA,seval,-iQ0];refine zJT hl hb ?_;simp only [pwA,seval,-iQ0];exact hk
structure TabD (O:List Int) (u:List (List Int)) (D:List (Option (List Int))):Prop where
 ok:OkD O D
 sub:∀(d:Nat) (b:List Int),D[d]? = some (some b)→b∈u∧dep b=d
 all:∀v∈u,D[dep v]? = some (some v)
theorem TabD.ind {N:List Int→Prop} (t:TabD O u D):InD N D↔∀v∈u,N v:=
 ⟨fun h v hv=>h _ v (t.all v hv),fun h d b hb=>h b (t.sub d b hb).1⟩
theorem zGg (hn:O.length≤6) (hR:IsPr vO vP vC O P C) (hU:FII vU u) (hul:u.length≤1000) (one:∀v∈u,gS O v∧dep v<O.length∧at_ v (dep v)=1) (asc:u.Pairwise fun a b=>dep a<dep b)
  (hk:∀a rb D,All2 (DRf O.length) rb D→TabD O u D→K (.fz true a O.length rb) σ):zA Try.prog 104 [.agg [vO,vP,vC],vU] σ K:=by
 have h1:=hR.P.one;have h2:=hR.C.one;obtain⟨⟨w0,a0,rfl⟩,hRP,hRC⟩:=hR;obtain⟨wu,au,ru,rfl,hru⟩:=hU;refine zA.gh ?_;refine zB mix Try.func104 ?_
 conv=>arg 2;cbv
 refine zC rfl ?_;simp only [pwA,seval,-iQ0,h1,h2,mk24 (n:=O.length) (by omega),mkL (n:=O.length) (by omega)]
 refine zF (fun m vs h'=>∃(i:Nat) (rb:List PV) (D:List (Option (List Int))),i≤u.length∧m=u.length-i∧vs=[.fz wu au u.length ru,.sl (σ.next+1) 0 O.length (.known O.length),.int .i64 i]∧h'=(σ.new [.fz w0 a0 O.length (pis O),vP,vC]).new rb∧All2 (DRf O.length) rb D∧TabD O (u.take i) D) u.length ?_ ?_
 ·refine⟨0,_,List.replicate O.length none,by omega,by omega,rfl,rfl,DRf.start _ _,⟨OkD.start _ rfl,fun d b hb=>?_,fun v hv=>by simp at hv⟩⟩
  exact(zDF hb).elim
 rintro m vs h' ⟨i,rb,D,hi,rfl,rfl,rfl,hrb,hD⟩
 simp only [pwA,seval,-iQ0];refine iteI (fun hlt=>?_) fun hge=>?_
 rotate_left
 ·have hie:i=u.length:=by omega
  subst hie;rw [List.take_length]at hD
  exact Gh.finF (s:=σ.next+1) ((zD σ _).new _) (by simp only [pwA,seval,-iQ0]) (by omega) (DRf.bels hrb 0) (by simp [capOK]) fun o=>hk _ rb D hrb hD
 obtain⟨w4,a4,hr⟩:=hru.rowI hlt;obtain⟨u1,u2,u3⟩:=one _ (List.getElem_mem hlt);have hul':=u1.len;simp only [pwA,seval,-iQ0,hlt,hr];refine zGi rfl (by omega) ?_
 have hlen:rb.length=O.length:=by rw [hrb.1];exact hD.ok.len
 have hdb:dep u[i] + 1≤rb.length:=by omega
 simp only [pwA,seval,-iQ0,u2,hdb,wrapS hlt (by omega:u.length≤4611686018427387904)]
 have hfree:D[dep u[i]]? = some none:=by
  have hl:dep u[i] < D.length:=by rw [hD.ok.len];exact u2
  rw [List.getElem?_eq_getElem hl];cases hc:D[dep u[i]]with
  | none=>rfl
  | some b=>
   exfalso
   obtain⟨hb1,hb2⟩:=hD.sub _ b (by rw [List.getElem?_eq_getElem hl,hc])
   obtain⟨k,hk1,rfl⟩:=List.mem_take_iff_getElem.1 hb1
   have:=List.pairwise_iff_getElem.1 asc k i (by omega) hlt (by omega)
   omega
 have hset:List.take (dep u[i]) rb++[PV.fz w4 a4 u[i].length (pis u[i])]++List.drop (dep u[i] + 1) rb=rb.set (dep u[i]) (.fz w4 a4 u[i].length (pis u[i])):=by
  rw [List.set_eq_take_append_cons_drop,if_pos (by omega),List.append_assoc]
  rfl
 rw [hset];refine⟨hr,_,by omega,i+1,rb.set (dep u[i]) (.fz w4 a4 u[i].length (pis u[i])),D.set (dep u[i]) (some u[i]),by omega,rfl,rfl,rfl,DRf.put hrb ⟨w4,a4,rfl⟩ hul',?_⟩
 ·have htk:∀{v:List Int},v∈u.take (i+1)↔v∈u.take i∨v=u[i]:=fun {v}=>by
   rw [List.take_succ_eq_append_getElem hlt,List.mem_append,List.mem_singleton]
  refine⟨hD.ok.put u2 (zIT u1) u3,fun d b hb=>?_,fun v hv=>?_⟩
  ·rw [List.getElem?_set]at hb
   split at hb
   ·rename_i he
    split at hb
    ·cases hb
     exact⟨htk.2 (.inr rfl),he⟩
    ·cases hb
   ·obtain⟨p1,p2⟩:=hD.sub d b hb
    exact⟨htk.2 (.inl p1),p2⟩
  ·rcases htk.1 hv with hv | rfl
   ·have hv2:=hv
    obtain⟨k,hk1,rfl⟩:=List.mem_take_iff_getElem.1 hv
    have:=List.pairwise_iff_getElem.1 asc k i (by omega) hlt (by omega)
    rw [List.getElem?_set,if_neg (by omega)]
    exact hD.all _ hv2
   ·rw [List.getElem?_set,if_pos rfl,if_pos (by rw [hD.ok.len];exact u2)]
theorem zFf (g:LG O P C) (hR:IsPr vO vP vC O P C) {wT:Bool} {aT:AV} (hrb:All2 (DRf O.length) rb D) (hD:OkD O D) (hx:gS O x) (hvx:FI vx x)
  (hk:∀v z,FI v z→gS O z→(∀(d:Nat) (b:List Int),D[d]? = some (some b)→at_ z d=0)→(∀N,gB O P C N→InD N D→(N x↔N z))→K v σ):zA Try.prog 103 [.agg [vO,vP,vC],.fz wT aT O.length rb,vx] σ K:=by
 have h0:=hR.O.one;have h1:=hR.P.one;have h2:=hR.C.one;have s:=g.s;have F:=g.F;have G:=F.g;have hn6:=s.le;have hxl:=hx.len;refine zA.gh ?_;refine zB mix Try.func103 ?_
 conv=>arg 2;cbv
 refine zC rfl ?_;simp only [pwA,seval,-iQ0,h0,h1,h2,hvx.one];obtain⟨wx0,ax0,rfl⟩:=hvx;refine zAp rfl (by omega) fun ax=>?_
 have hld:(σ.new [vO,vP,vC]).rd σ.next 0 3=some [vO,vP,vC]:=by simp only [pwA,seval,-iQ0]
 simp only [pwA,seval,-iQ0];refine zF (fun m vs h'=>∃(i:Nat) (z:List Int) (w:Bool) (a:AV),i≤O.length∧m=O.length-i∧vs=[.fz wT aT O.length rb,.ptr σ.next 0,.fz w a O.length (pis z),.int .i64 i]∧h'=σ.new [vO,vP,vC]∧gS O z∧(∀(d:Nat) (b:List Int),d<i→D[d]? = some (some b)→at_ z d=0)∧∀N,gB O P C N→InD N D→(N x↔N z)) O.length ⟨0,x,true,ax,by omega,by omega,by rw [hxl];rfl,rfl,hx,fun d b hd=>by omega,fun _ _ _=>Iff.rfl⟩ ?_
 rintro m vs h' ⟨i,z,w,a,hi,rfl,rfl,rfl,hz,hzero,hN⟩
 have hzl:=hz.len;simp only [pwA,seval,-iQ0];refine iteI (fun hlt=>?_) fun hge=>?_
 rotate_left
 ·have hie:i=O.length:=by omega
  exact Gh.fin0 (zD σ _) trivial (hk _ z ⟨w,a,by rw [hzl]⟩ hz (fun d b hb=>hzero d b (by
   rw [hie,←hD.len];rcases Nat.lt_or_ge d D.length with h|h
   ·exact h
   ·rw [List.getElem?_eq_none h]at hb;cases hb) hb) hN)
 have hlt':i<O.length:=by omega
 have hlz:i<z.length:=by omega
 have bz:=hz.bd i hlt';have bO:=s.pr i hlt';rw [at_eq hlz]at bz
 have d0:decide ((0:Int)<((0:Nat):Int))=false:=rfl;rcases DRf.get hrb (d:=i) (by rw [hD.len];exact hlt')with ⟨e1,e2⟩|⟨w4,a4,y,e1,e3,e2⟩
 ·simp only [pwA,seval,-iQ0,hlt',e1,d0,wrapS hlt' (by omega:O.length≤4611686018427387904)]
  refine⟨_,by omega,i+1,z,w,a,by omega,rfl,rfl,hz,fun d b hd hb=>?_,hN⟩
  by_cases e:d=i
  ·subst e;rw [e2]at hb;cases hb
  ·exact hzero d b (by omega) hb
 have dp:((0:Int)<((O.length:Nat):Int))=True:=by simp;omega
 by_cases hz0:z[i]=0
 ·simp only [pwA,seval,-iQ0,hlt',e1,dp,hlz,qa,gi hlz,hz0,wrapS hlt' (by omega:O.length≤4611686018427387904)]
  refine⟨_,by omega,i+1,z,w,a,by omega,rfl,rfl,hz,fun d b hd hb=>?_,hN⟩
  by_cases e:d=i
  ·subst e;rw [at_eq hlz];exact hz0
  ·exact hzero d b (by omega) hb
 obtain⟨y1,y2⟩:=hD.row _ _ e2;have yS:gS O y:=y1.mono (Nat.zero_le _);have hneg:IntKind.i64.wrap (0-z[i])=-z[i]:=by rw [wrap64 (by omega) (by omega)];omega
 simp only [pwA,seval,-iQ0,hlt',e1,dp,hlz,qa,gi hlz,hz0,hld,hneg];refine zBa g hR yS ⟨w4,a4,by rw [e3]⟩ (by omega) fun v1 f1=>?_
 simp only [pwA,seval,-iQ0,hld];obtain⟨q1,q2,q3,q4⟩:=zBK s F g.cent hlt' hz y1 y2;have ek:(-(-z[i])).toNat=(at_ z i).toNat:=by rw [Int.neg_neg,at_eq hlz]
 rw [ek]at f1
 have ib:=(G.inv_in yS).1;have pS:=G.pw ib (at_ z i).toNat;refine Zx s hR hz pS ⟨w,a,by rw [hzl]⟩ f1 fun v2 f2=>?_
 obtain⟨w5,a5,rfl⟩:=f2;have q1l:=q1.len;simp only [pwA,seval,-iQ0,wrapS hlt' (by omega:O.length≤4611686018427387904)]
 refine⟨_,by omega,i+1,_,w5,a5,by omega,rfl,by rw [q1l],q1,fun d b hd hb=>?_,fun N h3 h4=>(hN N h3 h4).trans ?_⟩
 ·by_cases e:d=i
  ·subst e;exact q4
  ·rw [q3 d (by omega)];exact hzero d b (by omega) hb
 ·have nb:N y:=h4 i y e2
  refine⟨fun hh=>?_,fun hh=>?_⟩
  ·exact h3.cl hh (h3.pw (h3.inv nb) _)
  ·have:=h3.cl hh (h3.pw nb (at_ z i).toNat)
   rwa [q2]at this
theorem zJS (g:LG O P C) (hR:IsPr vO vP vC O P C) {H:List Int→Prop} (hH:gB O P C H) (hU:FII vU u) (hu:CanG O H u) (hx:gS O x) (hvx:FI vx x) (hk:∀t:Bool,(t=true↔H x)→K (.bool t) σ):zA Try.prog 55 [.agg [vO,vP,vC],vU,vx] σ K:=by
 have h0:=hR.O.one;have h1:=hR.P.one;have h2:=hR.C.one;have hn6:=g.s.le;have hul:=hu.len;have sift:∀{σ:PHeap} {K:PV→PHeap→Prop},(∀v z,FI v z→gS O z→(z=zv O↔H x)→K v σ)→zA Try.prog 84 [.agg [vO,vP,vC],vU,vx] σ K:=fun {σ K} hk=>by
  refine zA.gh ?_;refine zB mix Try.func84 ?_
  conv=>arg 2;cbv
  refine zC rfl ?_;simp only [pwA,seval,-iQ0,h0,h1,h2,hvx.one,hU.one];refine zGg hn6 hR hU (by omega) hu.one hu.asc fun a rb D hrb hD=>?_
  simp only [pwA,seval,-iQ0,h0,h1,h2];refine zFf g hR hrb hD.ok hx hvx fun v z hv hz hz0 hN=>?_
  simp only [pwA,seval,-iQ0];refine Gh.fin0 (zD σ _) (hv.bel _) (hk v z hv hz (zKx g hH hu hx hz (fun w hw=>hz0 _ _ (hD.all w hw)) fun N h3 h4=>hN N h3 (hD.ind.2 h4)))
 refine zA.gh ?_;refine zB mix Try.func55 ?_
 conv=>arg 2;cbv
 refine zC rfl ?_;simp only [pwA,seval,-iQ0,h0,h1,h2,hvx.one,hU.one];refine sift fun v z hv hz hzH=>?_
 obtain⟨wx,ax,rfl⟩:=hv;have hzl:=hz.len;simp only [pwA,seval,-iQ0];refine zHv rfl (by omega) ?_
 simp only [pwA,seval,-iQ0];refine Gh.fin0 (zD σ _) trivial (hk _ ?_);rw [decide_eq_true_iff,←hzH];constructor
 ·intro h
  refine hz.ext (g.s.zv _) fun j _ _=>?_
  rw [zNS h];exact(Zb _ j).symm
 ·rintro rfl y hy
  exact List.eq_of_mem_replicate hy
end Go.Proofs
namespace Go.Grp
end Go.Grp
namespace Go.Proofs
open Go.Ab Go.Lie Go.Grp
variable {σ h h':PHeap} {K:PV→PHeap→Prop} {O x y a w:List Int} {P:List (List Int)} {C:List (List (List Int))} {vO vP vC vx vL v8 v9:PV} {L:List (List Int)} {s:BS} {bs r8 r9:List PV} {N j k:Nat}
theorem PSl.pushB {σb h:PHeap} {b n:Nat} {v c:PV} {rows:List PV} {K:PV×PHeap→Prop} (hk:Keep σb h) (hb:σb.next≤b) (hbn:b≤h.next) (a:PSl b 1 h v n rows) (h1:(n+1)*24≤140737488355328)
  (k:∀v' h',Keep σb h'→PSl b 1 h' v' (n+1) (rows++[c])→(∀t,t<h.next→(∀off l c,v≠.sl t off l c)→h'.obj t=h.obj t)→(∀t,t<h.next→∀off l c,v'≠.sl t off l c)→h.next<h'.next→K (v',h')):optK (qo 1 24 (h.new [c]) v (.sl h.next 0 1 (.known 1))) K:=
 PAcc.pushS hk ((PSl.acc a).low hb) rfl h1 (by omega) fun v' h' k1 a1 o1 n1 l1=>k v' h' k1 (a1.high fun t ht=>n1 t (by omega)) o1 n1 l1
structure WS (σ:PHeap) (vO vP vC:PV) (O:List Int) (s:BS) (v8 v9:PV) (bs r8 r9:List PV) (h:PHeap):Prop where
 keep:Keep σ h
 box:h.obj σ.next=some [vO,vP,vC]
 seen:h.obj (σ.next+1)=some bs
 bl:bs.length=(ordF O O.length).toNat
 be:Bels 0 bs
 bv:∀y,gS O y→bs[(numF O y O.length).toNat]? = some (.bool (decide (y∈s.1)))
 p8:PSl (σ.next+2) 1 h v8 s.1.length r8
 p9:PSl (σ.next+2) 1 h v9 s.2.length r9
 ne:∀t off l c off' l' c',v8=.sl t off l c→v9≠.sl t off' l' c'
 a8:All2 FI r8 s.1
 a9:All2 FI r9 s.2
 nx:σ.next+2≤h.next
theorem zEY (sh:Shp O P C) (hy:gS O y) (hbl:bs.length=(ordF O O.length).toNat) (hbv:∀z,gS O z→bs[(numF O z O.length).toNat]? = some (.bool (decide (z∈s.1)))) (w:List Int) (hn:y∉s.1):
  ∀z,gS O z→(bs.set (numF O y O.length).toNat (.bool true))[(numF O z O.length).toNat]? = some (.bool (decide (z∈(vst s y w).1))):=fun z hz=>by
 have by1:=ZU sh.pr (fun j hj=>hy.bd j hj) (Nat.le_refl O.length)
 have bz:=ZU sh.pr (fun j hj=>hz.bd j hj) (Nat.le_refl O.length)
 have e:(vst s y w).1=s.1++[y]:=by unfold vst;rw [if_neg hn]
 rw [List.getElem?_set]
 by_cases he:(numF O y O.length).toNat=(numF O z O.length).toNat
 ·have:y=z:=zBY sh hy hz (by omega)
  subst this;rw [if_pos rfl,if_pos (by omega),e]
  simp
 ·rw [if_neg he,hbv z hz,e]
  have:z≠y:=fun x=>he (by rw [x])
  simp [this]
theorem zJL {h:PHeap} {t i:Nat} {cs:List PV} {v:PV} (ho:h.obj t=some cs) (hi:i<cs.length) (hv:v.one=true):h.wr t i [v]=some (h.set t (cs.set i v)):=by
 unfold PHeap.wr;rw [ho];simp only [Option.bind_some,List.length_cons,List.length_nil,List.all_cons,List.all_nil,hv,Bool.and_self,and_true];rw [if_pos (by omega),List.set_eq_take_append_cons_drop,if_pos hi,List.append_assoc]
 rfl
theorem Bels.setB {b:Nat} {cs:List PV} {v:PV} (h:Bels b cs) (hv:Bel b v) (i:Nat):Bels b (cs.set i v):=QM.2 fun c hc=>(List.mem_or_eq_of_mem_set hc).elim (QM.1 h c) fun e=>by rw [e];exact hv
theorem zIm {b n t:Nat} {h h':PHeap} {v:PV} {cs:List PV} (a:PSl b 1 h v n cs) (ho:∀s,(∃off l c,v=.sl s off l c)→h'.obj s=h.obj s) (hn:h.next≤h'.next):PSl b 1 h' v n cs:=by
 obtain⟨s,c,rfl,q1,q2,q3,q4,q5⟩:=a;exact⟨s,c,rfl,q1,by rw [ho s ⟨_,_,_,rfl⟩];exact q2,q3,q4,Nat.lt_of_lt_of_le q5 hn⟩
end Go.Proofs
namespace Go.Grp
end Go.Grp
namespace Go.Proofs
open Go.Ab Go.Lie Go.Grp
variable {σ:PHeap} {K:PV→PHeap→Prop} {O:List Int} {P:List (List Int)} {C:List (List (List Int))} {vO vP vC vx vM vA:PV} {x:List Int} {A M:List (List Int)} {sp:Nat}
theorem zBf (hL:∀r∈A,r.length≤1048576) (hll:A.length≤1000) (hvA:FII vA A) (hk:∀v t,FII v A→Own σ.top t v→σ.top≤t→K v (σ.up t)):zA Try.prog 64 [vA] σ K:=by
 obtain⟨wA,aA,rA,rfl,hrA⟩:=hvA;refine zA.gh ?_;refine zB mix Try.func64 ?_
 conv=>arg 2;cbv
 refine zC rfl ?_;simp only [pwA,seval,-iQ0];refine zF (fun m vs h'=>∃(i:Nat) (v:PV) (rows:List PV),i≤A.length∧m=A.length-i∧vs=[v,.fz wA aA A.length rA,.int .i64 A.length,.int .i64 i]∧Keep σ h'∧PAcc σ.next 1 h' v i rows∧All2 FI rows (A.take i)∧Owns σ.top h'.top rows) A.length ?_ ?_
 ·exact⟨0,_,[],by omega,by omega,rfl,Keep.refl σ,PAcc.nil _ _ _,by rw [List.take_zero];exact All2.nil _,Owns.nil _ _⟩
 rintro m vs h' ⟨i,v,rows,hi,rfl,rfl,hkp,ha,hall,how⟩
 simp only [pwA,seval,-iQ0];refine iteI (fun hlt=>?_) fun hge=>?_
 rotate_left
 ·have hie:i=A.length:=by omega
  subst hie;rw [List.take_length]at hall
  exact ha.own hkp (hall.bI 0) how fun a t ho ht=>hk _ t ⟨true,a,rows,rfl,hall⟩ ho ht
 obtain⟨w4,a4,hr⟩:=hrA.rowI hlt;simp only [pwA,seval,-iQ0,hlt,hr];refine zA.fzIT (fun K' k'=>zAe rfl (by have:=hL _ (List.getElem_mem hlt);omega) k') fun v5 t5 hv5 ho5 ht5=>?_
 simp only [pwA,seval,-iQ0,hv5.one,hv5.cells];have hku:=Keep.up (Keep.refl h') ht5;refine zDE (PAcc.push (bytes:=24) (hkp.trans hku) (ha.keep hku) (by omega) (by omega) fun v' h2 k2 a2 htop=>?_)
 have htp:h2.top=t5:=htop;simp only [pwA,seval,-iQ0,wrapS hlt (by omega:A.length≤4611686018427387904)]
 exact⟨_,by omega,i+1,v',rows++[v5],by omega,rfl,rfl,k2,a2.acc,by rw [List.take_succ_eq_append_getElem hlt];exact hall.snoc hv5,by rw [htp];exact how.snoc ho5 hkp.top ht5⟩
theorem zCG (s:Shp O P C) (hs:PtrG σ sp vO vP vC) (hR:IsPr vO vP vC O P C) (hk:∀wO wP wC t,IsPr wO wP wC O P C→Owns σ.top t [wO,wP,wC]→σ.top≤t→K (.agg [wO,wP,wC]) (σ.up t)):zA Try.prog 40 [.ptr sp 0] σ K:=by
 have hn6:=s.le;have hsl:=hs.lt;have hPl:∀r∈P,r.length≤1048576:=fun r hr=>by
  obtain⟨i,hi,rfl⟩:=List.mem_iff_getElem.1 hr
  have:=(s.pw i (by rw [←s.pl];exact hi)).len
  unfold pvec at this
  rw [List.getD_eq_getElem?_getD,List.getElem?_eq_getElem hi]at this
  simp only [Option.getD_some]at this
  omega
 have hCl:∀i (hi:i<C.length),C[i].length≤6:=fun i hi=>by
  have:=s.row i (by rw [←s.cl];exact hi)
  rw [List.getD_eq_getElem?_getD,List.getElem?_eq_getElem hi]at this
  simp only [Option.getD_some]at this
  omega
 have hCr:∀i (hi:i<C.length),∀r∈C[i],r.length≤1048576:=fun i hi r hr=>by
  obtain⟨k,hk,rfl⟩:=List.mem_iff_getElem.1 hr;have hrow:=s.row i (by rw [←s.cl];exact hi)
  rw [List.getD_eq_getElem?_getD,List.getElem?_eq_getElem hi]at hrow
  simp only [Option.getD_some]at hrow
  have hcl:=s.cl
  have:=(s.cj i (i+(1+k)) (by omega) (by omega)).len
  unfold cvec at this
  rw [show i+(1+k)-i-1=k by omega]at this
  simp only [List.getD_eq_getElem?_getD,List.getElem?_eq_getElem hi,Option.getD_some,List.getElem?_eq_getElem hk]at this
  omega
 have hcl:=s.cl;have hpl:=s.pl;obtain⟨hRO,hRP,hRC⟩:=hR;have hRP0:=hRP;obtain⟨w0,a0,rfl⟩:=hRO;obtain⟨w2,a2,rC,rfl,hrC⟩:=hRC;have e0:σ.rd1 sp 0=some (.fz w0 a0 O.length (pis O)):=by rw [qW hs.obj];rfl
 have e1:σ.rd1 sp 1=some vP:=by rw [qW hs.obj];rfl
 have e2:σ.rd1 sp 2=some (.fz w2 a2 C.length rC):=by rw [qW hs.obj];rfl
 have n1:¬sp=σ.next:=by omega
 have n2:¬sp=σ.next+1:=by omega
 refine zA.gh ?_;refine zB mix Try.func40 ?_
 conv=>arg 2;cbv
 refine zC rfl ?_;simp only [pwA,seval,-iQ0,e0,e1,n1,n2];refine zA.fzIT (fun K' k'=>zAe rfl (by omega) k') fun v0 t0 hv0 ho0 ht0=>?_
 simp only [pwA,seval,-iQ0,e0,e1,n1,n2,hv0.one];refine zBf hPl (by omega) hRP0 fun v1 t1 hv1 ho1 ht1=>?_
 simp only [pwA,seval,-iQ0,e2,n1,n2,hv0.one,hv1.one,hv0.cells,hv1.cells];refine zF (fun m vs h'=>∃(i:Nat) (vX:PV) (rows:List PV),i≤C.length∧m=C.length-i∧vs=[.ptr σ.next 0,.ptr (σ.next+1) 0,.fz w2 a2 C.length rC,.int .i64 C.length,.int .i64 i]∧Keep ((σ.new [.fz true .nils 0 [],.fz true .nils 0 [],.fz true .nils 0 []]).new [v0,v1,vX]) h'∧PAcc (σ.next+2) 1 h' vX i rows∧All2 FII rows (C.take i)∧Owns σ.top h'.top (v0::v1::rows)) C.length ?_ ?_
 ·refine⟨0,.fz true .nils 0 [],[],by omega,by omega,rfl,⟨Nat.le_refl _,Nat.le_trans ht0 ht1,fun t ht=>?_⟩,PAcc.nil _ _ _,by rw [List.take_zero];exact All2.nil _,?_⟩
  ·simp only [pwA,seval,-iQ0]
  ·exact((Owns.nil σ.top σ.top).snoc ho0 (Nat.le_refl _) ht0).snoc ho1 ht0 ht1
 rintro m vs h' ⟨i,vX,rows,hi,rfl,rfl,hkp,ha,hall,how⟩
 have hk0:Keep σ h':=((zD σ _).new _).trans hkp;have ob:h'.obj (σ.next+1)=some [v0,v1,vX]:=by rw [hkp.obj (σ.next+1) (show σ.next+1<σ.next+1+1 by omega)];simp only [pwA,seval,-iQ0]
 have ob0:h'.obj σ.next=some [.fz true .nils 0 [],.fz true .nils 0 [],.fz true .nils 0 []]:=by rw [hkp.obj _ (by show σ.next<σ.next+1+1;omega)];simp only [pwA,seval,-iQ0]
 have r2:h'.rd1 (σ.next+1) 2=some vX:=by rw [qW ob];rfl
 have r3:h'.rd (σ.next+1) 0 3=some [v0,v1,vX]:=by rw [QC ob];rfl
 have hnx:σ.next+2≤h'.next:=hkp.next;simp only [pwA,seval,-iQ0];refine iteI (fun hlt=>?_) fun hge=>?_
 rotate_left
 ·have hie:i=C.length:=by omega
  subst hie;rw [List.take_length]at hall
  have hw3:h'.wr σ.next 0 [v0,v1,vX]=some (h'.set σ.next [v0,v1,vX]):=by
   rw [zA8 ob0,if_pos ⟨by simp,by simp [hv0.one,hv1.one,ha.one]⟩];rfl
  simp only [pwA,seval,-iQ0,r3,hw3];have hkE:Keep σ (h'.set σ.next [v0,v1,vX]):=hk0.set (Nat.le_refl _) _;have b0:=hv0.bel σ.next;have b1:=hv1.bel σ.next;rcases ha with ⟨rfl,h1,h2⟩|⟨t,cap,rfl,hcp,q2,q3,q4,q5⟩
  ·subst h2
   have hC0:C=[]:=List.eq_nil_of_length_eq_zero h1;exact Gh.fin0T hkE (Nat.le_refl _) ⟨b0,b1,trivial,trivial⟩ fun _=>hk v0 v1 _ _ ⟨hv0,hv1,⟨true,.nils,[],by rw [hC0];rfl,by rw [hC0];exact All2.nil _⟩⟩ (how.snoc (Own.empty _ _ true .nils 0) hk0.top (Nat.le_refl _)) hk0.top
  ·have hbr:Bels 0 rows:=hall.bL 0
   refine Gh.freeze (s:=t) (cs:=rows) (by rw [ZC,if_neg (by omega)];exact q2) (by omega) hbr fun o ho hc hv=>?_
   have s0:sb t o rows v0=v0:=hv0.sb _ _ _;have s1:sb t o rows v1=v1:=hv1.sb _ _ _;simp only [sb,sbs,s0,s1,hcp.ok,and_self,if_true];refine Gh.fin0T (t:=max h'.top (o+1)) ((hkE.kill (show σ.next≤t by omega)).up (by simp only [PHeap.kill,PHeap.set];omega)) (Nat.le_refl _) ⟨b0,b1,trivial,trivial⟩ fun _=>hk v0 v1 _ _ ⟨hv0,hv1,⟨true,_,rows,rfl,hall⟩⟩ ?_ (by have:=hk0.top;omega)
   refine Owns.last (pre:=[v0,v1]) how ho (by omega) (by omega) fun hm=>?_
   have hm':o∈ead v0++(ead v1++eads rows):=hm;simp only [List.mem_append]at hm'
   simp only [addrs,ZE,List.mem_append,List.append_nil,not_or]at hv
   rcases hm' with hm' | hm' | hm'
   ·exact hv.1 (zAt hm')
   ·exact hv.2 (zAt hm')
   ·exact hc (ZB hm')
 obtain⟨w4,a4,rs4,hr,hrs⟩:=hrC.rowL hlt;simp only [pwA,seval,-iQ0,hlt,hr,r2];refine zBf (hCr i hlt) (by have:=hCl i hlt;omega) ⟨w4,a4,rs4,rfl,hrs⟩ fun v5 t5 hv5 ho5 ht5=>?_
 have hku:=Keep.up (Keep.refl h') ht5;have nn:¬σ.next+1=h'.next:=by omega
 simp only [pwA,seval,-iQ0,r2,nn,hv5.one,hv5.cells];refine zDE (PAcc.push (bytes:=24) (hkp.trans hku) (ha.keep hku) (by omega) (by omega) fun v' h2 k2 a2 htop=>?_)
 have htp:h2.top=t5:=htop;have hw2:h2.wr (σ.next+1) 2 [v']=some (h2.set (σ.next+1) [v0,v1,v']):=by
  have ob2:h2.obj (σ.next+1)=some [v0,v1,vX]:=by rw [k2.obj (σ.next+1) (show σ.next+1<σ.next+1+1 by omega)];simp only [pwA,seval,-iQ0]
  rw [zA8 ob2,if_pos ⟨by simp,by simp [a2.acc.one]⟩];rfl
 simp only [pwA,seval,-iQ0,hw2,a2.acc.cells,wrapS hlt (by omega:C.length≤4611686018427387904)]
 refine⟨_,by omega,i+1,v',rows++[v5],by omega,rfl,rfl,k2.setN _,a2.acc.setX (show σ.next+1<σ.next+1+1 by omega),by rw [List.take_succ_eq_append_getElem hlt];exact hall.snoc hv5,?_⟩
 show Owns σ.top h2.top _;rw [htp];exact how.snoc ho5 hk0.top ht5
theorem zK2 (hR:IsPr vO vP vC O P C) (sz:SzP O P C) (hk:∀wO wP wC,IsPr wO wP wC O P C→K (.agg [wO,wP,wC]) σ):zA Try.prog 34 [.agg [vO,vP,vC]] σ K:=by
 have g0:=hR.O.one;have g1:=hR.P.one;have g2:=hR.C.one;have szC:=sz.C.l;have szO:=sz.O;obtain⟨hRO,hRP,hRC⟩:=hR;obtain⟨w2,a2,rC,rfl,hrC⟩:=hRC;refine zA.gh ?_;refine zB mix Try.func34 ?_
 conv=>arg 2;cbv
 refine zC rfl ?_;simp only [pwA,seval,-iQ0,g0,g1];have own1:∀{v:PV} {xs:List Int} {σ:PHeap} {K:PV→PHeap→Prop},FI v xs→xs.length≤4294967296→(∀v',FI v' xs→K v' σ)→zA Try.prog 58 [v] σ K:=fun {v xs σ K} hv hb hk=>by
  obtain⟨w,a,rfl⟩:=hv;exact zAp rfl hb fun v=>hk _ ⟨_,_,rfl⟩
 refine own1 hRO (by omega) fun v0 hv0=>?_
 simp only [pwA,seval,-iQ0,g0,g1,hv0.one,hv0.cells];refine zBc hRP sz.P fun v1 hv1=>?_
 simp only [pwA,seval,-iQ0,g0,g1,hv0.one,hv1.one,hv0.cells,hv1.cells];refine zF (fun m vs h'=>∃(i:Nat) (vX:PV) (rows:List PV),i≤C.length∧m=C.length-i∧vs=[.ptr σ.next 0,.ptr (σ.next+1) 0,.ptr (σ.next+2) 0,.int .i64 i]∧Keep (((σ.new [vO,vP,.fz w2 a2 C.length rC]).new [.fz true .nils 0 [],.fz true .nils 0 [],.fz true .nils 0 []]).new [v0,v1,vX]) h'∧PAcc (σ.next+3) 1 h' vX i rows∧All2 FII rows (C.take i)) C.length ?_ ?_
 ·refine⟨0,.fz true .nils 0 [],[],by omega,by omega,rfl,⟨Nat.le_refl _,Nat.le_refl _,fun t ht=>?_⟩,PAcc.nil _ _ _,by rw [List.take_zero];exact All2.nil _⟩
  simp only [pwA,seval,-iQ0]
 rintro m vs h' ⟨i,vX,rows,hi,rfl,rfl,hkp,ha,hall⟩
 have hk0:Keep σ h':=(((zD σ _).new _).new _).trans hkp;have ob:h'.obj (σ.next+2)=some [v0,v1,vX]:=by rw [hkp.obj (σ.next+2) (show σ.next+2<σ.next+1+1+1 by omega)];simp only [pwA,seval,-iQ0]
 have ob1:h'.obj (σ.next+1)=some [.fz true .nils 0 [],.fz true .nils 0 [],.fz true .nils 0 []]:=by rw [hkp.obj (σ.next+1) (show σ.next+1<σ.next+1+1+1 by omega)];simp only [pwA,seval,-iQ0]
 have ob0:h'.obj σ.next=some [vO,vP,.fz w2 a2 C.length rC]:=by rw [hkp.obj σ.next (show σ.next<σ.next+1+1+1 by omega)];simp only [pwA,seval,-iQ0]
 have q2:h'.rd1 σ.next 2=some (.fz w2 a2 C.length rC):=by rw [qW ob0];rfl
 have r2:h'.rd1 (σ.next+2) 2=some vX:=by rw [qW ob];rfl
 have r3:h'.rd (σ.next+2) 0 3=some [v0,v1,vX]:=by rw [QC ob];rfl
 have hnx:σ.next+3≤h'.next:=hkp.next;simp only [pwA,seval,-iQ0,q2];refine iteI (fun hlt=>?_) fun hge=>?_
 rotate_left
 ·have hie:i=C.length:=by omega
  subst hie;rw [List.take_length]at hall
  have hw3:h'.wr (σ.next+1) 0 [v0,v1,vX]=some (h'.set (σ.next+1) [v0,v1,vX]):=by
   rw [zA8 ob1,if_pos ⟨by simp,by simp [hv0.one,hv1.one,ha.one]⟩];rfl
  simp only [pwA,seval,-iQ0,r3,hw3];have hkE:Keep σ (h'.set (σ.next+1) [v0,v1,vX]):=hk0.set (Nat.le_succ _) _;have b0:=hv0.bel σ.next;have b1:=hv1.bel σ.next;rcases ha with ⟨rfl,h1,h2⟩|⟨t,cap,rfl,hcp,q2,q3,q4,q5⟩
  ·subst h2
   have hC0:C=[]:=List.eq_nil_of_length_eq_zero h1;exact Gh.fin0 hkE ⟨b0,b1,trivial,trivial⟩ (hk v0 v1 _ ⟨hv0,hv1,⟨true,.nils,[],by rw [hC0];rfl,by rw [hC0];exact All2.nil _⟩⟩)
  ·refine Gh.freeze (s:=t) (cs:=rows) (by rw [ZC,if_neg (by omega)];exact q2) (by omega) (hall.bL 0) fun o ho hc hv=>?_
   have s0:sb t o rows v0=v0:=hv0.sb _ _ _;have s1:sb t o rows v1=v1:=hv1.sb _ _ _;simp only [sb,sbs,s0,s1,hcp.ok,and_self,if_true];exact Gh.fin0 ((hkE.kill (show σ.next≤t by omega)).up (by simp only [PHeap.kill,PHeap.set];omega)) ⟨b0,b1,trivial,trivial⟩ (hk v0 v1 _ ⟨hv0,hv1,⟨true,_,rows,rfl,hall⟩⟩)
 obtain⟨w4,a4,rs4,hr,hrs⟩:=hrC.rowL hlt;simp only [pwA,seval,-iQ0,hlt,hr,q2,r2];refine zBc ⟨w4,a4,rs4,rfl,hrs⟩ (sz.C.r _ (List.getElem_mem hlt)) fun v5 hv5=>?_
 have nn:¬σ.next+2=h'.next:=by omega
 simp only [pwA,seval,-iQ0,r2,nn,hv5.one,hv5.cells];refine PAcc.push (bytes:=24) hkp ha (by omega) (by omega) fun v' h2 k2 a2=>?_
 have hw2:h2.wr (σ.next+2) 2 [v']=some (h2.set (σ.next+2) [v0,v1,v']):=by
  have ob2:h2.obj (σ.next+2)=some [v0,v1,vX]:=by rw [k2.obj (σ.next+2) (show σ.next+2<σ.next+1+1+1 by omega)];simp only [pwA,seval,-iQ0]
  rw [zA8 ob2,if_pos ⟨by simp,by simp [a2.acc.one]⟩];rfl
 simp only [pwA,seval,-iQ0,hw2,a2.acc.cells,wrapS hlt (by omega:C.length≤4611686018427387904)]
 exact⟨_,by omega,i+1,v',rows++[v5],by omega,rfl,rfl,k2.setN _,a2.acc.setX (show σ.next+2<σ.next+1+1+1 by omega),by rw [List.take_succ_eq_append_getElem hlt];exact hall.snoc hv5⟩
end Go.Proofs
namespace Go.Grp
end Go.Grp
namespace Go.Proofs
open Go.Ab Go.Lie Go.Grp
variable {σ h h':PHeap} {K:PV→PHeap→Prop} {O:List Int} {P:List (List Int)} {C:List (List (List Int))} {vO vP vC vx vM vA v:PV} {x:List Int} {A M:List (List Int)} {sp se:Nat} {rows:List SR}
def nEl (O:List Int):Nat:=(ordF O O.length).toNat
theorem zJM (s:Shp O P C):ordF O O.length=(nEl O:Int)∧1≤nEl O:=by
 have h1:=Zp s.pr (i:=O.length) (Nat.le_refl _);unfold nEl;omega
end Go.Proofs
namespace Go.Grp
end Go.Grp
namespace Go.Proofs
open Go.Ab Go.Lie Go.Grp
variable {σ h h':PHeap} {K:PV→PHeap→Prop} {O x y a w:List Int} {P:List (List Int)} {C:List (List (List Int))} {vO vP vC vx vL v8 v9:PV} {L:List (List Int)} {s:BS} {bs r8 r9:List PV} {N j k:Nat}
theorem zK1 (hR:IsPr vO vP vC O P C) (hb:O.length≤1000) (hk:∀v,FI v (zv O)→K v σ):zA Try.prog 90 [.agg [vO,vP,vC]] σ K:=by
 have h1:=hR.P.one;have h2:=hR.C.one;obtain⟨⟨w0,a0,rfl⟩,hRP,hRC⟩:=hR;refine zA.gh ?_;refine zB mix Try.func90 ?_
 conv=>arg 2;cbv
 refine zC rfl ?_;simp only [pwA,seval,-iQ0,h1,h2,mk8 (n:=O.length) (by omega),mkL (n:=O.length) (by omega),List.length_replicate,ZM]
 refine Gh.finF (s:=σ.next+1) ((zD σ _).new _) (cs:=pis (List.replicate O.length 0)) (by simp only [pwA,seval,-iQ0,ZM]) (by omega) (qH _ _) (by simp [capOK]) fun o=>hk _ ⟨true,.sl o 0 O.length (.known O.length),?_⟩
 simp [zv]
theorem zA9 (O:List Int):∀i,numF O (zv O) i=0
 | 0=>rfl
 | i+1=>by rw [numF,zA9 O i,show at_ (zv O) i=0 from Zb _ _];omega
theorem Zt {h:PHeap} {s o t:Nat} {cs ds:List PV} (ht:h.obj t=some ds) (hne:t≠s) (hb:Bels 0 ds):((h.kill s).sub s o cs).obj t=some ds:=by
 simp only [PHeap.sub,PHeap.kill,if_neg hne,ht,Option.map_some];rw [Z6 (Nat.zero_le _) hb]
theorem zHq (g:LG O P C) (hR:IsPr vO vP vC O P C) (hL:FII vL L) (hl6:L.length≤6) (hLs:∀l∈L,gS O l) (hx:gS O x) (hvx:FI vx x) (hm:GC O P C L x)
  (hk:∀v k w,Fnd O P C L x k→(stt O P C L k).2[k]? = some w→FI v w→w.length≤117649→K v σ):zA Try.prog 57 [.agg [vO,vP,vC],vL,vx] σ K:=by
 have sh:=g.s;have F:=g.F;have hn6:=sh.le;have g0:=hR.O.one;have g1:=hR.P.one;have g2:=hR.C.one;have hxl:=hx.len;obtain⟨hN,hN1⟩:=zJM sh;have hob:=Zp sh.pr (i:=O.length) (Nat.le_refl _);have h7:=pow7 (i:=O.length) (by omega)
 have hL0:=hL;obtain⟨wl,al,rl,rfl,hrl⟩:=hL;obtain⟨wx,ax,rfl⟩:=hvx;refine zA.pwf fun w0=>zA.gh ?_
 refine zB mix Try.func57 ?_
 conv=>arg 2;cbv
 refine zC rfl ?_;simp only [pwA,seval,-iQ0,g0,g1,g2];refine zHs sh hR ?_;rw [hN];have hNb:nEl O≤117649:=by omega
 have i0:0<nEl O:=hN1;simp only [pwA,seval,-iQ0,mkL (n:=nEl O) (by omega),show(nEl O:Int)*((1:Nat):Int)≤140737488355328 by omega,i0,g0,g1,g2]
 have i0':(0:Int)<(nEl O:Int):=by omega
 have iN:0+1≤nEl O:=hN1;simp only [pwA,seval,-iQ0,i0',List.length_replicate,iN,g0,g1,g2];refine zK1 hR (by omega) fun v1 f1=>?_
 generalize hb0:(PV.bool true::List.drop 1 (List.replicate (nEl O) (PV.bool false)))=bs0;have l0:bs0.length=nEl O:=by rw [←hb0];simp;omega
 simp only [pwA,seval,-iQ0,f1.one,f1.cells];have b0:Bels 0 bs0:=by rw [←hb0];exact⟨trivial,QM.2 fun c hc=>by
  have:=List.mem_of_mem_drop hc
  rw [List.eq_of_mem_replicate this];trivial⟩
 have bq:Bels 0 [vO,vP,vC]:=⟨hR.O.bel 0,hR.P.bel 0,hR.C.bel 0,trivial⟩;have hv0:∀y,gS O y→bs0[(numF O y O.length).toNat]? = some (.bool (decide (y∈[zv O]))):=fun y hy=>by
  have b1:=ZU sh.pr (fun j hj=>hy.bd j hj) (Nat.le_refl O.length)
  have zS:gS O (zv O):=sh.zv _;rw [←hb0]
  by_cases he:y=zv O
  ·subst he
   rw [zA9]
   simp
  ·have hne:(numF O y O.length).toNat≠0:=fun h0=>he (zBY sh hy zS (by rw [zA9];omega))
   obtain⟨q,hq⟩:∃q,(numF O y O.length).toNat=q+1:=⟨_,(Nat.succ_pred_eq_of_ne_zero hne).symm⟩
   rw [hq,List.getElem?_cons_succ,List.getElem?_drop,List.getElem?_replicate,if_pos (by omega)]
   simp [he]
 refine QH (fun m vs h'=>∃(k:Nat) (v8 v9:PV) (bs r8 r9:List PV),k≤nEl O∧m=nEl O-k∧vs=[.fz wl al L.length rl,.fz wx ax x.length (pis x),.ptr σ.next 0,.sl (σ.next+1) 0 (nEl O) (.known (nEl O)),v8,v9,.int .i64 k]∧
  WS σ vO vP vC O (stt O P C L k) v8 v9 bs r8 r9 h'∧(∀i,i<k→i<(stt O P C L i).1.length)∧∀i,i<k→(stt O P C L i).1[i]?≠some x) (nEl O) ?_ ?_
 ·refine .fzh (σ.next+3) [] (by simp only [pwA,seval,-iQ0]) trivial fun o=>.here ⟨0,.sl (σ.next+2) 0 1 (.known 1),.sl (σ.next+4) 0 1 (.known 1),bs0,[v1],[.fz true (.sl o 0 0 (.known 0)) 0 []],by omega,by omega,?_,?_,fun i hi=>by omega,fun i hi=>by omega⟩
  ·simp only [pwA,seval,-iQ0]
   simp [sbs,sb]
  ·refine⟨?_,?_,?_,?_,?_,hv0,?_,?_,fun t off l c off' l' c' e=>?_,(All2.nil FI).snoc f1,(All2.nil FI).snoc ⟨true,.sl o 0 0 (.known 0),rfl⟩,?_⟩
   ·exact Keep.sub w0 (Keep.kill (((((zD σ _).new _).new _).new _).new _) (by omega)) (by omega)
   ·exact Zt (by simp only [pwA,seval,-iQ0]) (by omega) bq
   ·exact Zt (by simp only [pwA,seval,-iQ0]) (by omega) b0
   ·rw [l0,hN];rfl
   ·exact b0
   ·exact⟨σ.next+2,.known 1,rfl,.inr rfl,Zt (by simp only [pwA,seval,-iQ0]) (by omega) ⟨f1.bel 0,trivial⟩,rfl,Nat.le_refl _,by show σ.next+2<σ.next+5;omega⟩
   ·refine⟨σ.next+4,.known 1,rfl,.inr rfl,?_,rfl,by omega,by show σ.next+4<σ.next+5;omega⟩
    have e4:(((((σ.new [vO,vP,vC]).new bs0).new [v1]).new []).new [PV.sl (σ.next+3) 0 0 (.known 0)]).obj (σ.next+4)=some [PV.sl (σ.next+3) 0 0 (.known 0)]:=by simp only [pwA,seval,-iQ0]
    simp only [PHeap.sub,PHeap.kill,if_neg (show ¬σ.next+4=σ.next+3 by omega)]
    rw [e4];simp [sbs,sb,capOK]
   ·simp only [PV.sl.injEq]at e
    intro e2;simp only [PV.sl.injEq]at e2
    omega
   ·show σ.next+2≤σ.next+5;omega
 rintro m vs h' ⟨k,v8,v9,bs,r8,r9,hkN,rfl,rfl,v,hlt,hms⟩
 have ok:=OkS.stt sh F hLs hlt;have bd:=ok.bound sh F hLs;rw [hN]at bd
 have lk:=ok.len;simp only [pwA,seval,-iQ0,v.p8.acc.pLen];refine iteI (fun hc=>?_) fun hge=>?_
 rotate_left
 ·exact absurd hm (zEW sh F g.cent hLs hlt hms (by omega))
 have hc':k<(stt O P C L k).1.length:=by omega
 have hc9:k<(stt O P C L k).2.length:=by omega
 obtain⟨t8,c8,rfl,q1,q2,q3,q4,q5⟩:=v.p8;obtain⟨t9,c9,rfl,p1,p2,p3,p4,p5⟩:=v.p9;obtain⟨wa,aa,hra⟩:=v.a8.rowI hc';obtain⟨wb,ab,hrb⟩:=v.a9.rowI hc9;have e8:h'.rd1 t8 k=some (.fz wa aa (stt O P C L k).1[k].length (pis (stt O P C L k).1[k])):=by unfold PHeap.rd1;rw [q2];exact hra
 have e9:h'.rd1 t9 k=some (.fz wb ab (stt O P C L k).2[k].length (pis (stt O P C L k).2[k])):=by unfold PHeap.rd1;rw [p2];exact hrb
 have aS:gS O (stt O P C L k).1[k]:=(GC.sub F hLs).inS (ok.mem _ (List.getElem_mem hc'));have al':=aS.len;have wl9:=ok.ws k hc9;have hci:(k:Int)<((stt O P C L k).1.length:Int):=by omega
 have hci9:(k:Int)<((stt O P C L k).2.length:Int):=by omega
 simp only [pwA,seval,-iQ0,hc',hc9,hci,hci9,e8];refine Qb rfl rfl (by omega) ?_
 by_cases hx0:(stt O P C L k).1[k]=x
 ·simp only [pwA,seval,-iQ0,hx0,hc',hc9,hci,hci9,e9]
  exact Gh.fin0 v.keep (FI.bel ⟨wb,ab,rfl⟩ _) (hk _ k _ ⟨by rw [List.getElem?_eq_getElem hc',hx0],hms,hlt⟩ (List.getElem?_eq_getElem hc9) ⟨wb,ab,rfl⟩ (by omega))
 have hms':∀i,i<k+1→(stt O P C L i).1[i]?≠some x:=fun i hi=>by
  rcases Nat.lt_or_ge i k with z|z
  ·exact hms i z
  ·have:i=k:=by omega
   subst this;rw [List.getElem?_eq_getElem hc'];exact fun e=>hx0 (Option.some.inj e)
 have hlt':∀i,i<k+1→i<(stt O P C L i).1.length:=fun i hi=>by
  rcases Nat.lt_or_ge i k with z|z
  ·exact hlt i z
  ·have:i=k:=by omega
   subst this;exact hc'
 simp only [pwA,seval,-iQ0,hx0];obtain⟨s0,hs0⟩:∃s0,stt O P C L k=s0:=⟨_,rfl⟩
 have hnx:stt O P C L (k+1)=nxt O P C L ((stt O P C L k).1[k]) ((stt O P C L k).2[k]) L.length (stt O P C L k):=by
  rw [stt,List.getD_eq_getElem?_getD,List.getD_eq_getElem?_getD,List.getElem?_eq_getElem hc',List.getElem?_eq_getElem hc9];rfl
 have aG:GC O P C L (stt O P C L k).1[k]:=ok.mem _ (List.getElem_mem hc');have ga8:(stt O P C L k).1[k]? = some (stt O P C L k).1[k]:=List.getElem?_eq_getElem hc';have ga9:(stt O P C L k).2[k]? = some (stt O P C L k).2[k]:=List.getElem?_eq_getElem hc9;generalize (stt O P C L k).1[k]=a at *
 generalize (stt O P C L k).2[k]=w at *
 clear e8 e9 hra hrb;refine QH (fun m vs h3=>∃(j:Nat) (v8 v9:PV) (bs r8 r9:List PV),j≤L.length∧m=L.length-j∧vs=[.fz wl al L.length rl,.fz wx ax x.length (pis x),.ptr σ.next 0,.sl (σ.next+1) 0 (nEl O) (.known (nEl O)),v8,v9,.int .i64 k,.int .i64 j]∧
  WS σ vO vP vC O (nxt O P C L a w j (stt O P C L k)) v8 v9 bs r8 r9 h3) L.length ?_ ?_
 ·exact .here ⟨0,_,_,bs,r8,r9,by omega,by omega,rfl,v⟩
 clear v q1 q2 q3 q4 q5 p1 p2 p3 p4 p5
 rintro m vs h3 ⟨j,v8,v9,bs,r8,r9,hj,rfl,rfl,v⟩
 have okj:=ok.nxt F hLs aG (by omega:w.length+1≤(stt O P C L k).1.length) hj
 have pr:=zB2 (O:=O) (P:=P) (C:=C) (L:=L) a w (stt O P C L k) j;have gj8:=zAM pr.1 ga8;have gj9:=zAM pr.2 ga9;generalize hsj:nxt O P C L a w j (stt O P C L k)=sj at *
 simp only [pwA,seval,-iQ0];refine iteI (fun hcj=>?_) fun hgj=>?_
 rotate_left
 ·have hje:j=L.length:=by omega
  subst hje;simp only [pwA,seval,-iQ0,wrapS hc' (by omega:(stt O P C L k).1.length≤4611686018427387904)]
  exact⟨_,by omega,.here ⟨k+1,v8,v9,bs,r8,r9,by omega,rfl,rfl,by rw [hnx,hsj];exact v,hlt',hms'⟩⟩
 have hjl:j<L.length:=by omega
 have bdj:=okj.bound sh F hLs;rw [hN]at bdj
 have lkj:=okj.len;obtain⟨wg,ag,hrg⟩:=hrl.rowI hjl;have hk8:k<sj.1.length:=by
  rcases Nat.lt_or_ge k sj.1.length with z|z
  ·exact z
  ·rw [List.getElem?_eq_none z]at gj8;cases gj8
 have hk9:k<sj.2.length:=by omega
 have ea8:sj.1[k]=a:=by rw [List.getElem?_eq_getElem hk8]at gj8;exact Option.some.inj gj8
 have ea9:sj.2[k]=w:=by rw [List.getElem?_eq_getElem hk9]at gj9;exact Option.some.inj gj9
 obtain⟨wa',aa',hra⟩:=v.a8.rowI hk8;obtain⟨wb',ab',hrb⟩:=v.a9.rowI hk9;rw [ea8]at hra
 rw [ea9]at hrb
 have vv:=v;obtain⟨t8,c8,rfl,q1,q2,q3,q4,q5⟩:=v.p8;obtain⟨t9,c9,rfl,p1,p2,p3,p4,p5⟩:=v.p9;have e0:h3.rd σ.next 0 3=some [vO,vP,vC]:=by rw [QC v.box];rfl
 have e8:h3.rd1 t8 k=some (.fz wa' aa' a.length (pis a)):=by unfold PHeap.rd1;rw [q2];exact hra
 have e9:h3.rd1 t9 k=some (.fz wb' ab' w.length (pis w)):=by unfold PHeap.rd1;rw [p2];exact hrb
 have hci:(k:Int)<(sj.1.length:Int):=by omega
 have hci9:(k:Int)<(sj.2.length:Int):=by omega
 have lS:=hLs _ (List.getElem_mem hjl);simp only [pwA,seval,-iQ0,e0,hk8,hk9,hci,hci9,e8,hjl,hrg];refine Zx sh hR aS lS ⟨wa',aa',rfl⟩ ⟨wg,ag,rfl⟩ fun vy fy=>?_
 have hyS:=F.g.cl aS lS;have yb:=ZU sh.pr (fun j hj=>hyS.bd j hj) (Nat.le_refl O.length)
 obtain⟨nn,hnn⟩:∃nn:Nat,numF O (gm O P C a L[j]) O.length=(nn:Int):=⟨_,(Int.toNat_of_nonneg yb.1).symm⟩
 have nnb:nn<nEl O:=by omega
 have nnb':(nn:Int)<(nEl O:Int):=by omega
 have hbv:=v.bv _ hyS;rw [hnn]at hbv
 have e7:h3.rd1 (σ.next+1) nn=some (.bool (decide (gm O P C a L[j]∈sj.1))):=by unfold PHeap.rd1;rw [v.seen];exact hbv
 simp only [pwA,seval,-iQ0,e0,fy.one];refine zCy sh hR hyS fy ?_;rw [hnn];simp only [pwA,seval,-iQ0,nnb,nnb',e7];have hnj:nxt O P C L a w (j+1) (stt O P C L k)=vst sj (gm O P C a L[j]) (w++[(j:Int)+1]):=by
  rw [nxt,hsj,List.getD_eq_getElem?_getD,List.getElem?_eq_getElem hjl];rfl
 have wj:=wrapS hjl (by omega:L.length≤4611686018427387904)
 refine iteI (fun hin=>?_) fun hnin=>?_
 ·refine⟨L.length-(j+1),by omega,.here ⟨j+1,_,_,bs,r8,r9,by omega,rfl,by rw [wj],?_⟩⟩
  rw [hnj];unfold vst;rw [if_pos hin];exact vv
 simp only [pwA,seval,-iQ0,e0,fy.one];refine zCy sh hR hyS fy ?_;rw [hnn];have hbl:nn<bs.length:=by rw [v.bl];omega
 simp only [pwA,seval,-iQ0,nnb,nnb',zJL v.seen hbl (show PV.one (.bool true)=true from rfl),fy.one,fy.cells]
 have hv8:=PSl.setO (t:=σ.next+1) vv.p8 (by omega) (bs.set nn (.bool true))
 have nxv:=v.nx;refine PSl.pushB (σb:=σ) (b:=σ.next+2) (v.keep.set (Nat.le_succ _) _) (by omega) v.nx hv8 (by omega) fun v8' h5 k5 a5 o5 n5 l5=>?_
 have s5:∀t,t<h3.next→t≠t8→t≠σ.next+1→h5.obj t=h3.obj t:=fun t h1 h2 h4=>by
  rw [o5 t h1 fun off l c e=>h2 (by simp only [PV.sl.injEq]at e;exact e.1.symm),ZC,if_neg h4]
 have t98:t9≠t8:=fun e=>v.ne t8 0 _ c8 0 _ c9 rfl (by rw [e])
 have l5':h3.next<h5.next:=l5;have e9':h5.rd1 t9 k=some (.fz wb' ab' w.length (pis w)):=by unfold PHeap.rd1;rw [s5 t9 p5 t98 (by omega),p2];exact hrb
 simp only [pwA,seval,-iQ0,a5.one,hk9,hci9,e9'];refine ZV rfl (by omega) fun cap hcap=>?_
 simp only [pwA,seval,-iQ0,wj];have pA:PAcc h5.next 1 (h5.new (pis w)) (.sl h5.next 0 w.length cap) w.length (pis w):=.inr ⟨h5.next,cap,rfl,hcap,by rw [qf,if_pos rfl],by rw [qG];omega,Nat.le_refl _,Nat.lt_succ_self _⟩
 refine PAcc.push (bytes:=8) (σb:=h5) (h:=h5.new (pis w)) (zD _ _) pA (by omega) (by omega) fun vR h6 k6 a6=>?_
 obtain⟨tR,cR,rfl,hcR,x2,x3,x4,x5⟩:=a6;have v9':PSl (σ.next+2) 1 h6 (.sl t9 0 sj.2.length c9) sj.2.length r9:=⟨t9,c9,rfl,p1,by rw [k6.obj t9 (by omega),s5 t9 p5 t98 (by omega)];exact p2,p3,p4,by have:=k6.next;omega⟩
 simp only [pwA,seval,-iQ0];refine PSl.pushB (σb:=σ) (b:=σ.next+2) (k5.trans k6) (by omega) (by have:=k6.next;omega) v9' (by omega) fun v9' h7 k7 a7 o7 n7 l7=>?_
 simp only [pwA,seval,-iQ0,wj];have hb6:Bels 0 (pis w++[.int .i64 ((j+1:Nat):Int)]):=by
  have:=qH 0 (w++[((j+1:Nat):Int)])
  simpa [pis]using this
 have x7:h7.obj tR=some (pis w++[.int .i64 ((j+1:Nat):Int)]):=by
  rw [o7 tR x5 fun off l c e=>by simp only [PV.sl.injEq]at e;omega];exact x2
 have lk6:=k6.next;have s7:∀t,t<h3.next→t≠t8→t≠t9→t≠σ.next+1→h7.obj t=h3.obj t:=fun t h1 h2 h4 h8=>by
  rw [o7 t (by omega) fun off l c e=>h4 (by simp only [PV.sl.injEq]at e;exact e.1.symm),k6.obj t (by omega),s5 t h1 h2 h8]
 have evst:vst sj (gm O P C a L[j]) (w++[(j:Int)+1])=(sj.1++[gm O P C a L[j]],sj.2++[w++[(j:Int)+1]]):=by
  unfold vst;rw [if_neg hnin]
 obtain⟨u8,d8,rfl,y1,y2,y3,y4,y5⟩:=a5;obtain⟨u9,d9,rfl,z1,z2,z3,z4,z5⟩:=a7;have u8n:h3.next≤u8:=by
  rcases Nat.lt_or_ge u8 h3.next with q|q
  ·exact absurd rfl (n5 u8 q 0 _ d8)
  ·exact q
 have u9n:h6.next≤u9:=by
  rcases Nat.lt_or_ge u9 h6.next with q|q
  ·exact absurd rfl (n7 u9 q 0 _ d9)
  ·exact q
 refine⟨L.length-(j+1),by omega,.fzh tR _ x7 hb6 fun o1=>.here ⟨j+1,.sl u8 0 (sj.1.length+1) d8,.sl u9 0 (sj.2.length+1) d9,bs.set nn (.bool true),r8++[vy],r9++[.fz true (.sl o1 0 (w.length+1) cR) (w.length+1) (pis w++[.int .i64 ((j+1:Nat):Int)])],by omega,rfl,?_,?_⟩⟩
 ·have n1:¬u8=tR:=by omega
  have n2:¬u9=tR:=by omega
  have n3:¬σ.next+1=tR:=by omega
  simp only [sbs,sb,n1,n2,n3,false_and,if_false]
 rw [hnj];have ba8:Bels 0 (r8++[vy]):=(v.a8.snoc fy).bI 0;have hbs:Bels 0 (bs.set nn (.bool true)):=Bels.setB v.be (v:=.bool true) (by exact trivial) nn
 have mk:=zEY (w:=w++[(j:Int)+1]) sh hyS v.bl v.bv hnin;rw [hnn]at mk
 refine⟨?_,?_,?_,by rw [List.length_set];exact v.bl,hbs,mk,?_,?_,fun t off l c off' l' c' e=>?_,?_,?_,?_⟩
 ·exact Keep.sub w0 (k7.kill (by omega)) (by omega)
 ·exact Zt (by rw [s7 σ.next (by omega) (by omega) (by omega) (by omega)];exact v.box) (by omega) bq
 ·refine Zt ?_ (by omega) hbs
  rw [o7 _ (by omega) (fun off l c e=>by simp only [PV.sl.injEq]at e;omega),k6.obj _ (by omega),o5 _ (by show σ.next+1<h3.next;omega) (fun off l c e=>by simp only [PV.sl.injEq]at e;omega),ZC,if_pos rfl]
 ·rw [evst]
  show PSl _ _ _ _ (sj.1++[gm O P C a L[j]]).length _;rw [List.length_append,List.length_singleton];refine⟨u8,d8,rfl,y1,?_,by simpa using y3,y4,by show u8<h7.next;omega⟩
  refine Zt ?_ (by omega) ba8
  rw [o7 u8 (by omega) (fun off l c e=>by simp only [PV.sl.injEq]at e;omega),k6.obj u8 y5];exact y2
 ·rw [evst]
  show PSl _ _ _ _ (sj.2++[w++[(j:Int)+1]]).length _;rw [List.length_append,List.length_singleton];refine⟨u9,d9,rfl,z1,?_,by simpa using z3,z4,by show u9<h7.next;exact z5⟩
  have n2:¬u9=tR:=by omega
  simp only [PHeap.sub,PHeap.kill,if_neg n2,z2,Option.map_some];rw [zLv (v.a9.bI 0) hcR.ok]
 ·simp only [PV.sl.injEq]at e
  intro e2;simp only [PV.sl.injEq]at e2
  omega
 ·rw [evst];exact v.a8.snoc fy
 ·rw [evst]
  refine v.a9.snoc ⟨true,.sl o1 0 (w.length+1) cR,?_⟩;simp [pis]
 ·show σ.next+2≤h7.next;omega
end Go.Proofs
namespace Go.Grp
end Go.Grp
namespace Go.Proofs
open Go.Ab Go.Lie Go.Grp
variable {σ h h':PHeap} {K:PV→PHeap→Prop} {O:List Int} {P:List (List Int)} {C:List (List (List Int))} {vO vP vC vx vM vA v:PV} {x:List Int} {A M:List (List Int)} {sp se:Nat}
theorem Owns.append {lo t hi:Nat} {a b:List PV} (h:Owns lo t a) (g:Owns t hi b) (hl:lo≤t) (ht:t≤hi):Owns lo hi (a++b):=by
 refine⟨q8.2 fun c hc=>?_,?_,fun o ho=>?_⟩
 ·rcases List.mem_append.1 hc with hc | hc
  ·exact q8.1 h.wh c hc
  ·exact q8.1 g.wh c hc
 ·rw [qU,List.nodup_append]
  refine⟨h.nd,g.nd,fun x hx y hy e=>?_⟩
  have:=h.lt x hx
  have:=g.lt y hy
  omega
 ·rw [qU,List.mem_append]at ho
  rcases ho with ho|ho
  ·have:=h.lt o ho;omega
  ·have:=g.lt o ho;omega
theorem zJi {w:Bool} {a:AV}:FG (.fz w a 0 []) []:=⟨w,a,[],rfl,All2.nil _⟩
theorem zNU {w:Bool} {a:AV} {wO wP wC:PV} (h:IsPr wO wP wC O P C):FG (.fz w a 1 [wO,wP,wC]) [(O,P,C)]:=⟨w,a,[(wO,wP,wC)],rfl,(All2.nil FI3).snoc h⟩
end Go.Proofs
namespace Go.Grp
end Go.Grp
namespace Go.Proofs
open Go.Ab Go.Lie Go.Grp
variable {σ h hE:PHeap} {K:PV→PHeap→Prop} {O x:List Int} {P:List (List Int)} {C:List (List (List Int))}
theorem Gh.pwf {v:PV} (c:PWF σ→Gh σ K v h):Gh σ K v h:=fun w=>c w w
theorem Owns.comm {lo hi:Nat} {a b:List PV} (h:Owns lo hi (a++b)):Owns lo hi (b++a):=by
 have hw:=q8.1 h.wh;have nd:=h.nd;rw [qU]at nd
 refine⟨q8.2 fun c hc=>hw c ?_,?_,fun o ho=>h.lt o ?_⟩
 ·rw [List.mem_append]at hc ⊢;exact hc.symm
 ·rw [qU];exact List.perm_append_comm.nodup_iff.1 nd
 ·rw [qU,List.mem_append]at ho ⊢;exact ho.symm
theorem PSl.catK {σb h:PHeap} {bytes n m:Nat} {w:Bool} {av:AV} {v:PV} {cs news:List PV} {K:PV×PHeap→Prop} (hk:Keep σb h) (a:PSl σb.next 1 h v n cs) (hl:news.length=m)
  (h1:(n+m)*bytes≤140737488355328) (h2:n+m≤4611686018427387904) (k:∀v' h',Keep σb h'→PSl σb.next 1 h' v' (n+m) (cs++news)→(∀t,t<h.next→(∀off l c,v≠.sl t off l c)→h'.obj t=h.obj t∧∀off l c,v'≠.sl t off l c)→h.next≤h'.next→h'.top=h.top→K (v',h')):optK (qo 1 bytes h v (.fz w av m news)) K:=by
 by_cases h0:m=0
 ·subst h0
  have:news=[]:=List.eq_nil_of_length_eq_zero hl
  subst this;rw [QX,show plen (.fz w av 0 [])=some 0 from rfl]
  simp only [Option.bind_some,if_true];have hs:psame v=some v:=by
   obtain⟨s,cap,rfl,hc,q2,q3,q4,q5⟩:=a;rcases hc with rfl|rfl
   ·rfl
   ·rw [zCq,if_pos (Nat.le_refl _)]
  rw [hs];exact ZQ rfl (k _ _ hk (by rw [List.append_nil];exact a) (fun t _ hn=>⟨rfl,hn⟩) (Nat.le_refl _) rfl)
 ·refine zDE (PAcc.appS (m:=m) hk (.inr a) rfl h0 (by rw [zET,if_neg h0,if_pos ⟨Nat.le_refl _,by omega,by omega⟩,List.take_of_length_le (by omega)]) (by omega) h1 h2 fun v' h' k1 k2 k3 k4 k5 htop=>?_)
  exact k v' h' k1 k2 (fun t ht hn=>⟨k3 t ht hn,k4 t ht⟩) (Nat.le_of_lt k5) htop
end Go.Proofs
namespace Go.Grp
end Go.Grp
namespace Go.Proofs
open Go.Ab Go.Lie Go.Grp
variable {σ h hE:PHeap} {K:PV→PHeap→Prop} {O x:List Int} {P:List (List Int)} {C:List (List (List Int))} {vO vP vC vx vL vU:PV} {L u:List (List Int)} {sp:Nat}
def OutG (O:List Int) (P:List (List Int)) (C:List (List (List Int))) (L:List (List Int)) (x:List Int):Prop:=
 ((ZF O P C∧Cons O P C)∧∀y∈L,isExp O y)∧L.length≤6∧isExp O x
theorem OutG.lg (h:OutG O P C L x):LG O P C:=⟨h.1.1.1,h.1.1.2⟩
theorem OutG.gs (h:OutG O P C L x):∀y∈L,gS O y:=fun y hy=>(h.1.2 y hy).gS
theorem OutG.sub (h:OutG O P C L x):gB O P C (GC O P C L):=GC.sub h.lg.F h.gs
theorem zF5 (hR:IsPr vO vP vC O P C) (sz:SzP O P C) (hx:FI vx x) (szx:x.length≤1048576) (hk:∀t:Bool,(t=true↔(ZF O P C∧Cons O P C)∧isExp O x)→K (.bool t) σ):zA Try.prog 81 [.agg [vO,vP,vC],vx] σ K:=by
 have fl:∀{A:Prop},¬A→((false=true)↔A):=fun h=>⟨fun x=>(by cases x),fun x=>absurd x h⟩
 have h0:=hR.O.one;have h1:=hR.P.one;have h2:=hR.C.one;refine zA.gh ?_;refine zB mix Try.func81 ?_
 conv=>arg 2;cbv
 refine zC rfl ?_;simp only [pwA,seval,-iQ0,h0,h1,h2,hx.one];refine zGl hR sz fun t ht=>?_
 cases t with
 | false=>
  simp only [pwA,seval,-iQ0];exact Gh.fin0 (zD σ _) trivial (hk _ (fl fun h=>by cases ht.2 h.1))
 | true=>
  simp only [pwA,seval,-iQ0,h0,h1,h2];have hp:=(ht.1 rfl).1;refine zB7 hR sz.O hp.isp hx szx fun t2 ht2=>?_
  simp only [pwA,seval,-iQ0];exact Gh.fin0 (zD σ _) trivial (hk _ (ht2.trans ⟨fun h=>⟨ht.1 rfl,h⟩,fun h=>h.2⟩))
theorem zDI (hR:IsPr vO vP vC O P C) (sz:SzP O P C) (hL:FII vL L) (szL:SzL L) (hx:FI vx x) (szx:x.length≤1048576) (hk:∀t:Bool,(t=true↔OutG O P C L x)→K (.bool t) σ):zA Try.prog 54 [.agg [vO,vP,vC],vL,vx] σ K:=by
 have fl:∀{A:Prop},¬A→((false=true)↔A):=fun h=>⟨fun x=>(by cases x),fun x=>absurd x h⟩
 have h0:=hR.O.one;have h1:=hR.P.one;have h2:=hR.C.one;have hL0:=hL;obtain⟨wl,al,rl,rfl,hrl⟩:=hL;refine zA.gh ?_;refine zB mix Try.func54 ?_
 conv=>arg 2;cbv
 refine zC rfl ?_;simp only [pwA,seval,-iQ0,h0,h1,h2,hx.one];refine zF5 hR sz hx szx fun t ht=>?_
 cases t with
 | false=>
  simp only [pwA,seval,-iQ0];exact Gh.fin0 (zD σ _) trivial (hk _ (fl fun h=>by cases ht.2 ⟨h.1.1,h.2.2⟩))
 | true=>
  by_cases h6:L.length≤6
  ·have h6':(L.length:Int)≤6:=by omega
   simp only [pwA,seval,-iQ0,h6',h0,h1,h2];have hp:=(ht.1 rfl).1.1;refine zEJ hR sz.O hp.isp hL0 szL fun t2 ht2=>?_
   simp only [pwA,seval,-iQ0];exact Gh.fin0 (zD σ _) trivial (hk _ (ht2.trans ⟨fun h=>⟨⟨(ht.1 rfl).1,h⟩,h6,(ht.1 rfl).2⟩,fun h=>h.1.2⟩))
  ·have h6':¬(L.length:Int)≤6:=by omega
   simp only [pwA,seval,-iQ0,h6'];exact Gh.fin0 (zD σ _) trivial (hk _ (fl fun h=>h6 h.2.1))
theorem zE3 {h:PHeap} {s:Nat} {cs vs:List PV} (ho:h.obj s=some cs) (hl:vs.length=cs.length) (h1:vs.all PV.one=true):h.wr s 0 vs=some (h.set s vs):=by
 simp [PHeap.wr,ho,hl,h1]
end Go.Proofs
namespace Go.Grp
end Go.Grp
namespace Go.Proofs
open Go.Ab Go.Lie Go.Grp
variable {σ h hE:PHeap} {K:PV→PHeap→Prop} {O x:List Int} {P:List (List Int)} {C:List (List (List Int))} {vO vP vC vx vL vU:PV} {L u:List (List Int)} {sp:Nat}
def MRes (O:List Int) (P:List (List Int)) (C:List (List (List Int))) (L:List (List Int)) (x:List Int) (k:Int) (G:List Pre) (Z:List (List Int)) (c:Int):Prop:=
 (¬OutG O P C L x∧(k=0∧G=[]∧Z=[])∧c=1)∨(OutG O P C L x∧¬GC O P C L x∧(k=0∧G=[]∧Z=[])∧c=4)∨
 (OutG O P C L x∧∃m w,Fnd O P C L x m∧(stt O P C L m).2[m]? = some w∧((64<w.length∧(k=0∧G=[]∧Z=[])∧c=3)∨(w.length≤64∧(k=2∧G=[(O,P,C)]∧Z=[x,w]++L)∧c=0)))
theorem MRes.unique {k k' c c':Int} {G G':List Pre} {Z Z':List (List Int)} (h:MRes O P C L x k G Z c) (g:MRes O P C L x k' G' Z' c'):(k=k'∧G=G'∧Z=Z')∧c=c':=by
 have mem:∀{m:Nat},OutG O P C L x→Fnd O P C L x m→GC O P C L x:=fun o f=>f.mem o.lg.s o.lg.F o.gs
 rcases h with ⟨a1,⟨rfl,rfl,rfl⟩,rfl⟩|⟨a1,a2,⟨rfl,rfl,rfl⟩,rfl⟩|⟨a1,m,w,f,hw,hh⟩<;>
 rcases g with ⟨b1,⟨rfl,rfl,rfl⟩,rfl⟩|⟨b1,b2,⟨rfl,rfl,rfl⟩,rfl⟩|⟨b1,m',w',f',hw',gg⟩
 ·exact⟨⟨rfl,rfl,rfl⟩,rfl⟩
 ·exact absurd b1 a1
 ·exact absurd b1 a1
 ·exact absurd a1 b1
 ·exact⟨⟨rfl,rfl,rfl⟩,rfl⟩
 ·exact absurd (mem b1 f') a2
 ·exact absurd a1 b1
 ·exact absurd (mem a1 f) b2
 ·obtain rfl:=f.unique f'
  rw [hw]at hw'
  cases hw';rcases hh with ⟨l1,⟨rfl,rfl,rfl⟩,rfl⟩|⟨l1,⟨rfl,rfl,rfl⟩,rfl⟩<;>rcases gg with ⟨l2,⟨rfl,rfl,rfl⟩,rfl⟩|⟨l2,⟨rfl,rfl,rfl⟩,rfl⟩
  ·exact⟨⟨rfl,rfl,rfl⟩,rfl⟩
  ·omega
  ·omega
  ·exact⟨⟨rfl,rfl,rfl⟩,rfl⟩
theorem zJh {hE:PHeap} {g:Nat} {wO wP wC vL:PV} {L:List (List Int)} (kk:Keep σ hE) (hg:hE.obj g=some [wO,wP,wC]) (h0:σ.next≤g) (hq:IsPr wO wP wC O P C) (fL:FII vL L)
  (k:∀o,σ.top≤o→o∉ZE [wO,wP,wC]→o∉addrs vL→σ.top≤max hE.top (o+1)→K (.tup [.agg [.int .i64 2,.fz true (.sl o 0 1 (.known 1)) 1 [wO,wP,wC],vL],.int .i64 0]) (σ.up (max hE.top (o+1)))):Gh σ K (.tup [.agg [.int .i64 2,.sl g 0 1 (.known 1),vL],.int .i64 0]) hE:=by
 refine Gh.freeze (s:=g) (cs:=[wO,wP,wC]) hg h0 ⟨hq.O.bel 0,hq.P.bel 0,hq.C.bel 0,trivial⟩ fun o ho hc hv=>?_
 have sL:sb g o [wO,wP,wC] vL=vL:=fL.sb _ _ _;simp only [sb,sbs,sL,capOK,and_self,if_true,decide_true,Nat.le_refl];have hv':o∉addrs vL:=by
  simp only [addrs,ZE,List.nil_append,List.append_nil]at hv
  exact hv
 exact Gh.fin0T (t:=max hE.top (o+1)) ((kk.kill h0).up (by simp only [PHeap.kill];omega)) (Nat.le_refl _) ⟨⟨trivial,trivial,fL.bel _,trivial⟩,trivial,trivial⟩ fun _=>k o ho hc hv' (by have:=kk.top;omega)
theorem zG9 {vl wO wP wC:PV} {rows:List PV} {M:List (List Int)} {g m:Nat} (kk:Keep σ hE) (a:PSl σ.next 1 hE vl m rows) (hg:hE.obj g=some [wO,wP,wC]) (hg0:σ.next≤g) (n2:∀off l c,vl≠.sl g off l c) (hq:IsPr wO wP wC O P C) (hr:All2 FI rows M) (hm:m=M.length)
  (k:∀vG vL t,FG vG [(O,P,C)]→FII vL M→σ.top≤t→(Owns σ.top hE.top ([wO,wP,wC]++rows)→Owns σ.top t [vG,vL])→K (.tup [.agg [.int .i64 2,vG,vL],.int .i64 0]) (σ.up t)):
  Gh σ K (.tup [.agg [.int .i64 2,.sl g 0 1 (.known 1),vl],.int .i64 0]) hE:=by
 refine Gh.pwf fun w=>?_
 obtain⟨t,c,rfl,q1,q2,q3,q4,q5⟩:=a;have gt:¬g=t:=fun e=>n2 0 m c (by rw [e])
 have bq:Bels 0 [wO,wP,wC]:=⟨hq.O.bel 0,hq.P.bel 0,hq.C.bel 0,trivial⟩;have br:=hr.bI 0;refine Gh.freezeH q2 q4 br fun o2 i2 f2 _=>?_
 have hcap:capOK c m=true:=q1.ok;simp only [sb,sbs,gt,false_and,if_false,and_self,true_and,hcap,if_true];have kk2:=(Keep.sub (s:=t) (o:=o2) (cs:=rows) w (kk.kill q4) q4).up (t:=max hE.top (o2+1)) (by simp only [PHeap.sub,PHeap.kill];omega)
 have hg2:(((hE.kill t).sub t o2 rows).up (max hE.top (o2+1))).obj g=some [wO,wP,wC]:=by
  simp only [PHeap.up,PHeap.sub,PHeap.kill,if_neg gt,hg,Option.map_some];rw [Z6 (Nat.zero_le _) bq]
 have tp2:(((hE.kill t).sub t o2 rows).up (max hE.top (o2+1))).top=max hE.top (o2+1):=rfl;generalize ((hE.kill t).sub t o2 rows).up (max hE.top (o2+1))=H2 at *
 have fL:FII (.fz true (.sl o2 0 m c) m rows) M:=⟨true,.sl o2 0 m c,rows,by rw [hm],hr⟩
 refine zJh kk2 hg2 hg0 hq fL fun o3 i3 f3 f4 ht3=>k _ _ _ (zNU hq) fL ht3 fun ow=>?_
 have a2:o2∉eads ([wO,wP,wC]++rows):=by
  rw [qU,List.mem_append]
  rintro (hm | hm)
  ·exact f2 g _ hg (ZB hm)
  ·exact f2 t _ q2 (ZB hm)
 have o2w:=Owns.last (l:=m) (cap:=c) ow i2 (hi':=max hE.top (o2+1)) (by omega) (by omega) a2
 have o2c:=Owns.comm o2w;have a3:o3∉eads ([.fz true (.sl o2 0 m c) m rows]++[wO,wP,wC]):=by
  rw [qU,List.mem_append]
  rintro (hm | hm)
  ·refine f4 (zAt ?_)
   simpa only [eads,List.append_nil]using hm
  ·exact f3 (ZB hm)
 have o3w:=Owns.last (l:=1) (cap:=.known 1) o2c i3 (hi':=max H2.top (o3+1)) (by omega) (by omega) a3
 exact Owns.comm (a:=[_]) (b:=[_]) o3w
theorem zEQ (sz:SzP O P C) (hR:IsPr vO vP vC O P C) (hL:FII vL L) (szL:SzL L) (hx:FI vx x) (szx:x.length≤1048576)
  (hk:∀k G Z vG vZ c t,MRes O P C L x k G Z c→FG vG G→FII vZ Z→σ.top≤t→K (.tup [.agg [.int .i64 k,vG,vZ],.int .i64 c]) (σ.up t)):zA Try.prog 21 [.agg [vO,vP,vC],vL,vx] σ K:=by
 have g0:=hR.O.one;have g1:=hR.P.one;have g2:=hR.C.one;have hkp:Keep σ ((σ.new [vO,vP,vC]).new [.int .i64 0,.fz true .nils 0 [],.fz true .nils 0 []]):=(zD _ _).new _;have nilE:∀{c:Int} {g:PHeap},Keep σ g→MRes O P C L x 0 [] [] c→Gh σ K (.tup [.agg [.int .i64 0,.fz true .nils 0 [],.fz true .nils 0 []],.int .i64 c]) g:=fun {c g} kk h=>
  Gh.fin0T kk kk.top ⟨⟨trivial,trivial,trivial,trivial⟩,trivial,trivial⟩ fun _=>hk 0 [] [] _ _ c σ.top h zJi ⟨true,.nils,[],rfl,All2.nil _⟩ (Nat.le_refl _)
 have hL0:=hL;obtain⟨wl,al,rl,rfl,hrl⟩:=hL;have hx0:=hx;obtain⟨wx,ax,rfl⟩:=hx;refine zA.gh ?_;refine zB mix Try.func21 ?_
 conv=>arg 2;cbv
 refine zC rfl ?_;simp only [pwA,seval,-iQ0,g0,g1,g2];refine zDI hR sz hL0 szL hx0 szx fun t ht=>?_
 cases t with
 | false=>
  simp only [pwA,seval,-iQ0,g0,g1,g2];exact nilE hkp (.inl ⟨fun h=>(by cases ht.2 h),⟨rfl,rfl,rfl⟩,rfl⟩)
 | true=>
 have hO:=ht.1 rfl;have lg:=hO.lg;have hn6:=lg.s.le;simp only [pwA,seval,-iQ0,g0,g1,g2];refine zGj lg hR hL0 szL hO.gs fun vU u fU hu=>?_
 simp only [pwA,seval,-iQ0,g0,g1,g2,fU.one];refine zJS lg hR hO.sub fU hu hO.2.2.gS hx0 fun t ht=>?_
 cases t with
 | false=>
  simp only [pwA,seval,-iQ0,g0,g1,g2];exact nilE hkp (.inr (.inl ⟨hO,fun h=>(by cases ht.2 h),⟨rfl,rfl,rfl⟩,rfl⟩))
 | true=>
 have hg:=ht.1 rfl;simp only [pwA,seval,-iQ0,g0,g1,g2];refine zHq lg hR hL0 hO.2.1 hO.gs hO.2.2.gS hx0 hg fun vw mm w hf hw fw hwl=>?_
 obtain⟨ww,aw,rfl⟩:=fw
 by_cases h64:64<w.length
 ·have h64':(64:Int)<(w.length:Int):=by omega
  simp only [pwA,seval,-iQ0,h64',g0,g1,g2];exact nilE hkp (.inr (.inr ⟨hO,mm,w,hf,hw,.inl ⟨h64,⟨rfl,rfl,rfl⟩,rfl⟩⟩))
 have h64':¬(64:Int)<(w.length:Int):=by omega
 simp only [pwA,seval,-iQ0,h64'];refine zAp rfl (by omega) fun a1=>?_
 have h6:=hO.2.1;simp only [pwA,seval,-iQ0];refine zBc hL0 szL fun vg fg=>?_
 obtain⟨wg,ag,rg,rfl,hrg⟩:=fg;generalize hH:((σ.new [vO,vP,vC]).new [PV.int IntKind.i64 0,PV.fz true AV.nils 0 [],PV.fz true AV.nils 0 []]).new [PV.fz true a1 x.length (pis x),PV.fz ww aw w.length (pis w)]=H at *
 have kH:Keep σ H:=by rw [←hH];exact hkp.new _
 have nH:H.next=σ.next+3:=by rw [←hH];rfl
 have e0:H.obj σ.next=some [vO,vP,vC]:=by rw [←hH];simp only [pwA,seval,-iQ0]
 have e1:H.obj (σ.next+1)=some [.int .i64 0,.fz true .nils 0 [],.fz true .nils 0 []]:=by rw [←hH];simp only [pwA,seval,-iQ0]
 have e3:H.obj (σ.next+2)=some [.fz true a1 x.length (pis x),.fz ww aw w.length (pis w)]:=by rw [←hH];simp only [pwA,seval,-iQ0]
 simp only [pwA,seval,-iQ0];refine PSl.catK (bytes:=24) (σb:=σ) (n:=2) kH ⟨_,_,rfl,.inr rfl,e3,rfl,by omega,by omega⟩ (by rw [hrg.1]) (by omega) (by omega) fun v3 h3 k3 a3 s3 n3 t3=>?_
 have nn:∀{t:Nat},t<2→∀off l c,PV.sl (σ.next+2) 0 2 (Cap.known 2)≠.sl (σ.next+t) off l c:=fun ht off l c e=>by
  simp only [PV.sl.injEq]at e
  omega
 obtain⟨q0,p0⟩:=s3 σ.next (by omega) (nn (t:=0) (by omega))
 obtain⟨q1,p1⟩:=s3 (σ.next+1) (by omega) (nn (t:=1) (by omega))
 have r0:h3.rd σ.next 0 3=some [vO,vP,vC]:=by rw [QC (q0.trans e0)];rfl
 have z3:ofAVs (zeros [.nils,.nils,.nils] 1)=[.fz true .nils 0 [],.fz true .nils 0 [],.fz true .nils 0 []]:=rfl;simp only [pwA,seval,-iQ0,a3.one,r0,g0,g1,g2];refine zK2 hR sz fun wO wP wC hq=>?_
 have c3:v3.cells=[v3]:=by obtain⟨s,cap,rfl,_⟩:=a3;rfl
 have he1:h3.obj (σ.next+1)=some [.int .i64 0,.fz true .nils 0 [],.fz true .nils 0 []]:=q1.trans e1;have kk3:=k3.next;have nk1:¬σ.next+1=h3.next:=by omega
 have ewr:h3.wr (σ.next+1) 0 [.int .i64 2,.sl h3.next 0 1 (.known 1),v3]=some (h3.set (σ.next+1) [.int .i64 2,.sl h3.next 0 1 (.known 1),v3]):=zE3 he1 rfl (by obtain⟨s,cap,rfl,_⟩:=a3;rfl)
 simp only [pwA,seval,-iQ0,a3.one,c3,nk1,ewr,z3,hq.O.one,hq.P.one,hq.C.one];obtain⟨s4,cap4,rfl,c4,o4,l4,b4,b5⟩:=a3;have ns1:¬s4=σ.next+1:=fun e=>p1 0 _ _ (by rw [e])
 refine zG9 (M:=[x,w]++L) ((k3.set (Nat.le_succ _) _).new _) ⟨s4,cap4,rfl,c4,?_,l4,b4,Nat.lt_succ_of_lt b5⟩ ?_ (by omega) (fun off l c e=>?_) hq (All2.append (((All2.nil FI).snoc ⟨true,a1,rfl⟩).snoc ⟨ww,aw,rfl⟩) hrg) (by simp;omega) fun vG vL t fG fL ht _=>hk 2 _ _ vG vL 0 t (.inr (.inr ⟨hO,mm,w,hf,hw,.inr ⟨by omega,⟨rfl,rfl,rfl⟩,rfl⟩⟩)) fG fL ht
 ·rw [qf,if_neg (show ¬s4=(h3.set _ _).next from Nat.ne_of_lt b5),ZC,if_neg ns1,o4]
 ·rw [qf];exact if_pos rfl
 ·simp only [PV.sl.injEq]at e
  omega
theorem zE1 (sz:SzP O P C) (hR:IsPr vO vP vC O P C) (hL:FII vL L) (szL:SzL L) (hx:FI vx x) (szx:x.length≤1048576)
  (hk:∀k G Z vG vZ c,MRes O P C L x k G Z c→FG vG G→FII vZ Z→K (.tup [.agg [.int .i64 k,vG,vZ],.int .i64 c]) σ):zA Try.prog 21 [.agg [vO,vP,vC],vL,vx] σ K:=
 zA.notop (p:=fun v _=>∃k G Z vG vZ c,v=.tup [.agg [.int .i64 k,vG,vZ],.int .i64 c]∧MRes O P C L x k G Z c∧FG vG G∧FII vZ Z)
  (fun K' k'=>zEQ sz hR hL szL hx szx fun k G Z vG vZ c t h1 h2 h3 ht=>k' _ t ⟨⟨trivial,h2.bel _,h3.bel _,trivial⟩,trivial,trivial⟩ ⟨k,G,Z,vG,vZ,c,rfl,h1,h2,h3⟩ ht)
  fun v t ⟨k,G,Z,vG,vZ,c,e,h1,h2,h3⟩=>by rw [e];exact hk k G Z vG vZ c h1 h2 h3
end Go.Proofs
namespace Go.Grp
end Go.Grp
namespace Go.Proofs
open Go.Ab Go.Lie Go.Grp
variable {σ h hE:PHeap} {K:PV→PHeap→Prop} {O x:List Int} {P:List (List Int)} {C:List (List (List Int))} {vO vP vC vx vL vU:PV} {L u:List (List Int)} {sp:Nat}
theorem Own.rows {lo hi l:Nat} {w:Bool} {a:AV} {cs:List PV} (h:Own lo hi (.fz w a l cs)):Owns lo hi cs:=by
 cases cs with
 | nil=>exact Owns.nil _ _
 | cons c cs=>
  have hw:=h.wh;rcases hw with hw|hw
  ·cases hw
  ·obtain⟨_,h2,h3⟩:=hw
   cases a<;>try cases h2
   refine⟨h3,?_,fun o ho=>h.lt o ?_⟩
   ·have:=h.nd
    rw [Zl (by simp)]at this
    exact(List.nodup_cons.1 this).2
   ·rw [Zl (by simp)]
    exact List.mem_cons_of_mem _ ho
def SWC (P':Program) (f:FuncId):Prop:=∀{O x:List Int} {P:List (List Int)} {C:List (List (List Int))} {vO vP vC vx vL:PV} {L:List (List Int)} {sp:Nat} {σ:PHeap} {K:PV→PHeap→Prop},LG O P C→PtrG σ sp vO vP vC→IsPr vO vP vC O P C→FII vL L→L.length≤6→(∀l∈L,gS O l)→gS O x→FI vx x→
 (∀v k w t,Fnd O P C L x k→(stt O P C L k).2[k]? = some w→FI v w→w.length≤117649→Own σ.top t v→σ.top≤t→K (.tup [v,.bool true]) (σ.up t))→(∀v,¬GC O P C L x→FI v []→K (.tup [v,.bool false]) σ)→zA P' f [.ptr sp 0,vL,vx] σ K
theorem zBq (sw:SWC Try.prog 62) (sz:SzP O P C) (hR:IsPr vO vP vC O P C) (hL:FII vL L) (szL:SzL L) (hx:FI vx x) (szx:x.length≤1048576)
  (hk:∀k G Z vG vZ c t,MRes O P C L x k G Z c→FG vG G→FII vZ Z→Owns σ.top t [vG,vZ]→σ.top≤t→K (.tup [.agg [.int .i64 k,vG,vZ],.int .i64 c]) (σ.up t)):zA Try.prog 24 [.agg [vO,vP,vC],vL,vx] σ K:=by
 have g0:=hR.O.one;have g1:=hR.P.one;have g2:=hR.C.one;have hkp:Keep σ ((σ.new [vO,vP,vC]).new [.int .i64 0,.fz true .nils 0 [],.fz true .nils 0 []]):=(zD _ _).new _;have hs:PtrG ((σ.new [vO,vP,vC]).new [.int .i64 0,.fz true .nils 0 [],.fz true .nils 0 []]) σ.next vO vP vC:=⟨by simp only [pwA,seval,-iQ0],by show σ.next<σ.next+1+1;omega⟩
 have nilE:∀{c:Int} {g:PHeap},Keep σ g→MRes O P C L x 0 [] [] c→Gh σ K (.tup [.agg [.int .i64 0,.fz true .nils 0 [],.fz true .nils 0 []],.int .i64 c]) g:=fun {c g} kk h=>
  Gh.fin0T kk kk.top ⟨⟨trivial,trivial,trivial,trivial⟩,trivial,trivial⟩ fun _=>hk 0 [] [] _ _ c σ.top h zJi ⟨true,.nils,[],rfl,All2.nil _⟩ (((Owns.nil σ.top σ.top).snoc (Own.empty _ _ true .nils 0) (Nat.le_refl _) (Nat.le_refl _)).snoc (Own.empty _ _ true .nils 0) (Nat.le_refl _) (Nat.le_refl _)) (Nat.le_refl _)
 have hL0:=hL;obtain⟨wl,al,rl,rfl,hrl⟩:=hL;have hx0:=hx;obtain⟨wx,ax,rfl⟩:=hx;refine zA.gh ?_;refine zB mix Try.func24 ?_
 conv=>arg 2;cbv
 refine zC rfl ?_;simp only [pwA,seval,-iQ0,g0,g1,g2];refine zEN hs hR sz hL0 szL fun t ht=>?_
 cases t with
 | false=>
  simp only [pwA,seval,-iQ0,g0,g1,g2];exact nilE hkp (.inl ⟨fun h=>(by cases ht.2 h.1),⟨rfl,rfl,rfl⟩,rfl⟩)
 | true=>
 by_cases h6:L.length≤6
 rotate_left
 ·have n6:(6:Int)<(L.length:Int):=by omega
  simp only [pwA,seval,-iQ0,n6];exact nilE hkp (.inl ⟨fun h=>h6 h.2.1,⟨rfl,rfl,rfl⟩,rfl⟩)
 have n6:¬(6:Int)<(L.length:Int):=by omega
 have hp:=(ht.1 rfl).1.1;simp only [pwA,seval,-iQ0,n6];refine Qq hs hR.O sz.O hp.isp hx0 szx fun t2 ht2=>?_
 cases t2 with
 | false=>
  simp only [pwA,seval,-iQ0,g0,g1,g2];exact nilE hkp (.inl ⟨fun h=>(by cases ht2.2 h.2.2),⟨rfl,rfl,rfl⟩,rfl⟩)
 | true=>
 have hO:OutG O P C L x:=⟨ht.1 rfl,h6,ht2.1 rfl⟩;have lg:=hO.lg;simp only [pwA,seval,-iQ0];have hn6:=lg.s.le;refine sw lg hs hR hL0 hO.2.1 hO.gs hO.2.2.gS hx0 (fun vw mm w t1 hf hw fw hwl oW ht1=>?_) (fun vw hng fw=>?_)
 rotate_left
 ·simp only [pwA,seval,-iQ0,g0,g1,g2,fw.one,fw.cells]
  exact nilE hkp (.inr (.inl ⟨hO,hng,⟨rfl,rfl,rfl⟩,rfl⟩))
 obtain⟨ww,aw,rfl⟩:=fw;simp only [pwA,seval,-iQ0,g0,g1,g2]
 by_cases h64:64<w.length
 ·have h64':(64:Int)<(w.length:Int):=by omega
  simp only [pwA,seval,-iQ0,h64',g0,g1,g2];exact nilE (hkp.up ht1) (.inr (.inr ⟨hO,mm,w,hf,hw,.inl ⟨h64,⟨rfl,rfl,rfl⟩,rfl⟩⟩))
 have h64':¬(64:Int)<(w.length:Int):=by omega
 simp only [pwA,seval,-iQ0,h64'];refine zA.fzIT (fun K' k'=>zAe rfl (by omega) k') fun v5 t5 hv5 ho5 ht5=>?_
 simp only [pwA,seval,-iQ0,hv5.one,hv5.cells];refine zBf szL.r (by omega) hL0 fun vg t6 fg og ht6=>?_
 obtain⟨wg,ag,rg,rfl,hrg⟩:=fg;have ht1':σ.top≤t1:=ht1;have ht5':t1≤t5:=ht5;have ht6':t5≤t6:=ht6;have oW':Own σ.top t1 (.fz ww aw w.length (pis w)):=oW;have o5':Own t1 t5 v5:=ho5;have og':Owns t5 t6 rg:=Own.rows og;generalize hH:((((((σ.new [vO,vP,vC]).new [PV.int IntKind.i64 0,PV.fz true AV.nils 0 [],PV.fz true AV.nils 0 []]).new [v5,PV.fz ww aw w.length (pis w)]).up t1).up t5).up t6)=H at *
 have kH:Keep σ H:=by rw [←hH];exact(((hkp.new _).up ht1).up ht5).up ht6
 have nH:H.next=σ.next+3:=by rw [←hH];rfl
 have tH:H.top=t6:=by rw [←hH];rfl
 have e0:H.obj σ.next=some [vO,vP,vC]:=by rw [←hH];simp only [pwA,seval,-iQ0]
 have e1:H.obj (σ.next+1)=some [.int .i64 0,.fz true .nils 0 [],.fz true .nils 0 []]:=by rw [←hH];simp only [pwA,seval,-iQ0]
 have e3:H.obj (σ.next+2)=some [v5,.fz ww aw w.length (pis w)]:=by rw [←hH];simp only [pwA,seval,-iQ0]
 simp only [pwA,seval,-iQ0];refine PSl.catK (bytes:=24) (σb:=σ) (n:=2) kH ⟨_,_,rfl,.inr rfl,e3,rfl,by omega,by omega⟩ (by rw [hrg.1]) (by omega) (by omega) fun v3 h3 k3 a3 s3 n3 t3=>?_
 have nn:∀{t:Nat},t<2→∀off l c,PV.sl (σ.next+2) 0 2 (Cap.known 2)≠.sl (σ.next+t) off l c:=fun ht off l c e=>by
  simp only [PV.sl.injEq]at e
  omega
 obtain⟨q0,p0⟩:=s3 σ.next (by omega) (nn (t:=0) (by omega))
 obtain⟨q1,p1⟩:=s3 (σ.next+1) (by omega) (nn (t:=1) (by omega))
 have hs3:PtrG h3 σ.next vO vP vC:=⟨q0.trans e0,by omega⟩
 simp only [pwA,seval,-iQ0,a3.one];refine zCG lg.s hs3 hR fun wO wP wC t7 hq oq ht7=>?_
 have oq':Owns t6 t7 [wO,wP,wC]:=by rw [t3,tH]at oq;exact oq
 have ht7':t6≤t7:=by rw [t3,tH]at ht7;exact ht7
 have z3:ofAVs (zeros [.nils,.nils,.nils] 1)=[.fz true .nils 0 [],.fz true .nils 0 [],.fz true .nils 0 []]:=rfl;have c3:v3.cells=[v3]:=by obtain⟨s,cap,rfl,_⟩:=a3;rfl
 have he1:h3.obj (σ.next+1)=some [.int .i64 0,.fz true .nils 0 [],.fz true .nils 0 []]:=q1.trans e1;have kk3:=k3.next;have nk1:¬σ.next+1=h3.next:=by omega
 have ewr:h3.wr (σ.next+1) 0 [.int .i64 2,.sl h3.next 0 1 (.known 1),v3]=some (h3.set (σ.next+1) [.int .i64 2,.sl h3.next 0 1 (.known 1),v3]):=zE3 he1 rfl (by obtain⟨s,cap,rfl,_⟩:=a3;rfl)
 simp only [pwA,seval,-iQ0,a3.one,c3,nk1,ewr,z3,hq.O.one,hq.P.one,hq.C.one];obtain⟨s4,cap4,rfl,c4,o4,l4,b4,b5⟩:=a3;have ns1:¬s4=σ.next+1:=fun e=>p1 0 _ _ (by rw [e])
 refine zG9 (M:=[x,w]++L) (((k3.set (Nat.le_succ _) _).new _).up ht7) ⟨s4,cap4,rfl,c4,?_,l4,b4,Nat.lt_succ_of_lt b5⟩ ?_ (by omega) (fun off l c e=>?_) hq (All2.append (((All2.nil FI).snoc hv5).snoc ⟨ww,aw,rfl⟩) hrg) (by simp;omega) fun vG vL t fG fL ht ow=>hk 2 _ _ vG vL 0 t (.inr (.inr ⟨hO,mm,w,hf,hw,.inr ⟨by omega,⟨rfl,rfl,rfl⟩,rfl⟩⟩)) fG fL (ow ?_) ht
 ·show((h3.set _ _).new _).obj s4=_
  rw [qf,if_neg (show ¬s4=(h3.set _ _).next from Nat.ne_of_lt b5),ZC,if_neg ns1,o4]
 ·show((h3.set _ _).new _).obj h3.next=_
  rw [qf];exact if_pos rfl
 ·simp only [PV.sl.injEq]at e
  omega
 ·show Owns σ.top t7 _
  have w1:Owns σ.top t1 [PV.fz ww aw w.length (pis w)]:=(Owns.nil σ.top σ.top).snoc oW' (Nat.le_refl _) ht1';have w2:Owns t1 t5 [v5]:=(Owns.nil t1 t1).snoc o5' (Nat.le_refl _) ht5';have w3:=Owns.comm (Owns.append w1 w2 ht1' ht5');have w4:=Owns.append w3 og' (by omega) ht6'
  exact Owns.comm (Owns.append w4 oq' (by omega) ht7')
end Go.Proofs
