/- Least subrings and ideals and centralizers: the reference's side. -/
import Derived.Test.YtjlpbpfaihhamaaGreatBP37
import Derived.Test.YtjlpbpfaihhamaaGreatBP30
import Derived.Test.YtjlpbpfaihhamaaGreatBAbPa
import Derived.Test.YtjlpbpfaihhamaaGreatBP29
import Derived.Test.YtjlpbpfaihhamaaGreatBP34
import Derived.Test.YtjlpbpfaihhamaaGreatBAbPn
import Derived.Test.YtjlpbpfaihhamaaGreatBAbPz
import Derived.Test.YtjlpbpfaihhamaaGreatBAbPh
import Derived.Test.YtjlpbpfaihhamaaGreatBAbPj
open Int renaming reduceNatCast'→iQ0
set_option maxRecDepth 100000
set_option linter.unusedSimpArgs false
set_option linter.unusedVariables false
namespace Go.Proofs
open Go.Ab Go.Lie
variable {σ:PHeap} {K:PV→PHeap→Prop} {p:Int} {n c m k:Nat} {W:List (List Int)} {B:List (List (List Int))} {vP vB vL:PV} {s:Nat} {x y u v:List Int} {vx vy:PV} {xs:List (List Int)}
theorem zAz (hL:FII vL xs) (sz:SzL xs) (hk:∀v,FII v xs→K v σ):zA Tryz.prog 38 [vL] σ K:=by
 have hb:=sz.l;obtain⟨wl,al,rl,rfl,hrl⟩:=hL;refine zA.gh ?_;refine zB mix Tryz.func38 ?_;simp only [pwA,seval,-iQ0];refine zD (fun m vs h'=>∃i v rows,i≤xs.length∧m=xs.length-i∧vs=[.fz wl al xs.length rl,v,.int .i64 (i:Nat)]∧Keep σ h'∧PSl σ.next 1 h' v i rows∧All2 FI rows (xs.take i)) xs.length ?_ ?_
 ·exact⟨0,_,[],by omega,by omega,rfl,zC σ _,PSl.new σ.next 1 rfl (Nat.le_refl _),by simpa using All2.nil _⟩
 ·rintro m vs h' ⟨i,v,rows,hi,rfl,rfl,hkp,ha,hall⟩
  simp only [pwA,seval,-iQ0];refine iteI (fun hlt=>?_) fun hge=>?_
  ·obtain⟨w4,a4,hrk⟩:=hrl.rowI hlt
   simp only [pwA,seval,-iQ0,hlt,hrk];refine zA.fz (e:=1) (fun K'=>Zx rfl (by have:=sz.r _ (List.getElem_mem hlt);omega)) (zo _ _) fun o cap=>?_
   simp only [pwA,seval,-iQ0];refine PSl.push (bytes:=24) (σb:=σ) hkp ha (by omega) (by omega) fun v2 h2 k2 a2=>?_
   simp only [pwA,seval,-iQ0,wrapS hlt (by omega:xs.length≤4611686018427387904)]
   refine⟨_,by omega,i+1,v2,_,by omega,rfl,rfl,k2,a2,?_⟩
   rw [List.take_succ_eq_append_getElem hlt];exact hall.snoc ⟨_,_,rfl⟩
  ·have hie:i=xs.length:=by omega
   subst hie;rw [List.take_length]at hall
   exact ha.fin hkp (hall.bI 0) fun o cap=>hk _ ⟨_,_,_,rfl,hall⟩
end Go.Proofs
namespace Go.Grp
end Go.Grp
namespace Go.Proofs
open Go.Ab Go.Lie Go.Grp
variable {σ:PHeap} {K:PV→PHeap→Prop} {n c:Nat} {p:Int} {W:List (List Int)} {B:List (List (List Int))} {vP vB vM:PV} {s:Nat} {O:List Int} {P:List (List Int)} {C:List (List (List Int))} {vO vQ vC:PV} {lo hi:Nat}
theorem zFo {v:PV} {xs:List (List (List Int))} {k:Int} (hI:FIII v (sqL (sqL sqI List.length) (totL List.length) k xs)) (sz:SzM xs) (hk0:0≤k) (hk1:k+totL (totL List.length) xs≤4611686018427387904) (hk:K (.int .i64 (k+totL (totL List.length) xs)) σ):zA Tryz.prog 97 [v,.int .i64 k] σ K:=by
 have hb:=sz.l;obtain⟨w,a,rows,rfl,hr⟩:=hI;have hl:=Q9 (sqL sqI List.length) (totL List.length) xs k;have hg:∀(i:Nat) (hi:i<xs.length) (h2:i<(sqL (sqL sqI List.length) (totL List.length) k xs).length),(sqL (sqL sqI List.length) (totL List.length) k xs)[i]=sqL sqI List.length (k+totL (totL List.length) (xs.take i)) xs[i]:=fun i hi _=>zF9 (sqL sqI List.length) (totL List.length) xs k i hi
 generalize sqL (sqL sqI List.length) (totL List.length) k xs=ys at *
 refine zB mix Tryz.func97 ?_;simp only [pwA,seval,-iQ0];refine zD (fun m vs h'=>∃i:Nat,i≤ys.length∧m=ys.length-i∧vs=[.fz w a ys.length rows,.int .i64 (k+totL (totL List.length) (xs.take i)),.int .i64 i]∧σ=h') ys.length ?_ ?_
 ·exact⟨0,by omega,by omega,by rw [List.take_zero,zCE,show k+((0:Nat):Int)=k by omega];rfl,rfl⟩
 rintro m vs h' ⟨i,hi,rfl,rfl,rfl⟩
 simp only [pwA,seval,-iQ0];refine iteI (fun hlt=>?_) fun hge=>?_
 ·have hlx:i<xs.length:=by omega
  obtain⟨w4,a4,rk,hrk,hrk2⟩:=hr.rowL hlt;have ht:=zBe (len:=totL List.length) hlx;have htl:=zDk (totL List.length) xs (i+1);have hgi:=hg i hlx hlt;simp only [pwA,seval,-iQ0,hlt,hrk];have hbi:=sz.r _ (List.getElem_mem hlx);refine zAX (xs:=xs[i]) ⟨w4,a4,rk,by rw [←hgi],by rw [←hgi];exact hrk2⟩ (by have:=hbi.l;omega) (fun y hy=>by have:=hbi.r y hy;omega) (by omega) (by omega) ?_
  have hn:¬(k+(totL (totL List.length) (xs.take i):Int)+(totL List.length xs[i]:Int)<0):=by omega
  simp only [pwA,seval,-iQ0,hn,wrapS hlt (by omega:ys.length≤4611686018427387904)]
  refine⟨_,by omega,i+1,by omega,rfl,?_⟩
  have:k+(totL (totL List.length) (xs.take i):Int)+(totL List.length xs[i]:Int)=k+(totL (totL List.length) (xs.take (i+1)):Int):=by omega
  rw [this]
 ·have hie:i=xs.length:=by omega
  subst hie;rw [List.take_length];exact hk
end Go.Proofs
namespace Go.Grp
end Go.Grp
namespace Go.Proofs
open Go.Ab Go.Lie Go.Grp
variable {σ:PHeap} {K:PV→PHeap→Prop} {G:List Pre} {L:List (List Int)} {vG vL:PV} {lo hi:Nat} {kk:Int}
theorem rmP7 {lo hi:Nat} {k:Int} {vO vP vC:PV} {O:List Int} {P:List (List Int)} {C:List (List (List Int))} (hR:IsPr vO vP vC O P C) (ho:Own lo hi (.agg [vO,vP,vC])):
  FI (Go.Ab.rm (mkPr k vO vP vC O P C) vO) (sqI k O)∧FII (Go.Ab.rm (mkPr k vO vP vC O P C) vP) (sqL sqI List.length (k+O.length) P)∧FIII (Go.Ab.rm (mkPr k vO vP vC O P C) vC) (sqL (sqL sqI List.length) (totL List.length) (k+O.length+totL List.length P) C):=by
 obtain⟨⟨w0,w1,w2,_⟩,hnd,_⟩:=ho;simp only [ead,eads,List.append_nil,List.nodup_append]at hnd
 obtain⟨n0,⟨n1,n2,d12⟩,d0⟩:=hnd;have k0:=mkT_I.keys (k:=k) hR.O w0;have k1:=mkT_I.F.keys (k:=k+O.length) hR.P w1;have k2:=mkT_I.F.F.keys (k:=k+O.length+totL List.length P) hR.C w2;have r0:=mkT_I.rd (k:=k) hR.O w0 n0;have r1:=mkT_I.F.rd (k:=k+O.length) hR.P w1 n1;have r2:=mkT_I.F.F.rd (k:=k+O.length+totL List.length P) hR.C w2 n2;have e0:Go.Ab.rm (mkPr k vO vP vC O P C) vO=Go.Ab.rm (mkI k vO O) vO:=Qv fun o hm=>by
  unfold mkPr;rw [zAw];intro hx;rw [List.map_append,List.mem_append]at hx
  rcases hx with hx|hx
  ·exact d0 o hm o (List.mem_append.2 (.inl (k1 o hx))) rfl
  ·exact d0 o hm o (List.mem_append.2 (.inr (k2 o hx))) rfl
 have e1:Go.Ab.rm (mkPr k vO vP vC O P C) vP=Go.Ab.rm (mkF mkI List.length (k+O.length) vP P) vP:=Qv fun o hm=>by
  unfold mkPr;rw [Qm fun hx=>d0 o (k0 o hx) o (List.mem_append.2 (.inl hm)) rfl,zAw fun hx=>d12 o hm o (k2 o hx) rfl]
 have e2:Go.Ab.rm (mkPr k vO vP vC O P C) vC=Go.Ab.rm (mkF (mkF mkI List.length) (totL List.length) (k+O.length+totL List.length P) vC C) vC:=Qv fun o hm=>by
  unfold mkPr;rw [Qm fun hx=>d0 o (k0 o hx) o (List.mem_append.2 (.inr hm)) rfl,Qm fun hx=>d12 o (k1 o hx) o hm rfl]
 rw [e0,e1,e2];exact⟨r0,r1,r2⟩
theorem zIF {x:Nat}:∀{l:List Nat},x∈l→x≤l.foldr max 0
 | y::l,h=>by
  rcases List.mem_cons.1 h with rfl|h
  ·exact Nat.le_max_left _ _
  ·exact Nat.le_trans (zIF h) (Nat.le_max_right _ _)
theorem rmC {k:Int} (hG:FG vG G) (h1:G.length≤1) (hL:FII vL L) (ho:Own lo hi (.agg [.int .i64 kk,vG,vL])):
  HG (Go.Ab.rm (mkC k vG vL G L) vG) G k∧FII (Go.Ab.rm (mkC k vG vL G L) vL) (sqL sqI List.length (k+totG G) L):=by
 obtain⟨⟨_,wG,wL,_⟩,hnd,_⟩:=ho;simp only [ead,eads,List.nil_append,List.append_nil,List.nodup_append]at hnd
 obtain⟨dG,dL,dd⟩:=hnd;have kG:=zEp (k:=k) hG h1 wG;have kL:=(mkT_I.F).keys (k:=k+totG G) hL wL;have rL:=mkT_I.F.rd (k:=k+totG G) hL wL dL;have eL:Go.Ab.rm (mkC k vG vL G L) vL=Go.Ab.rm (mkF mkI List.length (k+totG G) vL L) vL:=Qv fun o hm=>by
  unfold mkC;rw [Qm fun hx=>dd o (kG o hx) o hm rfl]
 have eG:Go.Ab.rm (mkC k vG vL G L) vG=Go.Ab.rm (mkG k vG G) vG:=Qv fun o hm=>by
  unfold mkC;rw [zAw fun hx=>dd o hm o (kL o hx) rfl]
 rw [eL,eG];refine⟨?_,rL⟩;rcases zEz hG h1 with ⟨rfl,w,a,rfl⟩|⟨w,a,vO,vP,vC,O,P,C,rfl,rfl,hR⟩
 ·exact .inl ⟨rfl,w,a,rfl⟩
 ·obtain⟨hwt,ha,hWs⟩:=wG.resolve_left (by simp)
  subst hwt;obtain⟨o,off,l,cap,rfl⟩:∃o off l cap,a=.sl o off l cap:=by
   cases a<;>simp only [isSl,Bool.false_eq_true]at ha
   exact⟨_,_,_,_,rfl⟩
  rw [QB (by simp)]at dG
  obtain⟨no,nd⟩:=List.nodup_cons.1 dG;obtain⟨r0,r1,r2⟩:=rmP7 (lo:=0) (hi:=(eads [vO,vP,vC]).foldr max 0+1) (k:=k) hR ⟨hWs,nd,fun x hx=>⟨Nat.zero_le _,Nat.lt_succ_of_le (zIF hx)⟩⟩
  have hno:(mkPr k vO vP vC O P C).lookup o=none:=qh.2 fun hm=>no (zBk (k:=k) hR hWs o hm)
  refine .inr ⟨true,.sl o off l cap,_,_,_,O,P,C,rfl,?_,r0,r1,r2⟩;show Go.Ab.rm (mkPr k vO vP vC O P C) (.fz true (.sl o off l cap) 1 [vO,vP,vC])=_;simp only [Go.Ab.rm,List.isEmpty_cons,cond_false,hno,rms]
theorem zHC {k:Int} (hG:HG vG G k) (szG:SzG G) (hk0:0≤k) (hk1:k+totG G≤4611686018427387904) (hk:K (.int .i64 (k+totG G)) σ):zA Tryz.prog 50 [vG,.int .i64 k] σ K:=by
 rcases hG with ⟨rfl,w,a,rfl⟩|⟨w,a,v0,v1,v2,O,P,C,rfl,rfl,h0,h1,h2⟩
 ·skip
  refine zB mix Tryz.func50 ?_;simp only [pwA,seval,-iQ0];refine zD (fun m vs h'=>vs=[.fz w a 0 [],.int .i64 k,.int .i64 0]∧σ=h') 0 ⟨rfl,rfl⟩ ?_
  rintro m vs h' ⟨rfl,rfl⟩
  simp only [pwA,seval,-iQ0,Int.lt_irrefl]
  simpa [totG]using hk
 ·have sz:SzP O P C:=szG.r _ (List.mem_singleton.2 rfl)
  have hk1':k+totP O P C≤4611686018427387904:=hk1;unfold totP at hk1'
  have szO:=sz.O;have d01:(0:Int)<((1:Nat):Int):=by omega
  have w1:IntKind.i64.wrap 1=1:=wrap64 (by omega) (by omega)
  refine zB mix Tryz.func50 ?_;simp only [pwA,seval,-iQ0];refine zD (fun m vs h'=>(m=1∧vs=[.fz w a 1 [v0,v1,v2],.int .i64 k,.int .i64 0]∧σ=h')∨(m=0∧vs=[.fz w a 1 [v0,v1,v2],.int .i64 (k+totP O P C),.int .i64 1]∧σ=h')) 1 (.inl ⟨rfl,rfl,rfl⟩) ?_
  rintro m vs h' (⟨rfl,rfl,rfl⟩ | ⟨rfl,rfl,rfl⟩)
  rotate_left
  ·simp only [pwA,seval,-iQ0,Int.lt_irrefl]
   exact hk
  simp only [pwA,seval,-iQ0,d01];refine zCs (xs:=O) (by unfold sqI at h0;exact h0) (by omega) hk0 (by omega) ?_
  have n1:¬(k+(O.length:Int)<0):=by omega
  simp only [pwA,seval,-iQ0,n1,d01];refine zAX h1 (by have:=sz.P.l;omega) (fun y hy=>by have:=sz.P.r y hy;omega) (by omega) (by omega) ?_
  have n2:¬(k+(O.length:Int)+(totL List.length P:Int)<0):=by omega
  simp only [pwA,seval,-iQ0,n2,d01];refine zFo h2 sz.C (by omega) (by omega) ?_
  have n3:¬(k+(O.length:Int)+(totL List.length P:Int)+(totL (totL List.length) C:Int)<0):=by omega
  have e:k+(O.length:Int)+(totL List.length P:Int)+(totL (totL List.length) C:Int)=k+(totP O P C:Int):=by unfold totP;omega
  rw [e]at n3 ⊢
  simp only [pwA,seval,-iQ0,n3,w1]
  first | exact⟨0,by omega,.inr ⟨rfl,rfl⟩⟩ | exact⟨0,by omega,.inr rfl⟩
theorem zAk {k:Int} (hG:HG vG G k) (hL:FII vL (sqL sqI List.length (k+totG G) L)) (szG:SzG G) (szL:SzL L) (hk0:0≤k) (hk1:k+totC G L≤4611686018427387904) (hk:K (.int .i64 (k+totC G L)) σ):zA Tryz.prog 21 [.agg [.int .i64 kk,vG,vL],.int .i64 k] σ K:=by
 have g1:=hG.one;have g2:=hL.one;have hk1':=hk1;unfold totC at hk1'
 refine zA.gh ?_;refine zB mix Tryz.func21 ?_;simp only [pwA,seval,-iQ0,g1,g2];refine zHC hG szG hk0 (by omega) ?_
 have n1:¬(k+(totG G:Int)<0):=by omega
 simp only [pwA,seval,-iQ0,n1,g1,g2];refine zAX hL (by have:=szL.l;omega) (fun y hy=>by have:=szL.r y hy;omega) (by omega) (by omega) ?_
 have n2:¬(k+(totG G:Int)+(totL List.length L:Int)<0):=by omega
 have e:k+(totG G:Int)+(totL List.length L:Int)=k+(totC G L:Int):=by unfold totC;omega
 rw [e]at n2 ⊢
 simp only [pwA,seval,-iQ0,n2];exact Gh.fin0 (zC σ _) trivial hk
end Go.Proofs
namespace Go.Ab
theorem zJ0 {Z:Nat→Prop} {h:AHeap} {n:Nat}:∀xs:List Int,VOKs Z h n (pis xs)
 | []=>trivial
 | x::xs=>⟨trivial,zJ0 xs⟩
theorem zA.lendT {P:Program} {f:FuncId} {args:List PV} {σ:PHeap} {K:PV→PHeap→Prop} {s:Nat} {cs:List PV} (hs:σ.obj s=some cs) (hb:Bels 0 cs)
  (c:∀o t,σ.top≤t→zA P f (sbs s o cs args) ((σ.kill s).up t) fun v σ'=>∃t' w a l xs,σ'=(σ.kill s).up t'∧t≤t'∧v=.fz w a l (pis xs)∧xs≠[]∧(∀x∈ead v,t≤x)∧K v (σ.up t')):zA P f args σ K:=by
 intro ι Z h r va;obtain⟨r',hc0,ho,hz⟩:=r.freeze hs hb;have r2:Rel ι (fun o=>Z o∨o=ι s) ((σ.kill s).up h.next) h:=⟨r'.hwf,r'.zlt,Nat.le_refl _,r'.wf,r'.obj,r'.inj⟩
 have hz1:∀o,Z o→(Z o∨o=ι s)∧h.obj o=h.obj o:=fun o ho=>⟨.inl ho,rfl⟩
 have:=c (ι s) h.next r.top ι _ h r2 (VOKs.sbs (.inr rfl) ho (hc0.mono hz1 (Nat.le_refl _)) (va.mono hz1 (Nat.le_refl _)))
 rw [QS rfl]at this
 refine this.mono ?_
 rintro v h' ⟨pv,σ',ι',Z',q1,q2,q3,q4,t',w,a,l,xs,rfl,ht,rfl,hne,hx,hk⟩
 have hzz:∀o,Z o→(Z o∨Z' o∧h.next≤o)∧h'.obj o=h.obj o:=fun o ho=>⟨.inl ho,(q2.z o (.inl ho)).2⟩
 have hlt:∀t ds,σ.obj t=some ds→ι t<h.next:=fun t ds ht=>r.hwf.lt (r.obj _ _ ht).1
 have ob:∀t ds,σ.obj t=some ds→h'.obj (ι t)=h.obj (ι t):=by
  intro t ds ht
  by_cases e:t=s
  ·subst e;exact(q2.z _ (.inr rfl)).2
  ·have htl:=r.none_lt ht
   have hk':(σ.kill s).obj t=some ds:=by simp only [PHeap.kill];rw [if_neg e];exact ht
   obtain⟨p1,_,_⟩:=q1.obj t ds hk';obtain⟨g1,g2,_⟩:=r2.obj t ds hk';rw [q2.inj t htl,q2.ers g2]at p1
   rw [p1,g1]
 refine⟨.fz w a l (pis xs),σ.up t',ι,fun o=>Z o∨Z' o∧h.next≤o,⟨q1.hwf,?_,q1.top,r.wf,fun t ds ht=>⟨by rw [ob t ds ht];exact(r.obj t ds ht).1,(r.obj t ds ht).2.1.mono hzz (Nat.le_refl _),?_⟩,r.inj⟩,⟨Nat.le_refl _,q2.hnext,fun _ _=>rfl,hzz,fun _ _ h=>h,fun t ds ht hd=>absurd (r.none_lt hd) (by omega)⟩,⟨?_,zJ0 xs⟩,q4,hk⟩
 ·rintro o (ho | ⟨ho,_⟩)
  ·exact Nat.lt_of_lt_of_le (r.zlt o ho) q2.hnext
  ·exact q1.zlt o ho
 ·rintro (hz | ⟨_,hz⟩)
  ·exact(r.obj t ds ht).2.2 hz
  ·have:=hlt t ds ht;omega
 ·rcases q3.1 with e | ⟨o,off,cap,rfl,g1,g2,g3,g4⟩
  ·exact .inl e
  ·refine .inr ⟨o,off,cap,rfl,.inr ⟨g1,hx o ?_⟩,g2,g3,g4⟩
   rw [QB (zAf hne)];exact List.mem_cons_self ..
end Go.Ab
namespace Go.Ab
theorem PAcc.first {b e n:Nat} {h:PHeap} {v:PV} {cs:List PV} (a:PAcc b e h v n cs) (h0:n≠0):Zv e h v n=some cs:=by
 rcases a with ⟨rfl,rfl,rfl⟩|⟨s,cap,rfl,h1,h2,h3,h4,h5⟩
 ·exact absurd rfl h0
 ·rw [QE,if_neg h0,if_pos (Nat.le_refl _),ZB h2,if_pos (by omega),List.drop_zero,List.take_of_length_le (by omega)]
theorem PAcc.lenc {b e n:Nat} {h:PHeap} {v:PV} {cs:List PV} (a:PAcc b e h v n cs):cs.length=n*e:=by
 rcases a with ⟨rfl,rfl,rfl⟩|⟨s,cap,rfl,h1,h2,h3,h4,h5⟩
 ·simp
 ·exact h3
theorem Own.ge {lo hi:Nat} {v:PV} (h:Own lo hi v):∀x∈ead v,lo≤x:=fun x hx=>(h.lt x hx).1
theorem Owns.cons {lo t hi:Nat} {cs:List PV} {c:PV} (h:Owns lo t cs) (g:Own t hi c) (hl:lo≤t) (ht:t≤hi):Owns lo hi (c::cs):=by
 refine⟨⟨g.wh,h.wh⟩,?_,fun o ho=>?_⟩
 ·show(ead c++eads cs).Nodup
  rw [List.nodup_append];refine⟨g.nd,h.nd,fun a ha b hb e=>?_⟩
  have:=g.lt a ha
  have:=h.lt b hb
  omega
 ·rcases List.mem_append.1 (show o∈ead c++eads cs from ho)with ho | ho
  ·have:=g.lt o ho;omega
  ·have:=h.lt o ho;omega
theorem Owns.last {pre rows:List PV} {o l lo hi hi':Nat} {cap:Cap} (h:Owns lo hi (pre++rows)) (h1:lo≤o) (h2:o<hi') (hh:hi≤hi') (hn:o∉eads (pre++rows)):Owns lo hi' (pre++[.fz true (.sl o 0 l cap) l rows]):=by
 have hw:=qy.1 h.wh;have nd:=h.nd;rw [qX]at nd hn
 by_cases hr:rows=[]
 ·subst hr
  refine⟨qy.2 fun c hc=>?_,?_,fun x hx=>?_⟩
  ·rcases List.mem_append.1 hc with hc | hc
   ·exact hw c (List.mem_append.2 (.inl hc))
   ·rw [List.mem_singleton.1 hc];exact .inl rfl
  ·rw [qX]
   simpa [eads,ead]using nd
  ·rw [qX]at hx
   have:=h.lt x (by rw [qX];simpa [eads,ead]using hx)
   omega
 ·have e:eads (pre++[PV.fz true (.sl o 0 l cap) l rows])=eads pre++(o::eads rows):=by
   rw [qX];simp only [eads,List.append_nil];rw [QB hr]
  refine⟨qy.2 fun c hc=>?_,?_,fun x hx=>?_⟩
  ·rcases List.mem_append.1 hc with hc | hc
   ·exact hw c (List.mem_append.2 (.inl hc))
   ·rw [List.mem_singleton.1 hc]
    exact .inr ⟨rfl,rfl,qy.2 fun c hc=>hw c (List.mem_append.2 (.inr hc))⟩
  ·rw [e]
   exact(List.perm_middle (a:=o) (l₁:=eads pre) (l₂:=eads rows)).nodup_iff.2 (List.nodup_cons.2 ⟨hn,nd⟩)
  ·rw [e,List.mem_append,List.mem_cons]at hx
   have hl:=h.lt x;rw [qX,List.mem_append]at hl
   rcases hx with hx|rfl|hx
   ·have:=hl (.inl hx);omega
   ·omega
   ·have:=hl (.inr hx);omega
end Go.Ab
namespace Go.Grp
end Go.Grp
namespace Go.Proofs
open Go.Ab Go.Lie Go.Grp
variable {σ:PHeap} {K:PV→PHeap→Prop} {O:List Int} {P:List (List Int)} {C:List (List (List Int))} {vO vP vC vx vM:PV} {x:List Int} {M:List (List Int)} {sp:Nat}
theorem zId {k0:Nat} (s:Shp O P C) (hs:PtrG σ sp vO vP vC) (hO:FI vO O) (hk0:k0≤1000000) (hk:K (.sl σ.next 0 O.length (.known O.length)) (σ.new (pis (dgs O O.length k0)))):zA Tryz.prog 149 [.ptr sp 0,.int .i64 k0] σ K:=by
 have hn6:=s.le;obtain⟨w0,a0,rfl⟩:=hO;have e0:∀{h:PHeap},Keep σ h→h.rd1 sp 0=some (.fz w0 a0 O.length (pis O)):=fun k=>by rw [zF (hs.keep k).obj];rfl
 have hsn:=hs.lt;refine zB mix Tryz.func149 ?_;have ew:IntKind.i64.wrap ((O.length:Int)-1)=(O.length:Int)-1:=wrap64 (by omega) (by omega)
 simp only [pwA,seval,-iQ0,e0 (Keep.refl σ),mk8 (n:=O.length) (by omega),mkL (n:=O.length) (by omega),ew,List.length_replicate,ZJ]
 refine zD (fun m vs h'=>∃(c kk:Nat) (out:List Int),c≤O.length∧m=c∧vs=[.ptr sp 0,.int .i64 kk,.sl σ.next 0 O.length (.known O.length),.int .i64 ((c:Int)-1)]∧h'=σ.new (pis out)∧out.length=O.length∧kk≤k0∧dgs O c kk++out.drop c=dgs O O.length k0) O.length ?_ ?_
 ·refine⟨O.length,k0,List.replicate O.length 0,Nat.le_refl _,rfl,rfl,?_,by simp,Nat.le_refl _,?_⟩
  ·first | rfl | simp [pis]
  rw [List.drop_of_length_le (by simp),List.append_nil]
 rintro m vs h' ⟨c,kk,out,hcn,rfl,rfl,rfl,hol,hkk,hd⟩
 have kp:Keep σ (σ.new (pis out)):=zC _ _;rcases Nat.eq_zero_or_pos m with rfl|hpos
 ·simp only [pwA,seval,-iQ0,show ¬((0:Int)≤((0:Nat):Int)-1) by omega]
  have he:out=dgs O O.length k0:=by simpa [dgs]using hd
  rw [he];exact hk
 ·obtain⟨c,rfl⟩:∃c,m=c+1:=⟨m-1,by omega⟩
  have e:((c+1:Nat):Int)-1=(c:Int):=by omega
  have hco:c<out.length:=by omega
  have hcn':c<O.length:=by omega
  have ew2:IntKind.i64.wrap ((c:Int)-1)=(c:Int)-1:=wrap64 (by omega) (by omega)
  rw [e];have hb:=s.pr c hcn';have hat:=at_eq hcn';obtain⟨q,hq⟩:∃q:Nat,at_ O c=(q:Int):=⟨(at_ O c).toNat,by omega⟩
  rw [hq]at hb
  rw [hq]at hat
  have hP0:¬(q:Int)=0:=by omega
  have et:(kk:Int).tmod (q:Int)=((kk % q:Nat):Int):=rfl;have ed:(kk:Int).tdiv (q:Int)=((kk / q:Nat):Int):=rfl;have hdl:kk / q≤kk:=Nat.div_le_self _ _;have ewq:∀q:Nat,q≤kk→IntKind.i64.wrap (q:Int)=(q:Int):=fun q hq=>wrap64 (by omega) (by omega)
  have ewq:=ewq _ hdl;have hco1:c+1≤out.length:=hco;have hset:=qm hco (x:=((kk % q:Nat):Int));have hget:(pis O)[c]? = some (.int .i64 (q:Int)):=by rw [zL,List.getElem?_eq_getElem hcn',←hat];rfl
  have hs1:¬sp=σ.next:=by omega
  simp only [pwA,seval,-iQ0,e0 kp,e0 (zC σ (pis (out.set c ((kk % q:Nat):Int)))),hP0,et,ed,ewq,hcn',hget,hco1,qK,hset,ew2];refine⟨c,Nat.lt_succ_self c,c,kk / q,out.set c ((kk % q:Nat):Int),by omega,rfl,rfl,rfl,by rw [List.length_set];exact hol,Nat.le_trans hdl hkk,?_⟩
  rw [←hd,dgs,hq,Int.toNat_natCast,List.append_assoc]
  congr 1
  rw [List.drop_eq_getElem_cons (by rw [List.length_set];exact hco),List.getElem_set_self,List.drop_set_of_lt (by omega)]
  rfl
theorem zKD {k0:Nat} (hn6:O.length≤6) (hpr:∀j,j<O.length→2≤at_ O j∧at_ O j≤7) (hR:IsPr vO vP vC O P C) (hk0:k0≤1000000) (hk:∀v,FI v (dgs O O.length k0)→K v σ):zA Tryz.prog 122 [.agg [vO,vP,vC],.int .i64 k0] σ K:=by
 have h0:=hR.O.one;have h1:=hR.P.one;have h2:=hR.C.one;obtain⟨⟨w0,a0,rfl⟩,hRP,hRC⟩:=hR;have one:∀{σ:PHeap} {K:PV→PHeap→Prop},(K (.sl σ.next 0 O.length (.known O.length)) (σ.new (pis (List.replicate O.length 0))))→zA Tryz.prog 107 [.agg [.fz w0 a0 O.length (pis O),vP,vC]] σ K:=fun {σ K} hk=>by
  refine zA.gh ?_;refine zB mix Tryz.func107 ?_;simp only [pwA,seval,-iQ0,h1,h2,mk8 (n:=O.length) (by omega),mkL (n:=O.length) (by omega),List.length_replicate,ZJ]
  exact Gh.finS (s:=σ.next+1) ((zC σ _).new _) (by simp only [pwA,seval,-iQ0,ZJ]) (by omega) (zo _ _) hk
 refine zA.gh ?_;refine zB mix Tryz.func122 ?_;simp only [pwA,seval,-iQ0,h1,h2];refine one ?_;have ew:IntKind.i64.wrap ((O.length:Int)-1)=(O.length:Int)-1:=wrap64 (by omega) (by omega)
 simp only [pwA,seval,-iQ0,ew];refine zD (fun m vs h'=>∃(c kk:Nat) (out:List Int),c≤O.length∧m=c∧vs=[.int .i64 kk,.ptr σ.next 0,.sl (σ.next+1) 0 O.length (.known O.length),.int .i64 ((c:Int)-1)]∧h'=(σ.new [.fz w0 a0 O.length (pis O),vP,vC]).new (pis out)∧out.length=O.length∧kk≤k0∧dgs O c kk++out.drop c=dgs O O.length k0) O.length ?_ ?_
 ·refine⟨O.length,k0,List.replicate O.length 0,Nat.le_refl _,rfl,rfl,rfl,by simp,Nat.le_refl _,?_⟩
  rw [List.drop_of_length_le (by simp),List.append_nil]
 rintro m vs h' ⟨c,kk,out,hcn,rfl,rfl,rfl,hol,hkk,hd⟩
 rcases Nat.eq_zero_or_pos m with rfl|hpos
 ·simp only [pwA,seval,-iQ0,show ¬((0:Int)≤((0:Nat):Int)-1) by omega]
  have he:out=dgs O O.length k0:=by simpa [dgs]using hd
  rw [←he]at hk
  clear he hd;rw [←hol];exact Gh.finF (s:=σ.next+1) ((zC σ _).new _) (by simp only [pwA,seval,-iQ0]) (by omega) (zo _ _) (by simp [capOK]) fun o1=>hk _ ⟨_,_,rfl⟩
 ·obtain⟨c,rfl⟩:∃c,m=c+1:=⟨m-1,by omega⟩
  have e:((c+1:Nat):Int)-1=(c:Int):=by omega
  have hco:c<out.length:=by omega
  have hcn':c<O.length:=by omega
  have ew2:IntKind.i64.wrap ((c:Int)-1)=(c:Int)-1:=wrap64 (by omega) (by omega)
  rw [e];have hb:=hpr c hcn';have hat:=at_eq hcn';obtain⟨q,hq⟩:∃q:Nat,at_ O c=(q:Int):=⟨(at_ O c).toNat,by omega⟩
  rw [hq]at hb
  rw [hq]at hat
  have hP0:¬(q:Int)=0:=by omega
  have et:(kk:Int).tmod (q:Int)=((kk % q:Nat):Int):=rfl;have ed:(kk:Int).tdiv (q:Int)=((kk / q:Nat):Int):=rfl;have hdl:kk / q≤kk:=Nat.div_le_self _ _;have ewq:∀q:Nat,q≤kk→IntKind.i64.wrap (q:Int)=(q:Int):=fun q hq=>wrap64 (by omega) (by omega)
  have ewq:=ewq _ hdl;have hco1:c+1≤out.length:=hco;have hset:=qm hco (x:=((kk % q:Nat):Int));have hget:(pis O)[c]? = some (.int .i64 (q:Int)):=by rw [zL,List.getElem?_eq_getElem hcn',←hat];rfl
  simp only [pwA,seval,-iQ0,hP0,et,ed,ewq,hcn',hget,hco1,qK,hset,ew2];refine⟨c,Nat.lt_succ_self c,c,kk / q,out.set c ((kk % q:Nat):Int),by omega,rfl,rfl,rfl,by rw [List.length_set];exact hol,Nat.le_trans hdl hkk,?_⟩
  rw [←hd,dgs,hq,Int.toNat_natCast,List.append_assoc]
  congr 1
  rw [List.drop_eq_getElem_cons (by rw [List.length_set];exact hco),List.getElem_set_self,List.drop_set_of_lt (by omega)]
  rfl
theorem zDr {k0:Nat} (s:Shp O P C) (hR:IsPr vO vP vC O P C) (hk0:k0≤1000000) (hk:∀v,FI v (dgs O O.length k0)→K v σ):zA Tryz.prog 122 [.agg [vO,vP,vC],.int .i64 k0] σ K:=zKD s.le s.pr hR hk0 hk
end Go.Proofs
namespace Go.Grp
end Go.Grp
namespace Go.Proofs
open Go.Ab Go.Lie Go.Grp
variable {σ:PHeap} {K:PV→PHeap→Prop} {O:List Int} {P:List (List Int)} {C:List (List (List Int))} {vO vP vC vx vM vA:PV} {x:List Int} {A M:List (List Int)} {sp:Nat}
theorem zCh (hL:∀r∈A,r.length≤1048576) (hll:A.length≤1000) (hvA:FII vA A) (hk:∀v t,FII v A→Own σ.top t v→σ.top≤t→K v (σ.up t)):zA Tryz.prog 43 [vA] σ K:=by
 obtain⟨wA,aA,rA,rfl,hrA⟩:=hvA;refine zA.gh ?_;refine zB mix Tryz.func43 ?_;simp only [pwA,seval,-iQ0];refine zD (fun m vs h'=>∃(i:Nat) (v:PV) (rows:List PV),i≤A.length∧m=A.length-i∧vs=[v,.fz wA aA A.length rA,.int .i64 A.length,.int .i64 i]∧Keep σ h'∧PAcc σ.next 1 h' v i rows∧All2 FI rows (A.take i)∧Owns σ.top h'.top rows) A.length ?_ ?_
 ·exact⟨0,_,[],by omega,by omega,rfl,Keep.refl σ,PAcc.nil _ _ _,by rw [List.take_zero];exact All2.nil _,Owns.nil _ _⟩
 rintro m vs h' ⟨i,v,rows,hi,rfl,rfl,hkp,ha,hall,how⟩
 simp only [pwA,seval,-iQ0];refine iteI (fun hlt=>?_) fun hge=>?_
 rotate_left
 ·have hie:i=A.length:=by omega
  subst hie;rw [List.take_length]at hall
  exact ha.own hkp (hall.bI 0) how fun a t ho ht=>hk _ t ⟨true,a,rows,rfl,hall⟩ ho ht
 obtain⟨w4,a4,hr⟩:=hrA.rowI hlt;simp only [pwA,seval,-iQ0,hlt,hr];refine zA.fzIT (fun K' k'=>Qy rfl (by have:=hL _ (List.getElem_mem hlt);omega) k') fun v5 t5 hv5 ho5 ht5=>?_
 simp only [pwA,seval,-iQ0,hv5.one,hv5.cells];have hku:=Keep.up (Keep.refl h') ht5;refine zAU (PAcc.push (bytes:=24) (hkp.trans hku) (ha.keep hku) (by omega) (by omega) fun v' h2 k2 a2 htop=>?_)
 have htp:h2.top=t5:=htop;simp only [pwA,seval,-iQ0,wrapS hlt (by omega:A.length≤4611686018427387904)]
 exact⟨_,by omega,i+1,v',rows++[v5],by omega,rfl,rfl,k2,a2.acc,by rw [List.take_succ_eq_append_getElem hlt];exact hall.snoc hv5,by rw [htp];exact how.snoc ho5 hkp.top ht5⟩
theorem zDb (s:Shp O P C) (hs:PtrG σ sp vO vP vC) (hR:IsPr vO vP vC O P C) (hk:∀wO wP wC t,IsPr wO wP wC O P C→Owns σ.top t [wO,wP,wC]→σ.top≤t→K (.agg [wO,wP,wC]) (σ.up t)):zA Tryz.prog 44 [.ptr sp 0] σ K:=by
 have hn6:=s.le;have hsl:=hs.lt;have hPl:∀r∈P,r.length≤1048576:=fun r hr=>by
  obtain⟨i,hi,rfl⟩:=List.mem_iff_getElem.1 hr
  have:=(s.pw i (by rw [←s.pl];exact hi)).len
  unfold pvec at this
  rw [List.getD_eq_getElem?_getD,List.getElem?_eq_getElem hi]at this
  simp only [Option.getD_some]at this
  omega
 have hCl:∀i (hi:i<C.length),C[i].length≤6:=fun i hi=>by
  have:=s.row i (by rw [←s.cl];exact hi)
  rw [List.getD_eq_getElem?_getD,List.getElem?_eq_getElem hi]at this
  simp only [Option.getD_some]at this
  omega
 have hCr:∀i (hi:i<C.length),∀r∈C[i],r.length≤1048576:=fun i hi r hr=>by
  obtain⟨k,hk,rfl⟩:=List.mem_iff_getElem.1 hr;have hrow:=s.row i (by rw [←s.cl];exact hi)
  rw [List.getD_eq_getElem?_getD,List.getElem?_eq_getElem hi]at hrow
  simp only [Option.getD_some]at hrow
  have hcl:=s.cl
  have:=(s.cj i (i+(1+k)) (by omega) (by omega)).len
  unfold cvec at this
  rw [show i+(1+k)-i-1=k by omega]at this
  simp only [List.getD_eq_getElem?_getD,List.getElem?_eq_getElem hi,Option.getD_some,List.getElem?_eq_getElem hk]at this
  omega
 have hcl:=s.cl;have hpl:=s.pl;obtain⟨hRO,hRP,hRC⟩:=hR;have hRP0:=hRP;obtain⟨w0,a0,rfl⟩:=hRO;obtain⟨w2,a2,rC,rfl,hrC⟩:=hRC;have e0:σ.rd1 sp 0=some (.fz w0 a0 O.length (pis O)):=by rw [zF hs.obj];rfl
 have e1:σ.rd1 sp 1=some vP:=by rw [zF hs.obj];rfl
 have e2:σ.rd1 sp 2=some (.fz w2 a2 C.length rC):=by rw [zF hs.obj];rfl
 have n1:¬sp=σ.next:=by omega
 have n2:¬sp=σ.next+1:=by omega
 refine zA.gh ?_;refine zB mix Tryz.func44 ?_;simp only [pwA,seval,-iQ0,e0,e1,n1,n2];refine zA.fzIT (fun K' k'=>Qy rfl (by omega) k') fun v0 t0 hv0 ho0 ht0=>?_
 simp only [pwA,seval,-iQ0,e0,e1,n1,n2,hv0.one];refine zCh hPl (by omega) hRP0 fun v1 t1 hv1 ho1 ht1=>?_
 simp only [pwA,seval,-iQ0,e2,n1,n2,hv0.one,hv1.one,hv0.cells,hv1.cells];refine zD (fun m vs h'=>∃(i:Nat) (vX:PV) (rows:List PV),i≤C.length∧m=C.length-i∧vs=[.ptr σ.next 0,.ptr (σ.next+1) 0,.fz w2 a2 C.length rC,.int .i64 C.length,.int .i64 i]∧Keep ((σ.new [.fz true .nils 0 [],.fz true .nils 0 [],.fz true .nils 0 []]).new [v0,v1,vX]) h'∧PAcc (σ.next+2) 1 h' vX i rows∧All2 FII rows (C.take i)∧Owns σ.top h'.top (v0::v1::rows)) C.length ?_ ?_
 ·refine⟨0,.fz true .nils 0 [],[],by omega,by omega,rfl,⟨Nat.le_refl _,Nat.le_trans ht0 ht1,fun t ht=>?_⟩,PAcc.nil _ _ _,by rw [List.take_zero];exact All2.nil _,?_⟩
  ·simp only [pwA,seval,-iQ0]
  ·exact((Owns.nil σ.top σ.top).snoc ho0 (Nat.le_refl _) ht0).snoc ho1 ht0 ht1
 rintro m vs h' ⟨i,vX,rows,hi,rfl,rfl,hkp,ha,hall,how⟩
 have hk0:Keep σ h':=((zC σ _).new _).trans hkp;have ob:h'.obj (σ.next+1)=some [v0,v1,vX]:=by rw [hkp.obj (σ.next+1) (show σ.next+1<σ.next+1+1 by omega)];simp only [pwA,seval,-iQ0]
 have ob0:h'.obj σ.next=some [.fz true .nils 0 [],.fz true .nils 0 [],.fz true .nils 0 []]:=by rw [hkp.obj _ (by show σ.next<σ.next+1+1;omega)];simp only [pwA,seval,-iQ0]
 have r2:h'.rd1 (σ.next+1) 2=some vX:=by rw [zF ob];rfl
 have r3:h'.rd (σ.next+1) 0 3=some [v0,v1,vX]:=by rw [ZB ob];rfl
 have hnx:σ.next+2≤h'.next:=hkp.next;simp only [pwA,seval,-iQ0];refine iteI (fun hlt=>?_) fun hge=>?_
 rotate_left
 ·have hie:i=C.length:=by omega
  subst hie;rw [List.take_length]at hall
  have hw3:h'.wr σ.next 0 [v0,v1,vX]=some (h'.set σ.next [v0,v1,vX]):=by
   rw [Zr ob0,if_pos ⟨by simp,by simp [hv0.one,hv1.one,ha.one]⟩];rfl
  simp only [pwA,seval,-iQ0,r3,hw3];have hkE:Keep σ (h'.set σ.next [v0,v1,vX]):=hk0.set (Nat.le_refl _) _;have b0:=hv0.bel σ.next;have b1:=hv1.bel σ.next;rcases ha with ⟨rfl,h1,h2⟩|⟨t,cap,rfl,hcp,q2,q3,q4,q5⟩
  ·subst h2
   have hC0:C=[]:=List.eq_nil_of_length_eq_zero h1;exact Gh.fin0T hkE (Nat.le_refl _) ⟨b0,b1,trivial,trivial⟩ fun _=>hk v0 v1 _ _ ⟨hv0,hv1,⟨true,.nils,[],by rw [hC0];rfl,by rw [hC0];exact All2.nil _⟩⟩ (how.snoc (Own.empty _ _ true .nils 0) hk0.top (Nat.le_refl _)) hk0.top
  ·have hbr:Bels 0 rows:=hall.bL 0
   refine Gh.freeze (s:=t) (cs:=rows) (by rw [zn,if_neg (by omega)];exact q2) (by omega) hbr fun o ho hc hv=>?_
   have s0:sb t o rows v0=v0:=hv0.sb _ _ _;have s1:sb t o rows v1=v1:=hv1.sb _ _ _;simp only [sb,sbs,s0,s1,hcp.ok,and_self,if_true];refine Gh.fin0T (t:=max h'.top (o+1)) ((hkE.kill (show σ.next≤t by omega)).up (by simp only [PHeap.kill,PHeap.set];omega)) (Nat.le_refl _) ⟨b0,b1,trivial,trivial⟩ fun _=>hk v0 v1 _ _ ⟨hv0,hv1,⟨true,_,rows,rfl,hall⟩⟩ ?_ (by have:=hk0.top;omega)
   refine Owns.last (pre:=[v0,v1]) how ho (by omega) (by omega) fun hm=>?_
   have hm':o∈ead v0++(ead v1++eads rows):=hm;simp only [List.mem_append]at hm'
   simp only [addrs,ZQ,List.mem_append,List.append_nil,not_or]at hv
   rcases hm' with hm' | hm' | hm'
   ·exact hv.1 (zBo hm')
   ·exact hv.2 (zBo hm')
   ·exact hc (ZC hm')
 obtain⟨w4,a4,rs4,hr,hrs⟩:=hrC.rowL hlt;simp only [pwA,seval,-iQ0,hlt,hr,r2];refine zCh (hCr i hlt) (by have:=hCl i hlt;omega) ⟨w4,a4,rs4,rfl,hrs⟩ fun v5 t5 hv5 ho5 ht5=>?_
 have hku:=Keep.up (Keep.refl h') ht5;have nn:¬σ.next+1=h'.next:=by omega
 simp only [pwA,seval,-iQ0,r2,nn,hv5.one,hv5.cells];refine zAU (PAcc.push (bytes:=24) (hkp.trans hku) (ha.keep hku) (by omega) (by omega) fun v' h2 k2 a2 htop=>?_)
 have htp:h2.top=t5:=htop;have hw2:h2.wr (σ.next+1) 2 [v']=some (h2.set (σ.next+1) [v0,v1,v']):=by
  have ob2:h2.obj (σ.next+1)=some [v0,v1,vX]:=by rw [k2.obj (σ.next+1) (show σ.next+1<σ.next+1+1 by omega)];simp only [pwA,seval,-iQ0]
  rw [Zr ob2,if_pos ⟨by simp,by simp [a2.acc.one]⟩];rfl
 simp only [pwA,seval,-iQ0,hw2,a2.acc.cells,wrapS hlt (by omega:C.length≤4611686018427387904)]
 refine⟨_,by omega,i+1,v',rows++[v5],by omega,rfl,rfl,k2.setN _,a2.acc.setX (show σ.next+1<σ.next+1+1 by omega),by rw [List.take_succ_eq_append_getElem hlt];exact hall.snoc hv5,?_⟩
 show Owns σ.top h2.top _;rw [htp];exact how.snoc ho5 hk0.top ht5
theorem zOm (hR:IsPr vO vP vC O P C) (sz:SzP O P C) (hk:∀wO wP wC,IsPr wO wP wC O P C→K (.agg [wO,wP,wC]) σ):zA Tryz.prog 39 [.agg [vO,vP,vC]] σ K:=by
 have g0:=hR.O.one;have g1:=hR.P.one;have g2:=hR.C.one;have szC:=sz.C.l;have szO:=sz.O;obtain⟨hRO,hRP,hRC⟩:=hR;obtain⟨w2,a2,rC,rfl,hrC⟩:=hRC;refine zA.gh ?_;refine zB mix Tryz.func39 ?_;simp only [pwA,seval,-iQ0,g0,g1];have own1:∀{v:PV} {xs:List Int} {σ:PHeap} {K:PV→PHeap→Prop},FI v xs→xs.length≤4294967296→(∀v',FI v' xs→K v' σ)→zA Tryz.prog 89 [v] σ K:=fun {v xs σ K} hv hb hk=>by
  obtain⟨w,a,rfl⟩:=hv;exact zDM rfl hb fun v=>hk _ ⟨_,_,rfl⟩
 refine own1 hRO (by omega) fun v0 hv0=>?_
 simp only [pwA,seval,-iQ0,g0,g1,hv0.one,hv0.cells];refine zAz hRP sz.P fun v1 hv1=>?_
 simp only [pwA,seval,-iQ0,g0,g1,hv0.one,hv1.one,hv0.cells,hv1.cells];refine zD (fun m vs h'=>∃(i:Nat) (vX:PV) (rows:List PV),i≤C.length∧m=C.length-i∧vs=[.ptr σ.next 0,.ptr (σ.next+1) 0,.ptr (σ.next+2) 0,.int .i64 i]∧Keep (((σ.new [vO,vP,.fz w2 a2 C.length rC]).new [.fz true .nils 0 [],.fz true .nils 0 [],.fz true .nils 0 []]).new [v0,v1,vX]) h'∧PAcc (σ.next+3) 1 h' vX i rows∧All2 FII rows (C.take i)) C.length ?_ ?_
 ·refine⟨0,.fz true .nils 0 [],[],by omega,by omega,rfl,⟨Nat.le_refl _,Nat.le_refl _,fun t ht=>?_⟩,PAcc.nil _ _ _,by rw [List.take_zero];exact All2.nil _⟩
  simp only [pwA,seval,-iQ0]
 rintro m vs h' ⟨i,vX,rows,hi,rfl,rfl,hkp,ha,hall⟩
 have hk0:Keep σ h':=(((zC σ _).new _).new _).trans hkp;have ob:h'.obj (σ.next+2)=some [v0,v1,vX]:=by rw [hkp.obj (σ.next+2) (show σ.next+2<σ.next+1+1+1 by omega)];simp only [pwA,seval,-iQ0]
 have ob1:h'.obj (σ.next+1)=some [.fz true .nils 0 [],.fz true .nils 0 [],.fz true .nils 0 []]:=by rw [hkp.obj (σ.next+1) (show σ.next+1<σ.next+1+1+1 by omega)];simp only [pwA,seval,-iQ0]
 have ob0:h'.obj σ.next=some [vO,vP,.fz w2 a2 C.length rC]:=by rw [hkp.obj σ.next (show σ.next<σ.next+1+1+1 by omega)];simp only [pwA,seval,-iQ0]
 have q2:h'.rd1 σ.next 2=some (.fz w2 a2 C.length rC):=by rw [zF ob0];rfl
 have r2:h'.rd1 (σ.next+2) 2=some vX:=by rw [zF ob];rfl
 have r3:h'.rd (σ.next+2) 0 3=some [v0,v1,vX]:=by rw [ZB ob];rfl
 have hnx:σ.next+3≤h'.next:=hkp.next;simp only [pwA,seval,-iQ0,q2];refine iteI (fun hlt=>?_) fun hge=>?_
 rotate_left
 ·have hie:i=C.length:=by omega
  subst hie;rw [List.take_length]at hall
  have hw3:h'.wr (σ.next+1) 0 [v0,v1,vX]=some (h'.set (σ.next+1) [v0,v1,vX]):=by
   rw [Zr ob1,if_pos ⟨by simp,by simp [hv0.one,hv1.one,ha.one]⟩];rfl
  simp only [pwA,seval,-iQ0,r3,hw3];have hkE:Keep σ (h'.set (σ.next+1) [v0,v1,vX]):=hk0.set (Nat.le_succ _) _;have b0:=hv0.bel σ.next;have b1:=hv1.bel σ.next;rcases ha with ⟨rfl,h1,h2⟩|⟨t,cap,rfl,hcp,q2,q3,q4,q5⟩
  ·subst h2
   have hC0:C=[]:=List.eq_nil_of_length_eq_zero h1;exact Gh.fin0 hkE ⟨b0,b1,trivial,trivial⟩ (hk v0 v1 _ ⟨hv0,hv1,⟨true,.nils,[],by rw [hC0];rfl,by rw [hC0];exact All2.nil _⟩⟩)
  ·refine Gh.freeze (s:=t) (cs:=rows) (by rw [zn,if_neg (by omega)];exact q2) (by omega) (hall.bL 0) fun o ho hc hv=>?_
   have s0:sb t o rows v0=v0:=hv0.sb _ _ _;have s1:sb t o rows v1=v1:=hv1.sb _ _ _;simp only [sb,sbs,s0,s1,hcp.ok,and_self,if_true];exact Gh.fin0 ((hkE.kill (show σ.next≤t by omega)).up (by simp only [PHeap.kill,PHeap.set];omega)) ⟨b0,b1,trivial,trivial⟩ (hk v0 v1 _ ⟨hv0,hv1,⟨true,_,rows,rfl,hall⟩⟩)
 obtain⟨w4,a4,rs4,hr,hrs⟩:=hrC.rowL hlt;simp only [pwA,seval,-iQ0,hlt,hr,q2,r2];refine zAz ⟨w4,a4,rs4,rfl,hrs⟩ (sz.C.r _ (List.getElem_mem hlt)) fun v5 hv5=>?_
 have nn:¬σ.next+2=h'.next:=by omega
 simp only [pwA,seval,-iQ0,r2,nn,hv5.one,hv5.cells];refine PAcc.push (bytes:=24) hkp ha (by omega) (by omega) fun v' h2 k2 a2=>?_
 have hw2:h2.wr (σ.next+2) 2 [v']=some (h2.set (σ.next+2) [v0,v1,v']):=by
  have ob2:h2.obj (σ.next+2)=some [v0,v1,vX]:=by rw [k2.obj (σ.next+2) (show σ.next+2<σ.next+1+1+1 by omega)];simp only [pwA,seval,-iQ0]
  rw [Zr ob2,if_pos ⟨by simp,by simp [a2.acc.one]⟩];rfl
 simp only [pwA,seval,-iQ0,hw2,a2.acc.cells,wrapS hlt (by omega:C.length≤4611686018427387904)]
 exact⟨_,by omega,i+1,v',rows++[v5],by omega,rfl,rfl,k2.setN _,a2.acc.setX (show σ.next+2<σ.next+1+1+1 by omega),by rw [List.take_succ_eq_append_getElem hlt];exact hall.snoc hv5⟩
end Go.Proofs
namespace Go.Grp
end Go.Grp
namespace Go.Proofs
open Go.Ab Go.Lie Go.Grp
variable {σ h h':PHeap} {K:PV→PHeap→Prop} {O:List Int} {P:List (List Int)} {C:List (List (List Int))} {vO vP vC vx vM vA v:PV} {x:List Int} {A M:List (List Int)} {sp se:Nat} {rows:List SR}
def nEl (O:List Int):Nat:=(ordF O O.length).toNat
theorem QM (s:Shp O P C):ordF O O.length=(nEl O:Int)∧1≤nEl O:=by
 have h1:=Qe s.pr (i:=O.length) (Nat.le_refl _);unfold nEl;omega
end Go.Proofs
namespace Go.Grp
end Go.Grp
namespace Go.Proofs
open Go.Ab Go.Lie Go.Grp
variable {σ h h':PHeap} {K:PV→PHeap→Prop} {O:List Int} {P:List (List Int)} {C:List (List (List Int))} {vO vP vC vx vM vA v:PV} {x:List Int} {A M:List (List Int)} {sp se:Nat} {rows:List SR}
theorem RowsI.finU {hg:PHeap} (a:RowsI hg h v rows) (hg0:Keep σ hg) (k:∀z t,FII z (rows.map SR.x)→Own σ.top t z→σ.top≤t→K z (σ.up t)):Gh σ K v h:=by
 have hk:=hg0.trans a.keep;have ok:∀q∈rows,q.ok h σ.next:=fun q hq=>⟨(a.ok q hq).1,(a.ok q hq).2.1,Nat.le_trans hg0.next (a.ok q hq).2.2.1,(a.ok q hq).2.2.2⟩
 rcases a.acc with ⟨rfl,h1,h2⟩|⟨s,cap,rfl,q1,q2,q3,q4,q5⟩
 ·have h0:rows=[]:=List.eq_nil_of_length_eq_zero h1
  exact Gh.fin0T hk hk.top trivial fun _=>k _ σ.top ⟨true,.nils,[],by rw [h0];rfl,by rw [h0];exact All2.nil _⟩ (Own.empty _ _ _ _ _) (Nat.le_refl _)
 ·have hn:s∉zB0 rows:=fun hm=>a.ne s hm 0 _ cap rfl
  have ht:TR.ok h σ.next (TR.rows s cap rows):=TR.rows_ok q1 q2 (Nat.le_trans hg0.next q4) q5 ok
  have:=Gh.treeO (K:=K) hk ht (by
   simp only [TR.slots,TR.rows,TR.rows_slots];exact List.nodup_cons.2 ⟨hn,a.nd⟩) fun aa T h1 h2=>k _ T TR.rows_FII h1 h2
  simpa only [TR.pv,TR.rows,List.length_map]using this
end Go.Proofs
namespace Go.Grp
end Go.Grp
set_option linter.unusedSectionVars false
namespace Go.Grp
open Go.Ab Go.Lie
end Go.Grp
namespace Go.Proofs
open Go.Ab Go.Lie Go.Grp
variable {O x y:List Int} {P:List (List Int)} {C:List (List (List Int))} {i j k t:Nat} {w:List Int}
theorem zCW:∀{c:Nat},(∀j,j<c→at_ x j=at_ y j)→numF O x c=numF O y c
 | 0,_=>rfl
 | c+1,h=>by rw [numF,numF,zCW fun j hj=>h j (by omega),h c (by omega)]
theorem zH3 (h:∀j,j<O.length→2≤at_ O j∧at_ O j≤7):∀{c k:Nat},c≤O.length→(k:Int)<ordF O c→numF O (dgs O c k) c=k
 | 0,k,_,hk=>by simp only [ordF]at hk;simp only [numF];omega
 | c+1,k,hc,hk=>by
  have hb:=h c (by omega)
  have h0:=(Qe h (i:=c) (by omega)).1
  obtain⟨o,ho⟩:∃o:Nat,at_ O c=o:=⟨(at_ O c).toNat,by omega⟩
  have hk2:((k / o:Nat):Int)<ordF O c:=by
   rw [ordF,ho]at hk
   obtain⟨q,hq⟩:∃q:Nat,ordF O c=q:=⟨(ordF O c).toNat,by omega⟩
   rw [hq]at hk ⊢
   have:k<q*o:=by exact_mod_cast hk
   exact_mod_cast (Nat.div_lt_iff_lt_mul (by omega)).2 this
  have ih:=zH3 h (c:=c) (k:=k / o) (by omega) hk2
  rw [numF,dgs,ho,Int.toNat_natCast];have e1:numF O (dgs O c (k / o)++[((k % o:Nat):Int)]) c=((k / o:Nat):Int):=by
   rw [←ih];exact zCW fun j hj=>by rw [zBV,Zl,if_pos hj]
  have e2:at_ (dgs O c (k / o)++[((k % o:Nat):Int)]) c=((k % o:Nat):Int):=by
   rw [zBV,Zl,if_neg (by omega),Nat.sub_self];rfl
  rw [e1,e2]
  have:=Nat.div_add_mod k o
  rw [Nat.mul_comm]at this
  exact_mod_cast this
theorem zFY (s:Shp O P C) (hx:gS O x):(numF O x O.length).toNat<nEl O∧(((numF O x O.length).toNat:Nat):Int)=numF O x O.length:=by
 have h:=Q6 s.pr (fun j hj=>hx.bd j hj) (i:=O.length) (Nat.le_refl _)
 have:=QM s
 omega
theorem zFZ (s:Shp O P C) (ht:t<nEl O):numF O (dgs O O.length t) O.length=t:=zH3 s.pr (Nat.le_refl _) (by have:=QM s;omega)
theorem zIe (s:Shp O P C) (hx:gS O x):dgs O O.length (numF O x O.length).toNat=x:=by
 have h:=zFY s hx;refine zOe s (Qa s _) hx ?_;rw [zFZ s h.1,h.2]
theorem zRt (s:Shp O P C) {t':Nat} (ht:t<nEl O) (ht':t'<nEl O) (h:dgs O O.length t=dgs O O.length t'):t=t':=by
 have h1:=zFZ s ht;have h2:=zFZ s ht';rw [h]at h1
 omega
end Go.Proofs
namespace Go.Grp
end Go.Grp
namespace Go.Proofs
open Go.Ab Go.Lie Go.Grp
variable {σ h:PHeap} {K:PV→PHeap→Prop} {x y:List Int} {L L':List PV} {va vb vf v:PV} {s n a b i j:Nat} {cap:Cap}
def CellR (L:List PV):Prop:=∀c∈L,∃x:List Int,FI c x∧x.length≤1000
theorem CellR.perm (h:CellR L) (p:L'.Perm L):CellR L':=fun c hc=>h c (p.mem_iff.1 hc)
theorem CellR.get (h:CellR L) (hi:i<L.length):∃x:List Int,FI L[i] x∧x.length≤1000:=h _ (List.getElem_mem hi)
theorem CellR.one (h:CellR L) (hi:i<L.length):(L[i]).cells=[L[i]]∧(L[i]).one=true:=by
 obtain⟨x,hx,_⟩:=h.get hi;obtain⟨w,o,e⟩:=hx;rw [e];exact⟨rfl,rfl⟩
theorem zBB {v:PV} (hi:i<L.length):List.take i L++[v]++List.drop (i+1) L=L.set i v:=by
 rw [List.set_eq_take_append_cons_drop,if_pos hi];simp
def swp (L:List PV) (i j:Nat):List PV:=(L.set i (L.getD j .undef)).set j (L.getD i .undef)
theorem ZP (hi:i<L.length) (hj:j<L.length):(swp L i j).Perm L:=by
 unfold swp;rw [List.getD_eq_getElem?_getD,List.getD_eq_getElem?_getD,List.getElem?_eq_getElem hi,List.getElem?_eq_getElem hj];exact List.set_set_perm hi hj
theorem pgetD (hi:i<L.length):L[i]? = some (L.getD i .undef):=by
 rw [List.getD_eq_getElem?_getD,List.getElem?_eq_getElem hi];rfl
theorem CellR.oneD (h:CellR L) (hi:i<L.length):(L.getD i .undef).cells=[L.getD i .undef]∧(L.getD i .undef).one=true∧∃x,FI (L.getD i .undef) x∧x.length≤1000:=by
 have e:L.getD i .undef=L[i]:=by rw [List.getD_eq_getElem?_getD,List.getElem?_eq_getElem hi];rfl
 rw [e];exact⟨(h.one hi).1,(h.one hi).2,h.get hi⟩
theorem zCc {k:Int} (hk:K (.bool false) σ):zA Tryz.prog 229 [.int .i64 k] σ K:=by
 refine zB mix Tryz.func229 ?_;simp only [pwA,seval,-iQ0];exact hk
theorem zQs {k l:Int} (hk:∀c:Int,K (.int .i64 c) σ):zA Tryz.prog 200 [.int .i64 k,.int .i64 l] σ K:=by
 refine zB mix Tryz.func200 ?_;simp only [pwA,seval,-iQ0];refine zCc ?_;simp only [pwA,seval,-iQ0];refine zCc ?_;simp only [pwA,seval,-iQ0]
 repeat' split
 all_goals exact hk _
theorem Zh (ha:FI va x) (hb:FI vb y) (hx:x.length≤1000) (hy:y.length≤1000) (hk:∀c:Int,K (.int .i64 c) σ):zA Tryz.prog 201 [va,vb] σ K:=by
 obtain⟨wa,aa,rfl⟩:=ha;obtain⟨wb,ab,rfl⟩:=hb;refine zB mix Tryz.func201 ?_;simp only [pwA,seval,-iQ0];refine zD (fun m vs h'=>∃i:Nat,i≤x.length∧m=x.length-i∧vs=[.fz wa aa x.length (pis x),.fz wb ab y.length (pis y),.fz wa aa x.length (pis x),.int .i64 x.length,.int .i64 i]∧h'=σ) x.length ?_ ?_
 ·exact⟨0,by omega,by omega,rfl,rfl⟩
 rintro m vs h' ⟨i,hi,rfl,rfl,rfl⟩
 simp only [pwA,seval,-iQ0];refine iteI (fun hlt=>?_) fun hge=>?_
 ·have hi1:i<x.length:=by omega
  have wi:IntKind.i64.wrap ((i:Int)+1)=((i+1:Nat):Int):=wrapS hi1 (by omega)
  have gx:(pis x)[i]? = some (.int .i64 x[i]):=by rw [zL,List.getElem?_eq_getElem hi1];rfl
  simp only [pwA,seval,-iQ0,gx,hi1];refine iteI (fun hgy=>?_) fun hly=>?_
  ·exact hk _
  have hj1:i<y.length:=by omega
  have gy:(pis y)[i]? = some (.int .i64 y[i]):=by rw [zL,List.getElem?_eq_getElem hj1];rfl
  simp only [pwA,seval,-iQ0,gy,hj1];refine zQs fun c=>?_
  simp only [pwA,seval,-iQ0,wi];refine iteI (fun hc=>?_) fun hc=>?_
  ·exact⟨_,by omega,i+1,by omega,rfl,rfl⟩
  ·exact hk _
 ·repeat' split
  all_goals exact hk _
theorem zI1 (hs:σ.obj s=some L) (hn:n=L.length) (hL:L.length≤1000) (hc:CellR L) (hab:a<b) (hb:b≤n) (hk:∀L',L'.Perm L→K (.tup []) (σ.set s L')):
  zA Tryz.prog 248 [.sl s 0 n cap,.int .i64 a,.int .i64 b,vf] σ K:=by
 subst hn;have wb:IntKind.i64.wrap ((b:Int)-1)=((b-1:Nat):Int):=by rw [wrap64 (by omega) (by omega)];omega
 refine zB mix Tryz.func248 ?_;simp only [pwA,seval,-iQ0,wb];refine zD (fun m vs h'=>∃(i j:Nat) (L':List PV),L'.Perm L∧i≤L.length∧j<L.length∧m=j-i∧vs=[.sl s 0 L.length cap,.int .i64 i,.int .i64 j]∧h'=σ.set s L') (b-1-a) ?_ ?_
 ·exact⟨a,b-1,L,.refl _,by omega,by omega,rfl,rfl,by rw [QG hs]⟩
 rintro m vs h' ⟨i,j,L',hp,hi,hj,rfl,rfl,rfl⟩
 have hl:=hp.length_eq
 by_cases hlt:i<j
 rotate_left
 ·have hc:¬(i:Int)<(j:Int):=by omega
  simp only [pwA,seval,-iQ0,hc];exact hk _ hp
 have hc1:(i:Int)<(j:Int):=by omega
 have hjI:(j:Int)<(L.length:Int):=by omega
 have hiI:(i:Int)<(L.length:Int):=by omega
 have wi:IntKind.i64.wrap ((i:Int)+1)=((i+1:Nat):Int):=wrapS (show i<1000 by omega) (by omega)
 have wj:IntKind.i64.wrap ((j:Int)-1)=((j-1:Nat):Int):=by rw [wrap64 (by omega) (by omega)];omega
 have hi1:i<L'.length:=by omega
 have hj1:j<L'.length:=by omega
 have gi1:=pgetD hi1;have gj1:=pgetD hj1;obtain⟨ci,oi,_⟩:=(hc.perm hp).oneD hi1;obtain⟨cj,oj,_⟩:=(hc.perm hp).oneD hj1;have hA:List.take i L'++[L'.getD j .undef]++List.drop (i+1) L'=L'.set i (L'.getD j .undef):=zBB hi1;have hB:List.take j (L'.set i (L'.getD j .undef))++[L'.getD i .undef]++List.drop (j+1) (L'.set i (L'.getD j .undef))=swp L' i j:=zBB (by rw [List.length_set];exact hj1)
 have hl2:j+1≤(L'.set i (L'.getD j .undef)).length:=by rw [List.length_set];omega
 generalize hu:L'.getD i .undef=u at *
 generalize hw:L'.getD j .undef=w at *
 simp only [pwA,seval,-iQ0,hc1,hjI,hiI,gi1,gj1,hA,hB,ci,oi,cj,oj,hl2,Nat.succ_le_of_lt hi1,wi,wj];refine⟨_,?_,i+1,j-1,swp L' i j,(ZP hi1 hj1).trans hp,by omega,by omega,rfl,rfl,rfl⟩
 omega
end Go.Proofs
namespace Go.Grp
end Go.Grp
namespace Go.Proofs
open Go.Ab Go.Lie Go.Grp
variable {σ h:PHeap} {K:PV→PHeap→Prop} {x y:List Int} {L L':List PV} {va vb vf v:PV} {s n a b i j:Nat} {cap:Cap}
abbrev cmpV:PV:=.clo 201 [] []
theorem inb {i n:Nat} (h:i<n):((i:Int)<(n:Int))∧(0:Int)≤(i:Int):=⟨by omega,by omega⟩
theorem qa (hc:CellR L) (hi:i<L.length) (hj:j<L.length):∃u w,L[i]? = some u∧L[j]? = some w∧u.cells=[u]∧u.one=true∧w.cells=[w]∧w.one=true∧i+1≤L.length∧
  (L.take i++[w]++L.drop (i+1)=L.set i w)∧j+1≤(L.set i w).length∧((L.set i w).take j++[u]++(L.set i w).drop (j+1)=swp L i j)∧(∃x,FI u x∧x.length≤1000)∧(∃x,FI w x∧x.length≤1000):=by
 obtain⟨ci,oi,fi⟩:=hc.oneD hi;obtain⟨cj,oj,fj⟩:=hc.oneD hj;exact⟨_,_,pgetD hi,pgetD hj,ci,oi,cj,oj,hi,zBB hi,by rw [List.length_set];exact hj,zBB (by rw [List.length_set];exact hj),fi,fj⟩
theorem zBO:okF Tryz.prog 201=true:=by kernel_rfl
theorem zBi (s:Nat) (cs:List PV):(σ.set s cs).obj s=some cs:=by rw [zn,if_pos rfl]
theorem zLI (hs:σ.obj s=some L) (hn:n=L.length) (hL:L.length≤1000) (hc:CellR L) (hab:a≤b) (hb:b≤n) (hk:∀L',L'.Perm L→K (.tup []) (σ.set s L')):
  zA Tryz.prog 244 [.sl s 0 n cap,.int .i64 a,.int .i64 b,cmpV] σ K:=by
 subst hn;have wa:IntKind.i64.wrap ((a:Int)+1)=((a+1:Nat):Int):=wrapS (show a<1001 by omega) (by omega)
 refine zB mix Tryz.func244 ?_;simp only [pwA,seval,-iQ0,wa];refine zD (fun m vs h'=>∃(i:Nat) (L':List PV),L'.Perm L∧a+1≤i∧i≤b+1∧m=b+1-i∧vs=[.sl s 0 L.length cap,.int .i64 a,.int .i64 b,cmpV,.int .i64 i]∧h'=σ.set s L') (b-a) ?_ ?_
 ·exact⟨a+1,L,.refl _,by omega,by omega,by omega,rfl,by rw [QG hs]⟩
 rintro m vs h' ⟨i,L1,hp1,hi,hib,rfl,rfl,rfl⟩
 by_cases hlt:i<b
 rotate_left
 ·have hc:¬(i:Int)<(b:Int):=by omega
  simp only [pwA,seval,-iQ0,hc];exact hk _ hp1
 have hc1:(i:Int)<(b:Int):=by omega
 have wi:IntKind.i64.wrap ((i:Int)+1)=((i+1:Nat):Int):=wrapS (show i<1000 by omega) (by omega)
 simp only [pwA,seval,-iQ0,hc1];refine zD (fun m vs h'=>∃(j:Nat) (L':List PV),L'.Perm L∧j≤i∧m=j∧vs=[.sl s 0 L.length cap,.int .i64 a,.int .i64 b,cmpV,.int .i64 i,.int .i64 j]∧h'=σ.set s L') i ?_ ?_
 ·exact⟨i,L1,hp1,by omega,rfl,rfl,rfl⟩
 rintro j vs h' ⟨_,L2,hp2,hj,rfl,rfl,rfl⟩
 have hl:=hp2.length_eq
 by_cases hja:a<j
 rotate_left
 ·simp only [pwA,seval,-iQ0,hja,wi]
  exact⟨_,by omega,i+1,L2,hp2,by omega,by omega,rfl,rfl,rfl⟩
 have wj:IntKind.i64.wrap ((j:Int)-1)=((j-1:Nat):Int):=by rw [wrap64 (by omega) (by omega)];omega
 obtain⟨u,w,gu,gw,cu,ou,cw,ow,e1,e2,e3,e4,fu,fw⟩:=qa (hc.perm hp2) (show j<L2.length by omega) (show j-1<L2.length by omega)
 obtain⟨xu,fu,lu⟩:=fu;obtain⟨xw,fw,lw'⟩:=fw;have hjI:=inb (show j<L.length by omega)
 have hkI:=inb (show j-1<L.length by omega)
 have hp3:=(ZP (L:=L2) (show j<L2.length by omega) (show j-1<L2.length by omega)).trans hp2
 simp only [pwA,seval,-iQ0,hja,hjI,hkI,gu,gw,wj];refine⟨zBO,Zh fu fw lu lw' fun c=>?_⟩
 simp only [pwA,seval,-iQ0,hja,hjI,hkI,gu,gw,wj,cu,ou,cw,ow,e1,e2,e3,e4,wi];refine iteI (fun hcc=>?_) fun hcc=>?_
 ·exact⟨_,by omega,j-1,_,hp3,by omega,rfl,rfl,rfl⟩
 ·exact⟨_,by omega,i+1,L2,hp2,by omega,by omega,rfl,rfl,rfl⟩
end Go.Proofs
namespace Go.Grp
end Go.Grp
namespace Go.Proofs
open Go.Ab Go.Lie Go.Grp
variable {σ h:PHeap} {K:PV→PHeap→Prop} {x y:List Int} {L L':List PV} {va vb vf v:PV} {s n a b i j lo hi fi:Nat} {cap:Cap}
theorem zEF (hs:σ.obj s=some L) (hn:n=L.length) (hL:L.length≤1000) (hc:CellR L) (hlo:lo≤hi) (hb:fi+hi≤n) (hk:∀L',L'.Perm L→K (.tup []) (σ.set s L')):
  zA Tryz.prog 252 [.sl s 0 n cap,.int .i64 lo,.int .i64 hi,.int .i64 fi,cmpV] σ K:=by
 subst hn;refine QA mix Tryz.func252 ?_;simp only [pwA,seval,-iQ0];refine zD (fun m vs h'=>∃(r:Nat) (L':List PV),L'.Perm L∧r≤hi∧m=hi+1-r∧vs=[.sl s 0 L.length cap,.int .i64 hi,.int .i64 fi,cmpV,.int .i64 r]∧h'=σ.set s L') (hi+1-lo) ?_ ?_
 ·exact⟨lo,L,.refl _,by omega,by omega,rfl,by rw [QG hs]⟩
 rintro m vs h' ⟨r,L1,hp1,hr,rfl,rfl,rfl⟩
 have hl:=hp1.length_eq;have w1:IntKind.i64.wrap (2*(r:Int))=((2*r:Nat):Int):=by rw [wrap64 (by omega) (by omega)];omega
 have w2:IntKind.i64.wrap (((2*r:Nat):Int)+1)=((2*r+1:Nat):Int):=wrapS (show 2*r<10000 by omega) (by omega)
 by_cases hch:2*r+1<hi
 rotate_left
 ·have g1:hi≤2*r+1:=by omega
  simp only [pwA,seval,-iQ0,w1,w2,g1];exact hk _ hp1
 have g1:¬hi≤2*r+1:=by omega
 have w3:IntKind.i64.wrap (((2*r+1:Nat):Int)+1)=((2*r+2:Nat):Int):=wrapS (show 2*r+1<10000 by omega) (by omega)
 have w4:IntKind.i64.wrap ((fi:Int)+((2*r+1:Nat):Int))=((fi+(2*r+1):Nat):Int):=by rw [wrap64 (by omega) (by omega)];omega
 have w5:IntKind.i64.wrap (((fi+(2*r+1):Nat):Int)+1)=((fi+(2*r+2):Nat):Int):=by rw [wrap64 (by omega) (by omega)];omega
 have w6:IntKind.i64.wrap ((fi:Int)+(r:Int))=((fi+r:Nat):Int):=by rw [wrap64 (by omega) (by omega)];omega
 have w7:IntKind.i64.wrap ((fi:Int)+((2*r+2:Nat):Int))=((fi+(2*r+2):Nat):Int):=by rw [wrap64 (by omega) (by omega)];omega
 have hcm:=zBO
 by_cases hch2:2*r+2<hi
 ·obtain⟨u,w,gu,gw,_,_,_,_,_,_,_,_,⟨xu,fu,lu⟩,⟨xw,fw,lw'⟩⟩:=qa (hc.perm hp1) (show fi+(2*r+1)<L1.length by omega) (show fi+(2*r+2)<L1.length by omega)
  have hiI:=inb (show fi+(2*r+1)<L.length by omega)
  have hjI:=inb (show fi+(2*r+2)<L.length by omega)
  simp only [pwA,seval,-iQ0,w1,w2,g1,w3,w4,w5,hch2,hiI,hjI,gu,gw,hcm];refine Zh fu fw lu lw' fun c=>?_
  simp only [pwA,seval,-iQ0,w1,w2,g1,w3,w4,w5,hch2,hiI,hjI,gu,gw,hcm];refine iteI (fun hcc=>?_) fun hcc=>?_
  ·clear gu gw fu fw hiI hjI
   obtain⟨p,ep⟩:∃p,p=fi+r:=⟨_,rfl⟩
   obtain⟨q,eq⟩:∃q,q=fi+(2*r+2):=⟨_,rfl⟩
   rw [←ep]at w6
   rw [←eq]at w7
   obtain⟨u,w,gu,gw,cu,ou,cw,ow,e1,e2,e3,e4,⟨xu,fu,lu⟩,⟨xw,fw,lw'⟩⟩:=qa (hc.perm hp1) (show p<L1.length by omega) (show q<L1.length by omega)
   have hiI:=inb (show p<L.length by omega)
   have hjI:=inb (show q<L.length by omega)
   simp only [pwA,seval,-iQ0,w4,w6,w7,hiI,hjI,gu,gw,hcm];refine Zh fu fw lu lw' fun c=>?_
   simp only [pwA,seval,-iQ0,w4,w6,w7,hiI,hjI,gu,gw,cu,ou,cw,ow,e1,e2,e3,e4];refine iteI (fun hcc=>?_) fun hcc=>?_
   ·exact⟨_,by omega,2*r+2,_,(ZP (by omega) (by omega)).trans hp1,by omega,rfl,rfl,rfl⟩
   ·exact hk _ hp1
  ·clear gu gw fu fw hiI hjI
   obtain⟨p,ep⟩:∃p,p=fi+r:=⟨_,rfl⟩
   obtain⟨q,eq⟩:∃q,q=fi+(2*r+1):=⟨_,rfl⟩
   rw [←ep]at w6
   rw [←eq]at w4
   obtain⟨u,w,gu,gw,cu,ou,cw,ow,e1,e2,e3,e4,⟨xu,fu,lu⟩,⟨xw,fw,lw'⟩⟩:=qa (hc.perm hp1) (show p<L1.length by omega) (show q<L1.length by omega)
   have hiI:=inb (show p<L.length by omega)
   have hjI:=inb (show q<L.length by omega)
   simp only [pwA,seval,-iQ0,w4,w6,w7,hiI,hjI,gu,gw,hcm];refine Zh fu fw lu lw' fun c=>?_
   simp only [pwA,seval,-iQ0,w4,w6,w7,hiI,hjI,gu,gw,cu,ou,cw,ow,e1,e2,e3,e4];refine iteI (fun hcc=>?_) fun hcc=>?_
   ·exact⟨_,by omega,2*r+1,_,(ZP (by omega) (by omega)).trans hp1,by omega,rfl,rfl,rfl⟩
   ·exact hk _ hp1
 ·simp only [pwA,seval,-iQ0,w1,w2,g1,w3,w4,w5,hch2]
  clear hch2;obtain⟨p,ep⟩:∃p,p=fi+r:=⟨_,rfl⟩
  obtain⟨q,eq⟩:∃q,q=fi+(2*r+1):=⟨_,rfl⟩
  rw [←ep]at w6
  rw [←eq]at w4
  obtain⟨u,w,gu,gw,cu,ou,cw,ow,e1,e2,e3,e4,⟨xu,fu,lu⟩,⟨xw,fw,lw'⟩⟩:=qa (hc.perm hp1) (show p<L1.length by omega) (show q<L1.length by omega)
  have hiI:=inb (show p<L.length by omega)
  have hjI:=inb (show q<L.length by omega)
  simp only [pwA,seval,-iQ0,w4,w6,w7,hiI,hjI,gu,gw,hcm];refine Zh fu fw lu lw' fun c=>?_
  simp only [pwA,seval,-iQ0,w4,w6,w7,hiI,hjI,gu,gw,cu,ou,cw,ow,e1,e2,e3,e4];refine iteI (fun hcc=>?_) fun hcc=>?_
  ·exact⟨_,by omega,2*r+1,_,(ZP (by omega) (by omega)).trans hp1,by omega,rfl,rfl,rfl⟩
  ·exact hk _ hp1
theorem zJk (hs:σ.obj s=some L) (hn:n=L.length) (hL:L.length≤1000) (hc:CellR L) (hab:a<b) (hb:b≤n) (hk:∀L',L'.Perm L→K (.tup []) (σ.set s L')):
  zA Tryz.prog 245 [.sl s 0 n cap,.int .i64 a,.int .i64 b,cmpV] σ K:=by
 subst hn;have w1:IntKind.i64.wrap ((b:Int)-(a:Int))=((b-a:Nat):Int):=by rw [wrap64 (by omega) (by omega)];omega
 have w2:IntKind.i64.wrap (((b-a:Nat):Int)-1)=((b-a-1:Nat):Int):=by rw [wrap64 (by omega) (by omega)];omega
 have w3:IntKind.i64.wrap (((b-a-1:Nat):Int).tdiv 2)=(((b-a-1) / 2:Nat):Int):=by
  have e:(((b-a-1:Nat):Int)).tdiv 2=(((b-a-1) / 2:Nat):Int):=by rw [Int.tdiv_eq_ediv_of_nonneg (by omega)];omega
  rw [e,wrap64 (by omega) (by omega)]
 have wd:∀{i:Int},-1≤i→i<2000→IntKind.i64.wrap (i-1)=i-1:=fun h1 h2=>wrap64 (by omega) (by omega)
 refine zB mix Tryz.func245 ?_;simp only [pwA,seval,-iQ0,w1,w2,w3];have wz:((0:Nat):Int)=0:=rfl;refine zD (fun m vs h'=>∃(L':List PV),L'.Perm L∧m≤b-a∧vs=[.sl s 0 L.length cap,cmpV,.int .i64 a,.int .i64 ((0:Nat):Int),.int .i64 ((b-a:Nat):Int),.int .i64 ((m:Int)-1)]∧h'=σ.set s L') ((b-a-1) / 2+1) ?_ ?_
 ·exact⟨L,.refl _,by omega,by rw [show((((b-a-1) / 2+1:Nat):Int)-1)=(((b-a-1) / 2:Nat):Int) by omega];rfl,by rw [QG hs]⟩
 rintro k vs h' ⟨L1,hp1,hkb,rfl,rfl⟩
 have hl:=hp1.length_eq;cases k with
 | succ k=>
  rw [show(((k+1:Nat):Int)-1)=(k:Int) by omega]
  have g0:(0:Int)≤(k:Int):=by omega
  simp only [pwA,seval,-iQ0,g0];refine zEF (zBi s L1) (by rw [hl]) (by omega) (hc.perm hp1) (by omega) (by omega) fun L2 hp2=>?_
  have wk:IntKind.i64.wrap ((k:Int)-1)=(k:Int)-1:=wrap64 (by omega) (by omega)
  simp only [pwA,seval,-iQ0,wk,qz];exact⟨k,by omega,L2,hp2.trans hp1,by omega,rfl,rfl⟩
 | zero=>
 have g0:¬(0:Int)≤((0:Nat):Int)-1:=by omega
 simp only [pwA,seval,-iQ0,g0,w2];refine zD (fun m vs h'=>∃(L':List PV),L'.Perm L∧m≤b-a∧vs=[.sl s 0 L.length cap,cmpV,.int .i64 a,.int .i64 ((0:Nat):Int),.int .i64 ((m:Int)-1)]∧h'=σ.set s L') (b-a) ?_ ?_
 ·exact⟨L1,hp1,by omega,by rw [show(((b-a:Nat):Int)-1)=((b-a-1:Nat):Int) by omega];rfl,rfl⟩
 clear hp1 hl hkb
 rintro k vs h' ⟨L1,hp1,hkb,rfl,rfl⟩
 have hl:=hp1.length_eq;cases k with
 | zero=>
  simp only [pwA,seval,-iQ0,g0];exact hk _ hp1
 | succ k=>
  rw [show(((k+1:Nat):Int)-1)=(k:Int) by omega]
  have g1:(0:Int)≤(k:Int):=by omega
  obtain⟨q,eq⟩:∃q,q=a+k:=⟨_,rfl⟩
  have wq:IntKind.i64.wrap ((a:Int)+(k:Int))=(q:Int):=by rw [wrap64 (by omega) (by omega)];omega
  have wk:IntKind.i64.wrap ((k:Int)-1)=(k:Int)-1:=wrap64 (by omega) (by omega)
  obtain⟨u,w,gu,gw,cu,ou,cw,ow,e1,e2,e3,e4,⟨xu,fu,lu⟩,⟨xw,fw,lw'⟩⟩:=qa (hc.perm hp1) (show a<L1.length by omega) (show q<L1.length by omega)
  have hiI:=inb (show a<L.length by omega)
  have hjI:=inb (show q<L.length by omega)
  have hp2:=(ZP (L:=L1) (show a<L1.length by omega) (show q<L1.length by omega)).trans hp1
  have hl2:=hp2.length_eq;simp only [pwA,seval,-iQ0,g1,wq,hiI,hjI,gu,gw,cu,ou,cw,ow,e1,e2,e3,e4];refine zEF (lo:=0) (zBi s _) (by rw [hl2]) (by omega) (hc.perm hp2) (by omega) (by omega) fun L3 hp3=>?_
  simp only [pwA,seval,-iQ0,wk,qz];exact⟨k,by omega,L3,hp3.trans hp2,by omega,rfl,rfl⟩
end Go.Proofs
namespace Go.Grp
end Go.Grp
namespace Go.Proofs
open Go.Ab Go.Lie Go.Grp
variable {σ h:PHeap} {K:PV→PHeap→Prop} {x y:List Int} {L L':List PV} {va vb vf v:PV} {s n a b i j pv:Nat} {cap:Cap}
theorem wr1c {w:PV} (ho:σ.obj s=some L) (hi:i<L.length) (hv:w.one=true):σ.wr s i [w]=some (σ.set s (L.set i w)):=by
 rw [Zr ho,if_pos ⟨(show i+1≤_ from hi),by simp [hv]⟩,←zBB hi];rfl
theorem Qs {P:Program} {Q:Exit→PEnv→PHeap→Prop} {e:PEnv} {h:PHeap} {S:List Nat} {c:IC} {id:Nat} (I:Nat→List PV→PHeap→Prop) (E:List PV→PHeap→Prop) (n:Nat) (h0:I n (S.map e) h)
  (round:∀n vs h,I n vs h→vp P c (fun x e' h'=>match x with | .normal=>∃n',n'<n∧I n' (S.map e') h' | x=>x=.exit id∧E (S.map e') h') (PEnv.mk S vs) h)
  (fin:∀e' h',E (S.map e') h'→Q (.exit id) e' h'):vp P (.loop S c) Q e h:=
 Qz _ (fun x e' h' k=>by obtain⟨rfl,hE⟩:=k;exact fin e' h' hE) (zD (Q:=fun x e' h'=>x=.exit id∧E (S.map e') h') I n h0 round)
theorem zMR (hs:σ.obj s=some L) (hn:n=L.length) (hL:L.length≤900) (hc:CellR L) (hpv:a≤pv∧pv<b) (hb:b≤n) (hk:∀L' i,L'.Perm L→a<i→i≤b→K (.int .i64 (i:Nat)) (σ.set s L')):
  zA Tryz.prog 250 [.sl s 0 n cap,.int .i64 a,.int .i64 b,.int .i64 pv,cmpV] σ K:=by
 subst hn;have hcm:=zBO;obtain⟨u,w,gu,gw,cu,ou,cw,ow,e1,e2,e3,e4,-,-⟩:=qa hc (show a<L.length by omega) (show pv<L.length by omega)
 have hiI:=inb (show a<L.length by omega)
 have hjI:=inb (show pv<L.length by omega)
 have wa:IntKind.i64.wrap ((a:Int)+1)=((a+1:Nat):Int):=wrapS (show a<1000 by omega) (by omega)
 have wb:IntKind.i64.wrap ((b:Int)-1)=((b-1:Nat):Int):=by rw [wrap64 (by omega) (by omega)];omega
 have hp1:=ZP (L:=L) (show a<L.length by omega) (show pv<L.length by omega)
 have r1:σ.rd1 s a=some u:=by rw [zF hs];exact gu
 have r2:σ.rd1 s pv=some w:=by rw [zF hs];exact gw
 have ow1:σ.wr s a [w]=some (σ.set s (L.set a w)):=wr1c hs (by omega) ow
 refine QA mix Tryz.func250 ?_;simp only [pwA,seval,-iQ0,wa,wb,hiI,hjI,r1,r2,cu,ou,cw,ow,ow1,e3,e4];generalize swp L a pv=L1 at *
 clear gu gw cu ou cw ow e1 e2 e3 e4 hiI hjI r1 r2 ow1 u w;have hl:=hp1.length_eq;refine zD (fun m vs h'=>∃(i j0:Nat) (L1:List PV),L1.Perm L∧a+1≤i∧i≤b∧a≤j0∧j0<b∧m=j0+b-i∧vs=[.sl s 0 L.length cap,.int .i64 a,cmpV,.int .i64 i,.int .i64 j0]∧h'=σ.set s L1) (b-1+b-(a+1)) ?_ ?_
 ·exact⟨a+1,b-1,L1,hp1,by omega,by omega,by omega,by omega,rfl,rfl,rfl⟩
 clear hp1 hl
 rintro m vs h' ⟨i0,j0,L1,hp1,hi1,hi2,hj1,hj2,rfl,rfl,rfl⟩
 have hl:=hp1.length_eq;simp only [pwA,seval,-iQ0];refine Qs (id:=2) (fun m vs h'=>∃i:Nat,i0≤i∧i≤b∧m=b+1-i∧vs=[.sl s 0 L.length cap,.int .i64 a,cmpV,.int .i64 i,.int .i64 j0]∧h'=σ.set s L1) (fun vs h'=>∃i:Nat,i0≤i∧i≤b∧vs=[.sl s 0 L.length cap,.int .i64 a,cmpV,.int .i64 i,.int .i64 j0]∧h'=σ.set s L1) (b+1-(i0)) ?_ ?_ ?_
 ·exact⟨i0,by omega,by omega,rfl,rfl,rfl⟩
 ·rintro m vs h' ⟨i,hi1,hi2,rfl,rfl,rfl⟩
  by_cases hij:i≤j0
  rotate_left
  ·simp only [pwA,seval,-iQ0,hij]
   exact⟨i,by omega,by omega,rfl⟩
  obtain⟨u,w,gu,gw,_,_,_,_,_,_,_,_,⟨xu,fu,lu⟩,⟨xw,fw,lw'⟩⟩:=qa (hc.perm hp1) (show a<L1.length by omega) (show i<L1.length by omega)
  have hiI:=inb (show a<L.length by omega)
  have hjI:=inb (show i<L.length by omega)
  have wi:IntKind.i64.wrap ((i:Int)+1)=((i+1:Nat):Int):=wrapS (show i<1000 by omega) (by omega)
  simp only [pwA,seval,-iQ0,hij,hiI,hjI,gu,gw,hcm];refine Zh fu fw lu lw' fun c=>?_
  simp only [pwA,seval,-iQ0,hij,hiI,hjI,gu,gw,hcm,wi];refine iteI (fun hcc=>?_) fun hcc=>?_
  all_goals first
   | exact⟨_,by omega,i+1,by omega,by omega,rfl,rfl⟩
   | exact⟨i,by omega,by omega,rfl⟩
 rintro e' h' ⟨i,hi1,hi2,he,rfl⟩
 simp only [List.map,List.cons.injEq]at he
 obtain⟨z0,z1,z2,z3,z4,-⟩:=he;simp only [pwA,seval,-iQ0,z0,z1,z2,z3,z4];refine Qs (id:=4) (fun m vs h'=>∃j:Nat,(a≤j∧j≤j0)∧j<b∧m=j+1∧vs=[.sl s 0 L.length cap,.int .i64 a,cmpV,.int .i64 i,.int .i64 j]∧h'=σ.set s L1) (fun vs h'=>∃j:Nat,(a≤j∧j≤j0)∧j<b∧vs=[.sl s 0 L.length cap,.int .i64 a,cmpV,.int .i64 i,.int .i64 j]∧h'=σ.set s L1) (j0+1) ?_ ?_ ?_
 ·exact⟨j0,by omega,by omega,rfl,by simp only [List.map,z0,z1,z2,z3,z4],rfl⟩
 ·rintro m vs h' ⟨j,hj1,hj2,rfl,rfl,rfl⟩
  by_cases hij:i≤j
  rotate_left
  ·simp only [pwA,seval,-iQ0,hij]
   exact⟨j,by omega,by omega,rfl⟩
  obtain⟨u,w,gu,gw,_,_,_,_,_,_,_,_,⟨xu,fu,lu⟩,⟨xw,fw,lw'⟩⟩:=qa (hc.perm hp1) (show a<L1.length by omega) (show j<L1.length by omega)
  have hiI:=inb (show a<L.length by omega)
  have hjI:=inb (show j<L.length by omega)
  have wj:IntKind.i64.wrap ((j:Int)-1)=((j-1:Nat):Int):=by rw [wrap64 (by omega) (by omega)];omega
  simp only [pwA,seval,-iQ0,hij,hiI,hjI,gu,gw,hcm];refine Zh fu fw lu lw' fun c=>?_
  simp only [pwA,seval,-iQ0,hij,hiI,hjI,gu,gw,hcm,wj];refine iteI (fun hcc=>?_) fun hcc=>?_
  all_goals first
   | exact⟨_,by omega,j-1,by omega,by omega,rfl,rfl⟩
   | exact⟨j,by omega,by omega,rfl⟩
 clear z0 z1 z2 z3 z4
 rintro e' h' ⟨j,hj1,hj2,he,rfl⟩
 simp only [List.map,List.cons.injEq]at he
 obtain⟨z0,z1,z2,z3,z4,-⟩:=he
 by_cases hij:j<i
 ·simp only [pwA,seval,-iQ0,z0,z1,z2,z3,z4,hij]
  exact hk _ _ hp1 (by omega) (by omega)
 have wi:IntKind.i64.wrap ((i:Int)+1)=((i+1:Nat):Int):=wrapS (show i<1000 by omega) (by omega)
 have wj:IntKind.i64.wrap ((j:Int)-1)=((j-1:Nat):Int):=by rw [wrap64 (by omega) (by omega)];omega
 obtain⟨u,w,gu,gw,cu,ou,cw,ow,e1,e2,e3,e4,-,-⟩:=qa (hc.perm hp1) (show i<L1.length by omega) (show j<L1.length by omega)
 have hiI:=inb (show i<L.length by omega)
 have hjI:=inb (show j<L.length by omega)
 have hp2:=(ZP (L:=L1) (show i<L1.length by omega) (show j<L1.length by omega)).trans hp1
 simp only [pwA,seval,-iQ0,z0,z1,z2,z3,z4,hij,hiI,hjI,gu,gw,cu,ou,cw,ow,e1,e2,e3,e4,wi,wj];exact⟨_,by omega,i+1,j-1,_,hp2,by omega,by omega,by omega,by omega,rfl,rfl,rfl⟩
end Go.Proofs
namespace Go.Grp
end Go.Grp
namespace Go.Proofs
open Go.Ab Go.Lie Go.Grp
variable {σ h:PHeap} {K:PV→PHeap→Prop} {x y:List Int} {L L':List PV} {va vb vf v:PV} {s n a b i j pv:Nat} {cap:Cap}
set_option maxHeartbeats 1600000 in
theorem zQH (hs:σ.obj s=some L) (hn:n=L.length) (hL:L.length≤900) (hc:CellR L) (hpv:a≤pv∧pv<b) (hb:b≤n) (hk:∀L' j t,L'.Perm L→a≤j→j<b→K (.tup [.int .i64 (j:Nat),.bool t]) (σ.set s L')):
  zA Tryz.prog 251 [.sl s 0 n cap,.int .i64 a,.int .i64 b,.int .i64 pv,cmpV] σ K:=by
 subst hn;have hcm:=zBO;obtain⟨u,w,gu,gw,cu,ou,cw,ow,e1,e2,e3,e4,-,-⟩:=qa hc (show a<L.length by omega) (show pv<L.length by omega)
 have hiI:=inb (show a<L.length by omega)
 have hjI:=inb (show pv<L.length by omega)
 have wa:IntKind.i64.wrap ((a:Int)+1)=((a+1:Nat):Int):=wrapS (show a<1000 by omega) (by omega)
 have wb:IntKind.i64.wrap ((b:Int)-1)=((b-1:Nat):Int):=by rw [wrap64 (by omega) (by omega)];omega
 have hp1:=ZP (L:=L) (show a<L.length by omega) (show pv<L.length by omega)
 have r1:σ.rd1 s a=some u:=by rw [zF hs];exact gu
 have r2:σ.rd1 s pv=some w:=by rw [zF hs];exact gw
 have ow1:σ.wr s a [w]=some (σ.set s (L.set a w)):=wr1c hs (by omega) ow
 refine QA mix Tryz.func251 ?_;simp only [pwA,seval,-iQ0,wa,wb,hiI,hjI,r1,r2,cu,ou,cw,ow,ow1,e3,e4];generalize swp L a pv=L1 at *
 clear gu gw cu ou cw ow e1 e2 e3 e4 hiI hjI r1 r2 ow1 u w;have hl:=hp1.length_eq;obtain⟨j0,ej0⟩:∃j0,j0=b-1:=⟨_,rfl⟩
 obtain⟨i0,ei0⟩:∃i0,i0=a+1:=⟨_,rfl⟩
 rw [←ej0,←ei0];refine Qs (id:=0) (fun m vs h'=>∃i:Nat,i0≤i∧i≤b∧m=b+1-i∧vs=[.sl s 0 L.length cap,.int .i64 a,cmpV,.int .i64 i,.int .i64 j0]∧h'=σ.set s L1) (fun vs h'=>∃i:Nat,i0≤i∧i≤b∧vs=[.sl s 0 L.length cap,.int .i64 a,cmpV,.int .i64 i,.int .i64 j0]∧h'=σ.set s L1) (b+1-(i0)) ?_ ?_ ?_
 ·exact⟨i0,by omega,by omega,rfl,rfl,rfl⟩
 ·rintro m vs h' ⟨i,hi1,hi2,rfl,rfl,rfl⟩
  by_cases hij:i≤j0
  rotate_left
  ·simp only [pwA,seval,-iQ0,hij]
   exact⟨i,by omega,by omega,rfl⟩
  obtain⟨u,w,gu,gw,_,_,_,_,_,_,_,_,⟨xu,fu,lu⟩,⟨xw,fw,lw'⟩⟩:=qa (hc.perm hp1) (show i<L1.length by omega) (show a<L1.length by omega)
  have hiI:=inb (show i<L.length by omega)
  have hjI:=inb (show a<L.length by omega)
  have wi:IntKind.i64.wrap ((i:Int)+1)=((i+1:Nat):Int):=wrapS (show i<1000 by omega) (by omega)
  simp only [pwA,seval,-iQ0,hij,hiI,hjI,gu,gw,hcm];refine Zh fu fw lu lw' fun c=>?_
  simp only [pwA,seval,-iQ0,hij,hiI,hjI,gu,gw,hcm,wi];refine iteI (fun hcc=>?_) fun hcc=>?_
  all_goals first
   | exact⟨_,by omega,i+1,by omega,by omega,rfl,rfl⟩
   | exact⟨i,by omega,by omega,rfl⟩
 rintro e' h' ⟨i,hi1,hi2,he,rfl⟩
 simp only [List.map,List.cons.injEq]at he
 obtain⟨z0,z1,z2,z3,z4,-⟩:=he;simp only [pwA,seval,-iQ0,z0,z1,z2,z3,z4];refine Qs (id:=2) (fun m vs h'=>∃j:Nat,(a≤j∧j≤j0)∧j<b∧m=j+1∧vs=[.sl s 0 L.length cap,.int .i64 a,cmpV,.int .i64 i,.int .i64 j]∧h'=σ.set s L1) (fun vs h'=>∃j:Nat,(a≤j∧j≤j0)∧j<b∧vs=[.sl s 0 L.length cap,.int .i64 a,cmpV,.int .i64 i,.int .i64 j]∧h'=σ.set s L1) (j0+1) ?_ ?_ ?_
 ·exact⟨j0,by omega,by omega,rfl,by simp only [List.map,z0,z1,z2,z3,z4],rfl⟩
 ·rintro m vs h' ⟨j,hj1,hj2,rfl,rfl,rfl⟩
  by_cases hij:i≤j
  rotate_left
  ·simp only [pwA,seval,-iQ0,hij]
   exact⟨j,by omega,by omega,rfl⟩
  obtain⟨u,w,gu,gw,_,_,_,_,_,_,_,_,⟨xu,fu,lu⟩,⟨xw,fw,lw'⟩⟩:=qa (hc.perm hp1) (show j<L1.length by omega) (show a<L1.length by omega)
  have hiI:=inb (show j<L.length by omega)
  have hjI:=inb (show a<L.length by omega)
  have wj:IntKind.i64.wrap ((j:Int)-1)=((j-1:Nat):Int):=by rw [wrap64 (by omega) (by omega)];omega
  simp only [pwA,seval,-iQ0,hij,hiI,hjI,gu,gw,hcm];refine Zh fu fw lu lw' fun c=>?_
  simp only [pwA,seval,-iQ0,hij,hiI,hjI,gu,gw,hcm,wj];refine iteI (fun hcc=>?_) fun hcc=>?_
  all_goals first
   | exact⟨_,by omega,j-1,by omega,by omega,rfl,rfl⟩
   | exact⟨j,by omega,by omega,rfl⟩
 clear z0 z1 z2 z3 z4
 rintro e' h' ⟨j,hj1,hj2,he,rfl⟩
 simp only [List.map,List.cons.injEq]at he
 obtain⟨z0,z1,z2,z3,z4,-⟩:=he
 by_cases hij:j<i
 ·obtain⟨u,w,gu,gw,cu,ou,cw,ow,e1,e2,e3,e4,-,-⟩:=qa (hc.perm hp1) (show j<L1.length by omega) (show a<L1.length by omega)
  have hiI:=inb (show j<L.length by omega)
  have hjI:=inb (show a<L.length by omega)
  have hp2:=(ZP (L:=L1) (show j<L1.length by omega) (show a<L1.length by omega)).trans hp1
  simp only [pwA,seval,-iQ0,z0,z1,z2,z3,z4,hij,hiI,hjI,gu,gw,cu,ou,cw,ow,e1,e2,e3,e4];exact hk _ _ _ hp2 (by omega) (by omega)
 have wi:IntKind.i64.wrap ((i:Int)+1)=((i+1:Nat):Int):=wrapS (show i<1000 by omega) (by omega)
 have wj:IntKind.i64.wrap ((j:Int)-1)=((j-1:Nat):Int):=by rw [wrap64 (by omega) (by omega)];omega
 obtain⟨u,w,gu,gw,cu,ou,cw,ow,e1,e2,e3,e4,-,-⟩:=qa (hc.perm hp1) (show i<L1.length by omega) (show j<L1.length by omega)
 have hiI:=inb (show i<L.length by omega)
 have hjI:=inb (show j<L.length by omega)
 have hp2:=(ZP (L:=L1) (show i<L1.length by omega) (show j<L1.length by omega)).trans hp1
 simp only [pwA,seval,-iQ0,z0,z1,z2,z3,z4,hij,hiI,hjI,gu,gw,cu,ou,cw,ow,e1,e2,e3,e4,wi,wj];clear gu gw cu ou cw ow e1 e2 e3 e4 hiI hjI z0 z1 z2 z3 z4 wi wj;refine zD (fun m vs h'=>∃(i j0:Nat) (L1:List PV),L1.Perm L∧a+1≤i∧i≤b∧a≤j0∧j0<b∧m=j0+b-i∧vs=[.sl s 0 L.length cap,.int .i64 a,cmpV,.int .i64 i,.int .i64 j0]∧h'=σ.set s L1) (j-1+b-(i+1)) ?_ ?_
 ·exact⟨i+1,j-1,_,hp2,by omega,by omega,by omega,by omega,rfl,rfl,rfl⟩
 generalize swp L1 i j=L2 at *
 clear hp1 hl hp2 hij hi1 hi2 hj1 hj2 ej0 ei0;clear L1 i j i0 j0 e' L2
 rintro m vs h' ⟨i0,j0,L1,hp1,hi1,hi2,hj1,hj2,rfl,rfl,rfl⟩
 have hl:=hp1.length_eq;simp only [pwA,seval,-iQ0];refine Qs (id:=6) (fun m vs h'=>∃i:Nat,i0≤i∧i≤b∧m=b+1-i∧vs=[.sl s 0 L.length cap,.int .i64 a,cmpV,.int .i64 i,.int .i64 j0]∧h'=σ.set s L1) (fun vs h'=>∃i:Nat,i0≤i∧i≤b∧vs=[.sl s 0 L.length cap,.int .i64 a,cmpV,.int .i64 i,.int .i64 j0]∧h'=σ.set s L1) (b+1-(i0)) ?_ ?_ ?_
 ·exact⟨i0,by omega,by omega,rfl,rfl,rfl⟩
 ·rintro m vs h' ⟨i,hi1,hi2,rfl,rfl,rfl⟩
  by_cases hij:i≤j0
  rotate_left
  ·simp only [pwA,seval,-iQ0,hij]
   exact⟨i,by omega,by omega,rfl⟩
  obtain⟨u,w,gu,gw,_,_,_,_,_,_,_,_,⟨xu,fu,lu⟩,⟨xw,fw,lw'⟩⟩:=qa (hc.perm hp1) (show i<L1.length by omega) (show a<L1.length by omega)
  have hiI:=inb (show i<L.length by omega)
  have hjI:=inb (show a<L.length by omega)
  have wi:IntKind.i64.wrap ((i:Int)+1)=((i+1:Nat):Int):=wrapS (show i<1000 by omega) (by omega)
  simp only [pwA,seval,-iQ0,hij,hiI,hjI,gu,gw,hcm];refine Zh fu fw lu lw' fun c=>?_
  simp only [pwA,seval,-iQ0,hij,hiI,hjI,gu,gw,hcm,wi];refine iteI (fun hcc=>?_) fun hcc=>?_
  all_goals first
   | exact⟨_,by omega,i+1,by omega,by omega,rfl,rfl⟩
   | exact⟨i,by omega,by omega,rfl⟩
 rintro e' h' ⟨i,hi1,hi2,he,rfl⟩
 simp only [List.map,List.cons.injEq]at he
 obtain⟨z0,z1,z2,z3,z4,-⟩:=he;simp only [pwA,seval,-iQ0,z0,z1,z2,z3,z4];refine Qs (id:=8) (fun m vs h'=>∃j:Nat,(a≤j∧j≤j0)∧j<b∧m=j+1∧vs=[.sl s 0 L.length cap,.int .i64 a,cmpV,.int .i64 i,.int .i64 j]∧h'=σ.set s L1) (fun vs h'=>∃j:Nat,(a≤j∧j≤j0)∧j<b∧vs=[.sl s 0 L.length cap,.int .i64 a,cmpV,.int .i64 i,.int .i64 j]∧h'=σ.set s L1) (j0+1) ?_ ?_ ?_
 ·exact⟨j0,by omega,by omega,rfl,by simp only [List.map,z0,z1,z2,z3,z4],rfl⟩
 ·rintro m vs h' ⟨j,hj1,hj2,rfl,rfl,rfl⟩
  by_cases hij:i≤j
  rotate_left
  ·simp only [pwA,seval,-iQ0,hij]
   exact⟨j,by omega,by omega,rfl⟩
  obtain⟨u,w,gu,gw,_,_,_,_,_,_,_,_,⟨xu,fu,lu⟩,⟨xw,fw,lw'⟩⟩:=qa (hc.perm hp1) (show j<L1.length by omega) (show a<L1.length by omega)
  have hiI:=inb (show j<L.length by omega)
  have hjI:=inb (show a<L.length by omega)
  have wj:IntKind.i64.wrap ((j:Int)-1)=((j-1:Nat):Int):=by rw [wrap64 (by omega) (by omega)];omega
  simp only [pwA,seval,-iQ0,hij,hiI,hjI,gu,gw,hcm];refine Zh fu fw lu lw' fun c=>?_
  simp only [pwA,seval,-iQ0,hij,hiI,hjI,gu,gw,hcm,wj];refine iteI (fun hcc=>?_) fun hcc=>?_
  all_goals first
   | exact⟨_,by omega,j-1,by omega,by omega,rfl,rfl⟩
   | exact⟨j,by omega,by omega,rfl⟩
 clear z0 z1 z2 z3 z4
 rintro e' h' ⟨j,hj1,hj2,he,rfl⟩
 simp only [List.map,List.cons.injEq]at he
 obtain⟨z0,z1,z2,z3,z4,-⟩:=he
 by_cases hij:j<i
 ·obtain⟨u,w,gu,gw,cu,ou,cw,ow,e1,e2,e3,e4,-,-⟩:=qa (hc.perm hp1) (show j<L1.length by omega) (show a<L1.length by omega)
  have hiI:=inb (show j<L.length by omega)
  have hjI:=inb (show a<L.length by omega)
  have hp2:=(ZP (L:=L1) (show j<L1.length by omega) (show a<L1.length by omega)).trans hp1
  simp only [pwA,seval,-iQ0,z0,z1,z2,z3,z4,hij,hiI,hjI,gu,gw,cu,ou,cw,ow,e1,e2,e3,e4];exact hk _ _ _ hp2 (by omega) (by omega)
 have wi:IntKind.i64.wrap ((i:Int)+1)=((i+1:Nat):Int):=wrapS (show i<1000 by omega) (by omega)
 have wj:IntKind.i64.wrap ((j:Int)-1)=((j-1:Nat):Int):=by rw [wrap64 (by omega) (by omega)];omega
 obtain⟨u,w,gu,gw,cu,ou,cw,ow,e1,e2,e3,e4,-,-⟩:=qa (hc.perm hp1) (show i<L1.length by omega) (show j<L1.length by omega)
 have hiI:=inb (show i<L.length by omega)
 have hjI:=inb (show j<L.length by omega)
 have hp2:=(ZP (L:=L1) (show i<L1.length by omega) (show j<L1.length by omega)).trans hp1
 simp only [pwA,seval,-iQ0,z0,z1,z2,z3,z4,hij,hiI,hjI,gu,gw,cu,ou,cw,ow,e1,e2,e3,e4,wi,wj];exact⟨_,by omega,i+1,j-1,_,hp2,by omega,by omega,by omega,by omega,rfl,rfl,rfl⟩
end Go.Proofs
namespace Go.Grp
end Go.Grp
namespace Go.Proofs
open Go.Ab Go.Lie Go.Grp
variable {σ h:PHeap} {K:PV→PHeap→Prop} {x y:List Int} {L L':List PV} {va vb vf v:PV} {s n a b c i j pv t:Nat} {cap:Cap} {k:Int}
theorem zFS (hs:σ.obj s=some L) (hn:n=L.length) (hL:L.length≤900) (hc:CellR L) (hab:a<b) (hb:b≤n) (h50:b-a<50) (hk:∀r,K (.bool r) σ):
  zA Tryz.prog 249 [.sl s 0 n cap,.int .i64 a,.int .i64 b,cmpV] σ K:=by
 subst hn;have hcm:=zBO;have wa:IntKind.i64.wrap ((a:Int)+1)=((a+1:Nat):Int):=wrapS (show a<1000 by omega) (by omega)
 have wba:IntKind.i64.wrap ((b:Int)-(a:Int))=((b-a:Nat):Int):=by rw [wrap64 (by omega) (by omega)];omega
 have h51:((b-a:Nat):Int)<50:=by omega
 refine QA mix Tryz.func249 ?_;simp only [pwA,seval,-iQ0,wa];refine zD (fun m vs h'=>vs=[.sl s 0 L.length cap,.int .i64 a,.int .i64 b,cmpV,.int .i64 ((a+1:Nat):Int),.int .i64 0]∧h'=σ) 0 ⟨rfl,rfl⟩ ?_
 rintro m vs h' ⟨rfl,rfl⟩
 simp only [pwA,seval,-iQ0];refine Qs (id:=2) (fun m vs h''=>∃i:Nat,a+1≤i∧i≤b∧m=b-i∧vs=[.sl s 0 L.length cap,.int .i64 a,.int .i64 b,cmpV,.int .i64 i,.int .i64 0]∧h''=h') (fun vs h''=>∃i:Nat,a+1≤i∧i≤b∧vs=[.sl s 0 L.length cap,.int .i64 a,.int .i64 b,cmpV,.int .i64 i,.int .i64 0]∧h''=h') (b-(a+1)) ?_ ?_ ?_
 ·exact⟨a+1,by omega,by omega,rfl,rfl,rfl⟩
 ·rintro m vs h'' ⟨i,hi1,hi2,rfl,rfl,rfl⟩
  by_cases hij:i<b
  rotate_left
  ·simp only [pwA,seval,-iQ0,hij]
   exact⟨i,by omega,by omega,rfl⟩
  obtain⟨u,w,gu,gw,_,_,_,_,_,_,_,_,⟨xu,fu,lu⟩,⟨xw,fw,lw'⟩⟩:=qa hc (show i<L.length by omega) (show i-1<L.length by omega)
  have hiI:=inb (show i<L.length by omega)
  have hjI:=inb (show i-1<L.length by omega)
  have r1:h''.rd1 s i=some u:=by rw [zF hs];exact gu
  have r2:h''.rd1 s (i-1)=some w:=by rw [zF hs];exact gw
  have wi:IntKind.i64.wrap ((i:Int)+1)=((i+1:Nat):Int):=wrapS (show i<1000 by omega) (by omega)
  have wj:IntKind.i64.wrap ((i:Int)-1)=((i-1:Nat):Int):=by rw [wrap64 (by omega) (by omega)];omega
  simp only [pwA,seval,-iQ0,hij,hiI,hjI,r1,r2,hcm,wj];refine Zh fu fw lu lw' fun c=>?_
  simp only [pwA,seval,-iQ0,hij,hiI,hjI,r1,r2,hcm,wi,wj];refine iteI (fun hcc=>?_) fun hcc=>?_
  all_goals first
   | exact⟨_,by omega,i+1,by omega,by omega,rfl,rfl⟩
   | exact⟨i,by omega,by omega,rfl⟩
 rintro e' h'' ⟨i,hi1,hi2,he,rfl⟩
 simp only [List.map,List.cons.injEq]at he
 obtain⟨z0,z1,z2,z3,z4,z5,-⟩:=he
 by_cases hib:i=b
 ·simp only [pwA,seval,-iQ0,z0,z1,z2,z3,z4,z5,hib]
  exact hk _
 ·have hib':¬(i:Int)=(b:Int):=by omega
  simp only [pwA,seval,-iQ0,z0,z1,z2,z3,z4,z5,hib,hib',wba,h51];exact hk _
theorem zDD (hs:σ.obj s=some L) (hn:n=L.length) (hL:L.length≤900) (hc:CellR L) (ha:a<n) (hb:b<n) (ht:σ.obj t=some [.int .i64 k]) (hk:∀x y (k':Int),(x=a∧y=b)∨(x=b∧y=a)→K (.tup [.int .i64 (x:Nat),.int .i64 (y:Nat)]) (σ.set t [.int .i64 k'])):
  zA Tryz.prog 255 [.sl s 0 n cap,.int .i64 a,.int .i64 b,.ptr t 0,cmpV] σ K:=by
 subst hn;have hcm:=zBO;obtain⟨u,w,gu,gw,_,_,_,_,_,_,_,_,⟨xu,fu,lu⟩,⟨xw,fw,lw'⟩⟩:=qa hc ha hb;have hiI:=inb ha;have hjI:=inb hb;have r1:σ.rd1 s a=some u:=by rw [zF hs];exact gu
 have r2:σ.rd1 s b=some w:=by rw [zF hs];exact gw
 have r3:σ.rd1 t 0=some (.int .i64 k):=by rw [zF ht];rfl
 have w3:∀k',σ.wr t 0 [.int .i64 k']=some (σ.set t [.int .i64 k']):=fun k'=>by rw [Zr ht];rfl
 refine zB mix Tryz.func255 ?_;simp only [pwA,seval,-iQ0,hiI,hjI,r1,r2,hcm];refine Zh fw fu lw' lu fun c=>?_
 simp only [pwA,seval,-iQ0,hiI,hjI,r1,r2,r3,w3,hcm];refine iteI (fun hcc=>?_) fun hcc=>?_
 ·exact hk b a _ (.inr ⟨rfl,rfl⟩)
 ·have:=hk a b k (.inl ⟨rfl,rfl⟩)
  rwa [QG ht]at this
theorem zMi (hs:σ.obj s=some L) (hn:n=L.length) (hL:L.length≤900) (hc:CellR L) (ha:a<n) (hb:b<n) (hcn:c<n) (ht:σ.obj t=some [.int .i64 k]) (hst:s≠t) (hk:∀x (k':Int),x=a∨x=b∨x=c→K (.int .i64 (x:Nat)) (σ.set t [.int .i64 k'])):
  zA Tryz.prog 254 [.sl s 0 n cap,.int .i64 a,.int .i64 b,.int .i64 c,.ptr t 0,cmpV] σ K:=by
 have os:∀k',(σ.set t [.int .i64 k']).obj s=some L:=fun k'=>by rw [zn,if_neg hst];exact hs
 have ot:∀k':Int,(σ.set t [.int .i64 k']).obj t=some [.int .i64 k']:=fun k'=>by rw [zn,if_pos rfl]
 refine zB mix Tryz.func254 ?_;simp only [pwA,seval,-iQ0];refine zDD hs hn hL hc ha hb ht fun x y k1 h1=>?_
 simp only [pwA,seval,-iQ0];refine zDD (os _) hn hL hc (by omega) hcn (ot _) fun x2 y2 k2 h2=>?_
 rw [qz];simp only [pwA,seval,-iQ0];refine zDD (os _) hn hL hc (by omega) (by omega) (ot _) fun x3 y3 k3 h3=>?_
 rw [qz];simp only [pwA,seval,-iQ0];exact hk _ _ (by omega)
end Go.Proofs
namespace Go.Grp
end Go.Grp
set_option maxRecDepth 20000
namespace Go.Proofs
open Go.Ab Go.Lie Go.Grp
variable {σ h:PHeap} {K:PV→PHeap→Prop} {x y:List Int} {L L':List PV} {va vb vf v:PV} {s n a b c i j pv t:Nat} {cap:Cap} {k:Int}
theorem zNQ (hs:σ.obj s=some L) (hsl:s<σ.next) (hn:n=L.length) (hL:L.length≤900) (hc:CellR L) (hb:b≤n) (h12:12<b-a) (h50:b-a<50) (hk:∀(p:Nat) (r:Int),a≤p→p<b→K (.tup [.int .i64 p,.int .i64 r]) σ):
  zA Tryz.prog 247 [.sl s 0 n cap,.int .i64 a,.int .i64 b,cmpV] σ K:=by
 subst hn;refine zA.gh ?_;have w1:IntKind.i64.wrap ((b:Int)-(a:Int))=((b-a:Nat):Int):=by rw [wrap64 (by omega) (by omega)];omega
 obtain⟨q,hq⟩:∃q,q=(b-a) / 4:=⟨_,rfl⟩
 have w2:IntKind.i64.wrap (((b-a:Nat):Int).tdiv 4)=(q:Int):=by
  have e:(((b-a:Nat):Int)).tdiv 4=(q:Int):=by rw [Int.tdiv_eq_ediv_of_nonneg (by omega)];omega
  rw [e,wrap64 (by omega) (by omega)]
 have w3:IntKind.i64.wrap ((q:Int)*1)=(q:Int):=by rw [wrap64 (by omega) (by omega)];omega
 have w4:IntKind.i64.wrap ((q:Int)*2)=((q*2:Nat):Int):=by rw [wrap64 (by omega) (by omega)];omega
 have w5:IntKind.i64.wrap ((q:Int)*3)=((q*3:Nat):Int):=by rw [wrap64 (by omega) (by omega)];omega
 have w6:IntKind.i64.wrap ((a:Int)+(q:Int))=((a+q:Nat):Int):=by rw [wrap64 (by omega) (by omega)];omega
 have w7:IntKind.i64.wrap ((a:Int)+((q*2:Nat):Int))=((a+q*2:Nat):Int):=by rw [wrap64 (by omega) (by omega)];omega
 have w8:IntKind.i64.wrap ((a:Int)+((q*3:Nat):Int))=((a+q*3:Nat):Int):=by rw [wrap64 (by omega) (by omega)];omega
 have g8:(8:Int)≤((b-a:Nat):Int):=by omega
 have g50:¬(50:Int)≤((b-a:Nat):Int):=by omega
 refine zB mix Tryz.func247 ?_;simp only [pwA,seval,-iQ0,w1,w2,w3,w4,w5,w6,w7,w8,g8,g50];have os:(σ.new [.int .i64 0]).obj s=some L:=by rw [zH,if_neg (by omega)];exact hs
 refine zMi (k:=0) os rfl hL hc (by omega) (by omega) (by omega) (by rw [zH,if_pos rfl]) (by omega) fun p k' hp=>?_
 have r1:((σ.new [.int .i64 0]).set σ.next [.int .i64 k']).rd1 σ.next 0=some (.int .i64 k'):=by rw [zF (zBi _ _)];rfl
 have fin:∀r:Int,Gh σ K (.tup [.int .i64 p,.int .i64 r]) (σ.new [.int .i64 k']):=fun r=>Gh.fin0 (zC σ _) ⟨trivial,trivial,trivial⟩ (hk p r (by omega) (by omega))
 simp only [pwA,seval,-iQ0,r1];refine iteI (fun h0=>?_) fun h0=>?_
 ·exact fin _
 refine iteI (fun h1=>?_) fun h1=>?_
 ·exact fin _
 ·exact fin _
theorem tblI {T:List UInt8} {u:Nat} {F:UInt8→Prop} (hT:(List.range 64).all (fun u=>match T[u]? with | some l=>decide (l.toNat≤6∧u<2 ^ l.toNat∧(u=0∨2 ^ l.toNat≤2*u)) | none=>false)=true) (hu:u<64)
  (k:∀l:UInt8,l.toNat≤6→u<2 ^ l.toNat→(u=0∨2 ^ l.toNat≤2*u)→F l):optK T[u]? F:=by
 have h:=List.all_eq_true.1 hT u (List.mem_range.2 hu);cases e:T[u]? with
 | none=>rw [e]at h;cases h
 | some l=>
  rw [e]at h
  obtain⟨h1,h2,h3⟩:=of_decide_eq_true h;exact⟨l,rfl,k l h1 h2 h3⟩
theorem zPZ {u:Nat} (hu:u<64) (hk:∀l:Nat,l≤6→u<2 ^ l→(u=0∨2 ^ l≤2*u)→K (.int .i64 l) σ):zA Tryz.prog 228 [.int .u64 u] σ K:=by
 have w0:IntKind.u8.wrap (u:Int)=(u:Int):=by show(u:Int) % 256=_;omega
 have g1:¬(4294967296:Int)≤(u:Int):=by omega
 have g2:¬(65536:Int)≤(u:Int):=by omega
 have g3:¬(256:Int)≤(u:Int):=by omega
 refine zB mix Tryz.func228 ?_;simp only [pwA,seval,-iQ0,g1,g2,g3,w0];refine tblI (by decide) hu fun l h1 h2 h3=>?_
 have w1:IntKind.i64.wrap (l.toNat:Int)=(l.toNat:Int):=wrap64 (by omega) (by omega)
 have w2:IntKind.i64.wrap (0+(l.toNat:Int))=(l.toNat:Int):=by rw [Int.zero_add];exact w1
 simp only [pwA,seval,-iQ0,w1,w2];exact hk _ h1 h2 h3
theorem zNg {u:Nat} (hu:u<64) (hk:∀l:Nat,l≤6→u<2 ^ l→(u=0∨2 ^ l≤2*u)→K (.int .i64 l) σ):zA Tryz.prog 198 [.int .u64 u] σ K:=by
 refine zB mix Tryz.func198 ?_;simp only [pwA,seval,-iQ0];refine zPZ hu fun l h1 h2 h3=>?_
 simp only [pwA,seval,-iQ0];exact hk _ h1 h2 h3
theorem zQS {u:Nat} (hu:u<64) (h1:1≤u) (hk:∀m:Nat,1≤m→m≤2*u→K (.int .u64 m) σ):zA Tryz.prog 238 [.int .i64 u] σ K:=by
 have w0:IntKind.u64.wrap (u:Int)=(u:Int):=by show(u:Int) % 18446744073709551616=_;omega
 refine zB mix Tryz.func238 ?_;simp only [pwA,seval,-iQ0,w0];refine zNg hu fun l h1 h2 h3=>?_
 have hl:l=0∨l=1∨l=2∨l=3∨l=4∨l=5∨l=6:=by omega
 have e:pbin .shl .other (.int .u64 1) (.int .i64 l)=some (.int .u64 ((2 ^ l:Nat):Int)):=by
  rcases hl with rfl|rfl|rfl|rfl|rfl|rfl|rfl<;>rfl
 simp only [pwA,seval,-iQ0,e];exact hk _ (Nat.one_le_two_pow) (by omega)
theorem zQ8 (ht:σ.obj t=some [.int .u64 k]) (hk:∀r:Int,K (.int .u64 r) (σ.set t [.int .u64 r])):zA Tryz.prog 239 [.ptr t 0] σ K:=by
 have r0:σ.rd1 t 0=some (.int .u64 k):=by rw [zF ht];rfl
 have w3:∀k',σ.wr t 0 [.int .u64 k']=some (σ.set t [.int .u64 k']):=fun k'=>by rw [Zr ht];rfl
 have s1:∀a:Int,pbin .shl .other (.int .u64 a) (.int .u64 13)=some (.int .u64 (IntKind.u64.wrap (a*8192))):=fun a=>rfl
 have s2:∀a:Int,pbin .shr .other (.int .u64 a) (.int .u64 7)=some (.int .u64 (a.fdiv 128)):=fun a=>rfl
 have s3:∀a:Int,pbin .shl .other (.int .u64 a) (.int .u64 17)=some (.int .u64 (IntKind.u64.wrap (a*131072))):=fun a=>rfl
 have x1:∀a b:Int,∃r:Int,pbin .xor .other (.int .u64 a) (.int .u64 b)=some (.int .u64 r):=fun a b=>⟨_,rfl⟩
 obtain⟨a1,e1⟩:=x1 k (IntKind.u64.wrap (k*8192));obtain⟨a2,e2⟩:=x1 a1 (a1.fdiv 128);obtain⟨a3,e3⟩:=x1 a2 (IntKind.u64.wrap (a2*131072));refine zB mix Tryz.func239 ?_;simp only [pwA,seval,-iQ0,r0,s1,s2,s3,e1,e2,e3,w3];exact hk _
theorem CellR.bels (hc:CellR L) (m:Nat):Bels m L:=zBc.2 fun c hcc=>by
 obtain⟨x,⟨w,o,e⟩,_⟩:=hc c hcc;rw [e];trivial
theorem zKP {a:Int} {m:Nat} (hm:1≤m) (hm2:m≤1000):∃r:Nat,pbin .and .other (.int .u64 a) (.int .u64 ((m-1:Nat):Int))=some (.int .u64 r)∧r<m:=by
 have h1:(BitVec.ofInt 64 a &&& BitVec.ofInt 64 ((m-1:Nat):Int)).toNat≤m-1:=by
  rw [BitVec.toNat_and];refine Nat.le_trans Nat.and_le_right ?_;rw [BitVec.toNat_ofInt]
  have:((m-1:Nat):Int) % ((2 ^ 64:Nat):Int)=((m-1:Nat):Int):=Int.emod_eq_of_lt (by omega) (by show _<(18446744073709551616:Int);omega)
  rw [this];exact Nat.le_of_eq (Int.toNat_natCast _)
 have h2:IntKind.u64.wrap (((BitVec.ofInt 64 a &&& BitVec.ofInt 64 ((m-1:Nat):Int)).toNat:Nat):Int)=(((BitVec.ofInt 64 a &&& BitVec.ofInt 64 ((m-1:Nat):Int)).toNat:Nat):Int):=by
  show(_:Int) % _=_
  exact Int.emod_eq_of_lt (by omega) (by show _<(18446744073709551616:Int);omega)
 refine⟨_,?_,Nat.lt_of_le_of_lt h1 (by omega)⟩
 show(some (AV.int .u64 (IntKind.u64.wrap (((BitVec.ofInt 64 a &&& BitVec.ofInt 64 ((m-1:Nat):Int)).toNat:Nat):Int)))).map ofAV=_
 rw [h2];rfl
set_option maxHeartbeats 1600000 in
theorem zNT (hs:σ.obj s=some L) (hsl:s<σ.next) (hn:n=L.length) (hL:L.length≤900) (hc:CellR L) (hb:b≤n) (h12:12<b-a) (h50:b-a<50) (hk:∀L',L'.Perm L→K (.tup []) (σ.set s L')):
  zA Tryz.prog 246 [.sl s 0 n cap,.int .i64 a,.int .i64 b,cmpV] σ K:=by
 subst hn;refine zA.gh ?_;have w1:IntKind.i64.wrap ((b:Int)-(a:Int))=((b-a:Nat):Int):=by rw [wrap64 (by omega) (by omega)];omega
 obtain⟨l,hl⟩:∃l,l=b-a:=⟨_,rfl⟩
 rw [←hl]at w1 h12 h50
 obtain⟨q,hq⟩:∃q,q=l / 4:=⟨_,rfl⟩
 obtain⟨c,hcq⟩:∃c,c=a+q*2:=⟨_,rfl⟩
 have w2:IntKind.i64.wrap ((l:Int).tdiv 4)=(q:Int):=by
  have e:((l:Int)).tdiv 4=(q:Int):=by rw [Int.tdiv_eq_ediv_of_nonneg (by omega)];omega
  rw [e,wrap64 (by omega) (by omega)]
 have w3:IntKind.i64.wrap ((q:Int)*2)=((q*2:Nat):Int):=by rw [wrap64 (by omega) (by omega)];omega
 have w4:IntKind.i64.wrap ((a:Int)+((q*2:Nat):Int))=(c:Int):=by rw [wrap64 (by omega) (by omega)];omega
 have w5:IntKind.i64.wrap ((c:Int)-1)=((c-1:Nat):Int):=by rw [wrap64 (by omega) (by omega)];omega
 have w6:IntKind.i64.wrap ((c:Int)+1)=((c+1:Nat):Int):=by rw [wrap64 (by omega) (by omega)];omega
 have w7:IntKind.u64.wrap (l:Int)=(l:Int):=by show(l:Int) % 18446744073709551616=_;omega
 have g8:(8:Int)≤(l:Int):=by omega
 refine zB mix Tryz.func246 ?_;simp only [pwA,seval,-iQ0,w1,w2,w3,w4,w5,w7,g8];refine zQS (by omega) (by omega) fun m hm1 hm2=>?_
 have wm:IntKind.u64.wrap ((m:Int)-1)=((m-1:Nat):Int):=by show((m:Int)-1) % 18446744073709551616=_;omega
 simp only [pwA,seval,-iQ0,w1,w2,w3,w4,w5,w7,g8];refine zD (fun k vs h'=>∃(i:Nat) (r:Int) (L':List PV),L'.Perm L∧c≤i+1∧i≤c+2∧k=c+2-i∧vs=[.sl s 0 L.length cap,.int .i64 a,.int .i64 l,.ptr σ.next 0,.int .u64 m,.int .i64 i]∧h'=(σ.set s L').new [.int .u64 r]) 3 ?_ ?_
 ·exact⟨c-1,l,L,.refl _,by omega,by omega,by omega,rfl,by rw [QG hs]⟩
 rintro k vs h' ⟨i,r,L1,hp1,hi1,hi2,rfl,rfl,rfl⟩
 have hl1:=hp1.length_eq
 by_cases hij:i≤c+1
 rotate_left
 ·simp only [pwA,seval,-iQ0,w2,w3,w4,w6,hij]
  exact Gh.finB hsl (zC _ _) ((hc.perm hp1).bels 0) (by trivial) (hk _ hp1)
 have wi:IntKind.i64.wrap ((i:Int)+1)=((i+1:Nat):Int):=wrapS (show i<1000 by omega) (by omega)
 simp only [pwA,seval,-iQ0,w2,w3,w4,w6,hij];refine zQ8 (k:=r) (by rw [zH];exact if_pos rfl) fun r2=>?_
 obtain⟨o,eo,ho⟩:=zKP (a:=r2) hm1 (show m≤1000 by omega)
 have wo:IntKind.i64.wrap (o:Int)=(o:Int):=wrap64 (by omega) (by omega)
 have n1:¬s=σ.next:=by omega
 have n2:¬σ.next=s:=by omega
 by_cases hol:l≤o
 ·obtain⟨o2,eo2⟩:∃o2,o2=o-l:=⟨_,rfl⟩
  have wx:IntKind.i64.wrap ((o:Int)-(l:Int))=(o2:Int):=by rw [wrap64 (by omega) (by omega)];omega
  obtain⟨p,ep⟩:∃p,p=a+o2:=⟨_,rfl⟩
  have wp:IntKind.i64.wrap ((a:Int)+(o2:Int))=(p:Int):=by rw [wrap64 (by omega) (by omega)];omega
  obtain⟨u,w,gu,gw,cu,ou,cw,ow,e1,e2,e3,e4,-,-⟩:=qa (hc.perm hp1) (show i<L1.length by omega) (show p<L1.length by omega)
  have hiI:=inb (show i<L.length by omega)
  have hjI:=inb (show p<L.length by omega)
  have hp2:=(ZP (L:=L1) (show i<L1.length by omega) (show p<L1.length by omega)).trans hp1
  simp only [pwA,seval,-iQ0,eo,wm,wo,hol,wx,wp,hiI,hjI,gu,gw,cu,ou,cw,ow,e1,e2,e3,e4,n1,n2,wi];refine⟨_,?_,i+1,r2,_,hp2,?_,?_,rfl,rfl,?_⟩
  ·omega
  ·omega
  ·omega
  ·rfl
 ·have wx:True:=trivial
  obtain⟨p,ep⟩:∃p,p=a+o:=⟨_,rfl⟩
  have wp:IntKind.i64.wrap ((a:Int)+(o:Int))=(p:Int):=by rw [wrap64 (by omega) (by omega)];omega
  obtain⟨u,w,gu,gw,cu,ou,cw,ow,e1,e2,e3,e4,-,-⟩:=qa (hc.perm hp1) (show i<L1.length by omega) (show p<L1.length by omega)
  have hiI:=inb (show i<L.length by omega)
  have hjI:=inb (show p<L.length by omega)
  have hp2:=(ZP (L:=L1) (show i<L1.length by omega) (show p<L1.length by omega)).trans hp1
  simp only [pwA,seval,-iQ0,eo,wm,wo,hol,wx,wp,hiI,hjI,gu,gw,cu,ou,cw,ow,e1,e2,e3,e4,n1,n2,wi];refine⟨_,?_,i+1,r2,_,hp2,?_,?_,rfl,rfl,?_⟩
  ·omega
  ·omega
  ·omega
  ·rfl
end Go.Proofs
namespace Go.Grp
end Go.Grp
namespace Go.Proofs
open Go.Ab Go.Lie Go.Grp
theorem optWp {wp:Bool} {A B:PV} {F:PV→Prop} (h1:wp=true→F A) (h0:wp=false→F B):optK (if wp=true then some A else some B) F:=by
 cases wp
 ·exact⟨B,rfl,h0 rfl⟩
 ·exact⟨A,rfl,h1 rfl⟩
set_option maxHeartbeats 12800000 in
theorem zRa:∀(N:Nat) {σ:PHeap} {K:PV→PHeap→Prop} {L:List PV} {s n a b:Nat} {lim:Int} {cap:Cap} (hs:σ.obj s=some L) (hsl:s<σ.next) (hn:n=L.length) (hL:L.length≤900) (hc:CellR L) (hab:a≤b) (hb:b≤n) (h50:b-a<50) (hN:b-a<N)
    (hk:∀L',L'.Perm L→K (.tup []) (σ.set s L')),zA Tryz.prog 242 [.sl s 0 n cap,.int .i64 a,.int .i64 b,.int .i64 lim,cmpV] σ K:=by
  intro N
  induction N with
  | zero=>intros;omega
  | succ N ih=>
  intro σ K L s n a b lim cap hs hsl hn hL hc hab hb h50 hN hk;subst hn;have hcm:=zBO;refine QA mix Tryz.func242 ?_;simp only [pwA,seval,-iQ0];refine zD (fun m vs h'=>∃(a' b':Nat) (lim:Int) (wb wp:Bool) (L':List PV),L'.Perm L∧a'≤b'∧b'≤b∧b'-a'≤b-a∧m=b'-a'∧vs=[.sl s 0 L.length cap,.int .i64 a',.int .i64 b',.int .i64 lim,cmpV,.bool wb,.bool wp]∧h'=σ.set s L') (b-a) ?_ ?_
  · exact⟨a,b,lim,true,true,L,.refl _,hab,by omega,by omega,rfl,rfl,by rw [QG hs]⟩
  clear lim
  rintro m vs h' ⟨a1,b1,lim,wb,wp,L1,hp1,h1,h2,h3,rfl,rfl,rfl⟩
  have hl1:=hp1.length_eq;have hc1:=hc.perm hp1;have o1:∀L2,(σ.set s L2).obj s=some L2:=fun L2=>zBi s L2
  obtain⟨l,hl⟩:∃l,l=b1-a1:=⟨_,rfl⟩
  have w1:IntKind.i64.wrap ((b1:Int)-(a1:Int))=(l:Int):=by rw [wrap64 (by omega) (by omega)];omega
  by_cases hl12:l≤12
  · have g1:(l:Int)≤12:=by omega
    simp only [pwA,seval,-iQ0,w1,g1];refine zLI (o1 L1) hl1.symm (by omega) hc1 (by omega) (by omega) fun L2 hp2=>?_
    simp only [pwA,seval,-iQ0,qz];exact hk _ (hp2.trans hp1)
  have g1:¬(l:Int)≤12:=by omega
  by_cases hlim:lim=0
  · simp only [pwA,seval,-iQ0,w1,g1,hlim]
    refine zJk (o1 L1) hl1.symm (by omega) hc1 (by omega) (by omega) fun L2 hp2=>?_
    simp only [pwA,seval,-iQ0,qz];exact hk _ (hp2.trans hp1)
  obtain⟨t8,ht8⟩:∃t8,t8=IntKind.i64.wrap ((l:Int).tdiv 8):=⟨_,rfl⟩
  cases wb
  case' false=>
    simp only [pwA,seval,-iQ0,w1,g1,hlim];refine zNT (o1 L1) hsl hl1.symm (by omega) hc1 (by omega) (by omega) (by omega) fun L2 hp2=>?_
    have hp2:=hp2.trans hp1;rw [qz];simp only [pwA,seval,-iQ0]
  case' true=>
    simp only [pwA,seval,-iQ0,w1,g1,hlim];obtain⟨L2,hp2,e2⟩:∃L2:List PV,L2.Perm L∧L2=L1:=⟨L1,hp1,rfl⟩
    rw [←e2]
  all_goals
    have hl2:=hp2.length_eq;have hc2:=hc.perm hp2;refine zNQ (o1 L2) hsl hl2.symm (by omega) hc2 (by omega) (by omega) (by omega) fun pv r hpv1 hpv2=>?_
    by_cases hr:r=2
    case' pos=>
      have wq1:IntKind.i64.wrap ((b1:Int)-1)=((b1-1:Nat):Int):=by rw [wrap64 (by omega) (by omega)];omega
      have wq2:IntKind.i64.wrap ((pv:Int)-(a1:Int))=((pv-a1:Nat):Int):=by rw [wrap64 (by omega) (by omega)];omega
      have wq3:IntKind.i64.wrap (((b1-1:Nat):Int)-((pv-a1:Nat):Int))=((b1-1-(pv-a1):Nat):Int):=by rw [wrap64 (by omega) (by omega)];omega
      simp only [pwA,seval,-iQ0,hr];refine zI1 (o1 L2) hl2.symm (by omega) hc2 (by omega) (by omega) fun L3 hp3=>?_
      have hp3:=hp3.trans hp2;rw [qz];obtain⟨p2,ep2⟩:∃p2,p2=b1-1-(pv-a1):=⟨_,rfl⟩
      rw [←ep2]at wq3
      simp only [pwA,seval,-iQ0,wq1,wq2,wq3];have hpp:a1≤p2∧p2<b1:=by omega
    case' neg=>
      simp only [pwA,seval,-iQ0,hr];obtain⟨L3,hp3,e3⟩:∃L3:List PV,L3.Perm L∧L3=L2:=⟨L2,hp2,rfl⟩
      rw [←e3];obtain⟨p2,ep2⟩:∃p2,p2=pv:=⟨_,rfl⟩
      rw [←ep2];have hpp:a1≤p2∧p2<b1:=by omega
    all_goals
      have hl3:=hp3.length_eq;have hc3:=hc.perm hp3
      try
        refine optWp (wp:=wp) (fun hw=>?_) (fun hw=>?_)
        rotate_left
        focus simp only [pwA,seval,-iQ0,hw]
        rotate_left
        focus
          first
          | (simp only [pwA,seval,-iQ0,hw]
             refine zFS (o1 L3) hl3.symm (by omega) hc3 (by omega) (by omega) (by omega) fun q=>?_
             cases q
             case' true=>(simp only [pwA,seval,-iQ0];exact hk _ hp3)
             case' false=>simp only [pwA,seval,-iQ0])
          | (by_cases hr1:r=1
             case' pos=>
               simp only [pwA,seval,-iQ0,hw,hr1];refine zFS (o1 L3) hl3.symm (by omega) hc3 (by omega) (by omega) (by omega) fun q=>?_
               cases q
               case' true=>(simp only [pwA,seval,-iQ0];exact hk _ hp3)
               case' false=>simp only [pwA,seval,-iQ0]
             case' neg=>simp only [pwA,seval,-iQ0,hw,hr1])
      all_goals
        have hjI:=inb (show p2<L.length by omega)
        by_cases h0:(0:Int)<(a1:Int)
        case' pos=>
          obtain⟨u,w,gu,gw,-,-,-,-,-,-,-,-,⟨xu,fu,lu⟩,⟨xw,fw,lw'⟩⟩:=qa hc3 (show a1-1<L3.length by omega) (show p2<L3.length by omega)
          have wa:IntKind.i64.wrap ((a1:Int)-1)=((a1-1:Nat):Int):=by rw [wrap64 (by omega) (by omega)];omega
          have hiI:=inb (show a1-1<L.length by omega)
          simp only [pwA,seval,-iQ0,h0,wa,hiI,hjI,gu,gw,hcm];refine Zh fu fw lu lw' fun c=>?_
          simp only [pwA,seval,-iQ0,h0,wa,hiI,hjI,gu,gw,hcm];refine iteI (fun hcc=>?_) fun hcc=>?_
          rotate_left
          · refine zMR (o1 L3) hl3.symm (by omega) hc3 ⟨hpp.1,hpp.2⟩ (by omega) fun L4 i hp4 hi1 hi2=>?_
            simp only [pwA,seval,-iQ0,qz];exact⟨_,by omega,i,b1,_,_,_,L4,hp4.trans hp3,hi2,h2,by omega,rfl,rfl,rfl⟩
        case' neg=>simp only [pwA,seval,-iQ0,h0]
        all_goals
          refine zQH (o1 L3) hl3.symm (by omega) hc3 ⟨hpp.1,hpp.2⟩ (by omega) fun L4 mid t hp4 hm1 hm2=>?_
          have hp4:=hp4.trans hp3;have hl4:=hp4.length_eq;have hc4:=hc.perm hp4;have wm1:IntKind.i64.wrap ((mid:Int)-(a1:Int))=((mid-a1:Nat):Int):=by rw [wrap64 (by omega) (by omega)];omega
          have wm2:IntKind.i64.wrap ((b1:Int)-(mid:Int))=((b1-mid:Nat):Int):=by rw [wrap64 (by omega) (by omega)];omega
          have wm3:IntKind.i64.wrap ((mid:Int)+1)=((mid+1:Nat):Int):=wrapS (show mid<1000 by omega) (by omega)
          simp only [pwA,seval,-iQ0,qz,wm1,wm2,wm3];refine iteI (fun hlr=>?_) fun hlr=>?_
          · refine ih (o1 L4) hsl hl4.symm (by omega) hc4 (by omega) (by omega) (by omega) (by omega) fun L5 hp5=>?_
            simp only [pwA,seval,-iQ0,qz,wm3];exact⟨_,by omega,mid+1,b1,_,_,_,L5,hp5.trans hp4,by omega,h2,by omega,rfl,rfl,rfl⟩
          · refine ih (o1 L4) hsl hl4.symm (by omega) hc4 (by omega) (by omega) (by omega) (by omega) fun L5 hp5=>?_
            simp only [pwA,seval,-iQ0,qz,wm3];exact⟨_,by omega,a1,mid,_,_,_,L5,hp5.trans hp4,by omega,by omega,by omega,rfl,rfl,rfl⟩
variable {σ:PHeap} {K:PV→PHeap→Prop} {L:List PV} {s n:Nat} {cap:Cap}
theorem zPX (hs:σ.obj s=some L) (hsl:s<σ.next) (hn:n=L.length) (hL:L.length<50) (hc:CellR L) (hk:∀L',L'.Perm L→K (.tup []) (σ.set s L')):
  zA Tryz.prog 231 [.sl s 0 n cap,cmpV] σ K:=by
 have w0:IntKind.u64.wrap (n:Int)=(n:Int):=by show(n:Int) % 18446744073709551616=_;omega
 refine zB mix Tryz.func231 ?_;simp only [pwA,seval,-iQ0,w0];refine zNg (by omega) fun l _ _ _=>?_
 simp only [pwA,seval,-iQ0];refine zRa (n+1) (a:=0) (b:=n) hs hsl hn (by omega) hc (by omega) (Nat.le_refl _) (by omega) (by omega) fun L' hp=>?_
 simp only [pwA,seval,-iQ0];exact hk L' hp
end Go.Proofs
namespace Go.Grp
end Go.Grp
namespace Go.Proofs
open Go.Ab Go.Lie Go.Grp
variable {σ h h':PHeap} {K:PV→PHeap→Prop} {O:List Int} {P:List (List Int)} {C:List (List (List Int))} {vO vP vC vx vy vL v c x:PV} {xs:List (List Int)} {b m t:Nat} {cs ds:List PV}
theorem _root_.Go.Ab.Keep.keepOf2 {σ T h:PHeap} {rr:List PV} (k:Keep (T.new rr) h) (kp:Keep σ T):Keep σ h:=(kp.new rr).trans k
def PT (b:Nat) (h:PHeap) (v:PV) (m:Nat) (cs:List PV):Prop:=
 (v=.fz true .nils 0 []∧m=0∧cs=[])∨∃s off cap row,v=.sl s off m cap∧(cap=.grown 1∨∃c,cap=.known c∧m≤c∧off+c≤row.length)∧h.obj s=some row∧(row.drop off).take m=cs∧off+m≤row.length∧b≤s∧s<h.next
theorem PT.len (a:PT b h v m cs):cs.length=m:=by
 rcases a with ⟨_,rfl,rfl⟩|⟨s,off,cap,row,rfl,h1,h2,h3,h4,h5,h6⟩
 ·rfl
 ·rw [←h3,List.length_take,List.length_drop];omega
theorem PT.of (a:PSl b 1 h v m cs):PT b h v m cs:=by
 obtain⟨s,cap,rfl,h1,h2,h3,h4,h5⟩:=a;refine .inr ⟨s,0,cap,cs,rfl,?_,h2,by rw [List.drop_zero,List.take_of_length_le (by omega)],by omega,h4,h5⟩
 rcases h1 with rfl|rfl
 ·exact .inl rfl
 ·exact .inr ⟨m,rfl,Nat.le_refl _,by omega⟩
theorem PT.set (a:PT b h v m cs) (ht:t<b) (ds:List PV):PT b (h.set t ds) v m cs:=by
 rcases a with a|⟨s,off,cap,row,rfl,h1,h2,h3,h4,h5,h6⟩
 ·exact .inl a
 ·exact .inr ⟨s,off,cap,row,rfl,h1,by rw [zn,if_neg (by omega)];exact h2,h3,h4,h5,h6⟩
theorem PT.pLen (a:PT b h v m cs):pLen v=some (.int .i64 m):=by
 rcases a with ⟨rfl,rfl,_⟩|⟨s,off,cap,row,rfl,_⟩<;>rfl
theorem PT.unsnoc (a:PT b h v (m+1) (cs++[c])):∃s off cap v',v=.sl s off (m+1) cap∧h.rd1 s (off+m)=some c∧Qi 1 v none (some (.int .i64 m)) none=some v'∧PT b h v' m cs:=by
 have hl:=a.len;rcases a with ⟨_,e,_⟩|⟨s,off,cap,row,rfl,h1,h2,h3,h4,h5,h6⟩
 ·cases e
 have hlen:cs.length=m:=by simpa using hl
 have e4:row[off+m]? = some c:=by
  have e:((row.drop off).take (m+1))[m]? = some c:=by
   rw [h3,List.getElem?_append_right (by omega),hlen,Nat.sub_self];rfl
  rw [List.getElem?_take_of_lt (by omega),List.getElem?_drop]at e
  exact e
 have e3:(row.drop off).take m=cs:=by
  have e:((row.drop off).take (m+1)).take m=cs:=by rw [h3,List.take_append_of_le_length (by omega),List.take_of_length_le (by omega)]
  rw [List.take_take,Nat.min_eq_left (by omega)]at e
  exact e
 have hz:(m:Int)≤((m+1:Nat):Int):=by omega
 rcases h1 with rfl|⟨k,rfl,hk1,hk2⟩
 ·refine⟨s,off,_,.sl s off m (.grown 1),rfl,by rw [zF h2];exact e4,?_,.inr ⟨s,off,_,row,rfl,.inl rfl,h2,e3,by omega,h5,h6⟩⟩
  simp only [pwA,seval,-iQ0,hz]
  rfl
 ·have hmk:(m:Int)≤(k:Int):=by omega
  refine⟨s,off,_,.sl s off m (.known k),rfl,by rw [zF h2];exact e4,?_,.inr ⟨s,off,_,row,rfl,.inr ⟨k,rfl,by omega,hk2⟩,h2,e3,by omega,h5,h6⟩⟩
  simp only [pwA,seval,-iQ0,hz,hmk];rw [if_pos (show m≤k by omega)]
  simp
theorem PT.push {σb:PHeap} {bytes:Nat} {K:PV×PHeap→Prop} (hx1:x.one=true) (hk:Keep σb h) (a:PT σb.next h v m cs)
  (h1:(m+1)*bytes≤140737488355328) (h2:m+1≤4611686018427387904) (k:∀v' h',Keep σb h'→PT σb.next h' v' (m+1) (cs++[x])→K (v',h')):optK (qo 1 bytes (h.new [x]) v (.sl h.next 0 1 (.known 1))) K:=by
 have hl:=a.len;rcases a with ⟨rfl,rfl,rfl⟩|⟨s,off,cap,row,rfl,q1,q2,q3,q4,q5,q6⟩
 ·exact PAcc.push hk (PAcc.nil _ _ _) h1 h2 fun v' h' k1 k2=>k v' h' k1 (.of k2)
 rw [Zw];have hp:Zv 1 (h.new [x]) (.sl h.next 0 1 (.known 1)) 1=some [x]:=by simp [QE,Q4]
 have hobj:(h.new [x]).obj s=some row:=by simp only [PHeap.new];rw [if_neg (by omega)];exact q2
 have hn:=hk.next;simp only [plen,Option.bind_some];rw [if_neg (by omega),hp]
 simp only [Option.bind_some];rcases q1 with rfl|⟨c,rfl,c1,c2⟩
 ·rw [Qj,if_pos ⟨h1,h2,rfl⟩,hobj]
  simp only [Option.bind_some];rw [if_pos (by omega),Nat.mul_one,q3]
  refine Zb rfl (k _ _ (((hk.new _).kill (by omega)).new _) (.inr ⟨(h.new [x]).next,0,_,cs++[x],rfl,.inl rfl,by simp [PHeap.new,PHeap.kill],?_,by simp [hl],by simp [PHeap.new];omega,by simp [PHeap.new,PHeap.kill]⟩))
  rw [List.drop_zero,List.take_of_length_le (by simp [hl])]
 ·rw [zAc]
  by_cases hc:m+1≤c
  ·rw [if_pos hc,Nat.mul_one,Zr hobj,if_pos ⟨by simp;omega,by simp [hx1]⟩]
   simp only [Option.map_some,List.length_singleton];refine Zb rfl (k _ _ ((hk.new _).set q5 _) (.inr ⟨s,off,_,_,rfl,.inr ⟨c,rfl,hc,?_⟩,by rw [zn,if_pos rfl],?_,?_,q5,Nat.lt_succ_of_lt q6⟩))
   ·simp;omega
   ·have e1:(row.take (off+m)).length=off+m:=by simp;omega
    rw [List.append_assoc,List.drop_append_of_le_length (by omega),List.take_append,show((row.take (off+m)).drop off).length=m by simp;omega]
    have e2:(row.take (off+m)).drop off=cs:=by
     rw [←q3,List.drop_take];congr 1;omega
    rw [e2,List.take_of_length_le (by omega),show m+1-m=1 by omega]
    simp
   ·simp;omega
  ·rw [if_neg hc,if_pos ⟨h1,h2⟩,ZB hobj,if_pos (by omega),Nat.mul_one,q3]
   simp only [Option.map_some];refine Zb rfl (k _ _ ((hk.new _).new _) (.inr ⟨(h.new [x]).next,0,_,cs++[x],rfl,.inl rfl,by simp [PHeap.new],?_,by simp [hl],by simp [PHeap.new];omega,by simp [PHeap.new]⟩))
   rw [List.drop_zero,List.take_of_length_le (by simp [hl])]
theorem zGj (hL:FII vL xs) (sz:SzL xs) (hk:∀v h' rows,Keep σ h'→PSl σ.next 1 h' v xs.length rows→All2 FI rows xs→K v h'):zA Tryz.prog 38 [vL] σ K:=by
 have hb:=sz.l;obtain⟨wl,al,rl,rfl,hrl⟩:=hL;refine zB mix Tryz.func38 ?_;simp only [pwA,seval,-iQ0];refine zD (fun m vs h'=>∃i v rows,i≤xs.length∧m=xs.length-i∧vs=[.fz wl al xs.length rl,v,.int .i64 (i:Nat)]∧Keep σ h'∧PSl σ.next 1 h' v i rows∧All2 FI rows (xs.take i)) xs.length ?_ ?_
 ·exact⟨0,_,[],by omega,by omega,rfl,zC σ _,PSl.new σ.next 1 rfl (Nat.le_refl _),by simpa using All2.nil _⟩
 ·rintro m vs h' ⟨i,v,rows,hi,rfl,rfl,hkp,ha,hall⟩
  simp only [pwA,seval,-iQ0];refine iteI (fun hlt=>?_) fun hge=>?_
  ·obtain⟨w4,a4,hrk⟩:=hrl.rowI hlt
   simp only [pwA,seval,-iQ0,hlt,hrk];refine zA.fz (e:=1) (fun K'=>Zx rfl (by have:=sz.r _ (List.getElem_mem hlt);omega)) (zo _ _) fun o cap=>?_
   simp only [pwA,seval,-iQ0];refine PSl.push (bytes:=24) (σb:=σ) hkp ha (by omega) (by omega) fun v2 h2 k2 a2=>?_
   simp only [pwA,seval,-iQ0,wrapS hlt (by omega:xs.length≤4611686018427387904)]
   refine⟨_,by omega,i+1,v2,_,by omega,rfl,rfl,k2,a2,?_⟩
   rw [List.take_succ_eq_append_getElem hlt];exact hall.snoc ⟨_,_,rfl⟩
  ·have hie:i=xs.length:=by omega
   subst hie;rw [List.take_length]at hall
   exact hk _ _ rows hkp ha hall
theorem zMt (hL:FII vL xs) (sz:SzL xs) (hk:∀v h' rows,Keep σ h'→PT σ.next h' v xs.length rows→All2 FI rows xs→K v h'):zA Tryz.prog 38 [vL] σ K:=zGj hL sz fun v h' rows k a r=>hk v h' rows k (.of a) r
theorem zCa {x:List Int} {vx:PV} (g:LG O P C) (hR:IsPr vO vP vC O P C) (hx:gS O x) (hvx:FI vx x) {k:Int} (hk0:-1000≤k∧k<0) (hk:∀v,FI v (Grp.pw (gm O P C) (zv O) (ginv (gS O) (gm O P C) (zv O) x) (-k).toNat)→K v σ):
  zA Tryz.prog 115 [.agg [vO,vP,vC],vx,.int .i64 k] σ K:=by
 have h0:=hR.O.one;have h1:=hR.P.one;have h2:=hR.C.one;have M:=g.F.g.toMon;have hk1:k<0:=hk0.2;have hkw:IntKind.i64.wrap (0-k)=-k:=by rw [wrap64 (by omega) (by omega)];omega
 refine zA.gh ?_;refine zB mix Tryz.func115 ?_;simp only [pwA,seval,-iQ0,h0,h1,h2,hk1];refine zDL g.s g.co hR hx hvx fun v hv=>?_
 simp only [pwA,seval,-iQ0,h0,h1,h2,hkw];refine zBR g.s (d:=O.length) (i:=0) (by omega) (zAW g.s (by omega)) M hR (g.F.g.inv_in hx).1 hv (by omega) fun v hv=>?_
 simp only [pwA,seval,-iQ0];exact Gh.fin0 (zC σ _) (hv.bel _) (hk v hv)
end Go.Proofs
namespace Go.Proofs
open Go.Ab Go.Lie
variable {σ σ0 σ1:PHeap} {K:PV→PHeap→Prop} {vC:PV} {bs:List Int} {s:Nat} {a sd:Int}
def FB (v:PV) (bs:List Int):Prop:=∃w a,v=.fz w a bs.length (bs.map (.int .u8))
theorem FB.one {v:PV} (h:FB v bs):v.one=true:=by obtain⟨w,a,rfl⟩:=h;rfl
theorem zLm (σ:PHeap) (x y:List PV):(σ.new x).set σ.next y=σ.new y:=by
 simp only [PHeap.new,PHeap.set]
 congr 1
 funext t
 split<;>rfl
end Go.Proofs
namespace Go.Proofs
open Go.Ab Go.Lie
variable {σ σ0 h h':PHeap} {K:PV→PHeap→Prop} {vC:PV} {bs:List Int} {s b n:Nat} {p:Int} {RP R:PV→List Int→Prop} {sP sB:Nat} {capP capB:Cap} {cs:List PV} {W:List (List Int)} {B:List (List (List Int))}
theorem zFD {h:PHeap} {t i:Nat} {cs:List PV} {v:PV} (ho:h.obj t=some cs) (hi:i<cs.length) (hv:v.one=true):h.wr t i [v]=some (h.set t (cs.set i v)):=by
 rw [Zr ho,if_pos ⟨by simp;omega,by simp [hv]⟩]
 congr 2
 rw [List.append_assoc];exact take_set cs hi v
end Go.Proofs
namespace Go.Proofs
open Go.Ab Go.Lie
variable {σ σ0 h h':PHeap} {K:PV→PHeap→Prop} {vC:PV} {bs:List Int} {s b n r0:Nat} {p:Int} {sP sB:Nat} {capP capB:Cap} {cs:List PV} {W:List (List Int)} {B:List (List (List Int))} {R:PV→List Int→Prop} {F F':List (List Int)→List (List (List Int))→Prop}
variable {E:Nat→List Int→Prop}
theorem ownFI {v:PV} {xs:List Int} (hv:FI v xs) (hb:xs.length≤4294967296) (hk:∀v',FI v' xs→K v' σ):zA Tryz.prog 89 [v] σ K:=by
 obtain⟨w,a,rfl⟩:=hv;exact zDM rfl hb fun v=>hk _ ⟨_,_,rfl⟩
end Go.Proofs
namespace Go.Grp
end Go.Grp
namespace Go.Proofs
open Go.Ab Go.Lie Go.Grp
variable {σ:PHeap} {K:PV→PHeap→Prop} {O:List Int} {P:List (List Int)} {C:List (List (List Int))} {vO vP vC vx vy vB:PV} {x y:List Int} {p:Int} {n:Nat} {W:List (List Int)} {B:List (List (List Int))} {sp s:Nat}
theorem zM6:isExp O x↔gS O x:=by
 constructor
 ·rintro ⟨h1,h2⟩
  exact⟨h1,fun j hj=>by have:=h2 j (by omega);omega,fun j hj=>by omega⟩
 ·intro h
  exact⟨h.len,fun j hj=>by have:=h.bd j (by rw [←h.len];exact hj);omega⟩
theorem zIM (hR:IsPr vO vP vC O P C) (szO:O.length≤1048576) (bO:∀o∈O,isP o) (hy:FI vy y) (hb:y.length≤1048576) (hk:∀t:Bool,(t=true↔isExp O y)→K (.bool t) σ):zA Tryz.prog 62 [.agg [vO,vP,vC],vy] σ K:=by
 have h0:=hR.O.one;have h1:=hR.P.one;have h2:=hR.C.one;refine zA.gh ?_;refine zB mix Tryz.func62 ?_;simp only [pwA,seval,-iQ0,h0,h1,h2];refine zAE (t:=0) (by omega) (Nat.zero_le _) hR.O szO bO hy hb fun t ht=>?_
 simp only [pwA,seval,-iQ0];exact Gh.fin0 (zC σ _) trivial (hk _ (ht.trans ⟨fun h=>h.1,fun h=>⟨h,fun x hx=>by simp at hx⟩⟩))
end Go.Proofs
namespace Go.Grp
end Go.Grp
namespace Go.Proofs
open Go.Ab Go.Lie Go.Grp
variable {σ h h':PHeap} {K:PV→PHeap→Prop} {O x y:List Int} {P:List (List Int)} {C:List (List (List Int))} {vO vP vC vx vL:PV} {L:List (List Int)} {D R:List (Option (List Int))} {rb rr:List PV} {d n sT:Nat}
def DRf (n:Nat) (c:PV) (r:Option (List Int)):Prop:=(c=.fz true .nils 0 []∧r=none)∨∃w a y,c=.fz w a n (pis y)∧y.length=n∧r=some y
theorem DRf.bel {c:PV} {r:Option (List Int)} (h:DRf n c r):Bel 0 c:=by
 rcases h with ⟨rfl,_⟩|⟨w,a,y,rfl,_⟩
 ·trivial
 ·rename_i e2;obtain⟨hl,_⟩:=e2;subst hl;exact FI.bel ⟨w,a,rfl⟩ 0
theorem DRf.bels (h:All2 (DRf n) rb D) (m:Nat):Bels m rb:=by
 refine zBc.2 fun c hc=>?_
 obtain⟨k,hk,rfl⟩:=List.mem_iff_getElem.1 hc;exact(DRf.bel (h.2 k _ _ (List.getElem?_eq_getElem hk) (List.getElem?_eq_getElem (by rw [←h.1];exact hk)))).up (Nat.zero_le _)
theorem DRf.get (h:All2 (DRf n) rb D) {d:Nat} (hd:d<D.length):(rb[d]? = some (.fz true .nils 0 [])∧D[d]? = some none)∨∃w a y,rb[d]? = some (.fz w a n (pis y))∧y.length=n∧D[d]? = some (some y):=by
 have hb:d<rb.length:=by rw [h.1];exact hd
 rw [List.getElem?_eq_getElem hb,List.getElem?_eq_getElem hd];rcases h.2 d _ _ (List.getElem?_eq_getElem hb) (List.getElem?_eq_getElem hd)with ⟨e1,e2⟩|⟨w,a,y,e1,e3,e2⟩
 ·exact .inl ⟨by rw [e1],by rw [e2]⟩
 ·exact .inr ⟨w,a,y,by rw [e1],e3,by rw [e2]⟩
theorem DRf.put (h:All2 (DRf n) rb D) {v:PV} (hv:FI v y) (hy:y.length=n):All2 (DRf n) (rb.set d v) (D.set d (some y)):=by
 obtain⟨w,a,rfl⟩:=hv;refine⟨by rw [List.length_set,List.length_set];exact h.1,fun k c r hc hr=>?_⟩
 rw [List.getElem?_set]at hc hr
 by_cases e:d=k
 ·rw [if_pos e]at hc hr
  split at hc
  ·split at hr
   ·cases hc;cases hr;exact .inr ⟨w,a,y,by rw [hy],hy,rfl⟩
   ·cases hr
  ·cases hc
 ·rw [if_neg e]at hc hr
  exact h.2 k c r hc hr
theorem DRf.start (n m:Nat):All2 (DRf n) (List.replicate m (.fz true .nils 0 [])) (List.replicate m none):=by
 refine⟨by simp,fun k c r hc hr=>?_⟩
 rw [List.getElem?_replicate]at hc hr
 split at hc
 ·rename_i h
  rw [if_pos h]at hr
  cases hc;cases hr;exact .inl ⟨rfl,rfl⟩
 ·cases hc
theorem zJd (g:LG O P C) (hR:IsPr vO vP vC O P C) (hT:σ.obj sT=some rb) (hTl:sT<σ.next) (hD:OkD O D) (hrb:All2 (DRf O.length) rb D) (hx:gS O x) (hvx:FI vx x)
  (hk:∀v z,FI v z→gS O z→(dep z<O.length→D[dep z]? = some none)→Rdu O P C D x z→K (.tup [.int .i64 (dep z),v]) σ):zA Tryz.prog 114 [.agg [vO,vP,vC],.sl sT 0 O.length (.known O.length),vx] σ K:=by
 have h0:=hR.O.one;have h1:=hR.P.one;have h2:=hR.C.one;have s:=g.s;have F:=g.F;have G:=F.g;have hn6:=s.le;have hxl:=hx.len;refine zA.gh ?_;have hne:¬sT=σ.next:=Nat.ne_of_lt hTl;refine zB mix Tryz.func114 ?_;simp only [pwA,seval,-iQ0,h0,h1,h2];refine ownFI hvx (by omega) fun v0 hv0=>?_
 simp only [pwA,seval,-iQ0];refine zD (fun m vs h'=>∃(d:Nat) (z:List Int) (v:PV),d≤O.length∧m=O.length-d∧vs=[.sl sT 0 O.length (.known O.length),.ptr σ.next 0,v,.int .i64 d]∧σ.new [vO,vP,vC]=h'∧TT O d z∧FI v z∧Rdu O P C D x z) O.length ⟨0,x,v0,by omega,by omega,rfl,rfl,hx,hv0,.refl _⟩ ?_
 rintro m vs h' ⟨d,z,v,hd,rfl,rfl,rfl,hz,hv,hr⟩
 have hzS:gS O z:=hz.mono (Nat.zero_le _);have hzl:=hz.len;simp only [pwA,seval,-iQ0];refine iteI (fun hlt=>?_) fun hge=>?_
 rotate_left
 ·have hde:d=O.length:=by omega
  subst hde;have hz0:z=zv O:=hz.ext (s.zv _) fun j h1 h2=>by omega
  have hdz:dep z=O.length:=by rw [hz0];exact zFC s
  exact Gh.fin0 (zC σ _) ⟨trivial,hv.bel _,trivial⟩ (by rw [←hdz];exact hk v z hv hzS (fun h=>by omega) hr)
 have hlt':d<O.length:=by omega
 have hdz:d<z.length:=by omega
 obtain⟨wz,az,rfl⟩:=hv;have hvz:FI (.fz wz az z.length (pis z)) z:=⟨wz,az,rfl⟩;have w1:IntKind.i64.wrap ((d:Int)+1)=((d+1:Nat):Int):=by rw [wrap64 (by omega) (by omega)];omega
 have bz:=hzS.bd d hlt';have bO:=s.pr d hlt'
 by_cases hz0:at_ z d=0
 ·simp only [pwA,seval,-iQ0,hdz,pisAt hdz,hz0,w1]
  refine⟨_,by omega,d+1,z,_,by omega,rfl,rfl,⟨hz.len,hz.bd,fun j hj=>?_⟩,hvz,hr⟩
  rcases Nat.lt_or_ge j d with h|h
  ·exact hz.zero j h
  ·rw [show j=d by omega];exact hz0
 have hrd:=zF hT d;rcases DRf.get hrb (d:=d) (by rw [hD.len];exact hlt')with ⟨e1,e2⟩|⟨w,a,y,e1,e3,e2⟩
 ·rw [e1]at hrd
  have hdp:dep z=d:=zIh (fun j hj=>hz.zero j hj) hz0
  simp only [pwA,seval,-iQ0,hdz,pisAt hdz,hz0,hlt',hne,hrd];exact Gh.fin0 (zC σ _) ⟨trivial,hvz.bel _,trivial⟩ (by rw [←hdp];exact hk _ z hvz hzS (fun _=>by rw [hdp];exact e2) hr)
 ·rw [e1]at hrd
  obtain⟨y1,y2⟩:=hD.row _ _ e2;have yS:gS O y:=y1.mono (Nat.zero_le _);have hnn:¬((O.length:Int)=0):=by omega
  have hneg:IntKind.i64.wrap (0-at_ z d)=-at_ z d:=by rw [wrap64 (by omega) (by omega)];omega
  simp only [pwA,seval,-iQ0,hdz,pisAt hdz,hz0,hlt',hne,hrd,hnn,h0,h1,h2,hneg];refine zCa g hR yS ⟨w,a,by rw [e3]⟩ (k:=-at_ z d) (by omega) fun v1 f1=>?_
  rw [Int.neg_neg]at f1
  obtain⟨q1,q2,q3,q4⟩:=zCG s F g.cent hlt' hzS y1 y2;have q5:TT O (d+1) (gm O P C z (Grp.pw (gm O P C) (zv O) (ginv (gS O) (gm O P C) (zv O) y) (at_ z d).toNat)):=⟨q1.len,q1.bd,fun j hj=>by
   rcases Nat.lt_or_ge j d with h|h
   ·rw [q3 j h];exact hz.zero j h
   ·rw [show j=d by omega];exact q4⟩
  have hr2:=hr.trans (Rdu.stepR s F g.cent hD e2 hlt' hz hz0 q1 q2 q5);simp only [pwA,seval,-iQ0,h0,h1,h2];refine Zn s hR hzS (G.pw (G.inv_in yS).1 _) hvz f1 fun v2 f2=>?_
  simp only [pwA,seval,-iQ0,w1];exact⟨_,by omega,d+1,_,v2,by omega,rfl,rfl,q5,f2,hr2⟩
structure FullI (O:List Int) (P:List (List Int)) (C:List (List (List Int))) (D R:List (Option (List Int))) (k:Nat):Prop where
 len:R.length=O.length
 dom:∀d,k≤d→d<O.length→((∃y,R[d]? = some (some y))↔∃y,D[d]? = some (some y))
 row:∀(d:Nat) (y:List Int),k≤d→R[d]? = some (some y)→TT O d y∧at_ y d=1
 red:∀(d e:Nat) (y z:List Int),k≤d→k≤e→d≠e→R[d]? = some (some y)→R[e]? = some (some z)→at_ y e=0
 iff:∀N,gB O P C N→((∀(d:Nat) (y:List Int),k≤d→R[d]? = some (some y)→N y)↔∀(d:Nat) (y:List Int),k≤d→D[d]? = some (some y)→N y)
theorem FullI.start (n:Nat) (hn:O.length=n) (hD:D.length=n):FullI O P C D (List.replicate n none) n:=by
 have no:∀{E:List (Option (List Int))} {d y},E.length=n→n≤d→E[d]? = some (some y)→False:=fun hE hd h=>by
  rw [List.getElem?_eq_none (by omega)]at h;cases h
 exact⟨by simp [hn],fun d h1 h2=>by omega,fun d y h1 h2=>(no (by simp) h1 h2).elim,fun d e y z h1 _ _ h2=>(no (by simp) h1 h2).elim,fun N _=>⟨fun _ d y h1 h2=>(no hD h1 h2).elim,fun _ d y h1 h2=>(no (by simp) h1 h2).elim⟩⟩
theorem FullI.skip {k:Nat} (f:FullI O P C D R (k+1)) (hk:k<O.length) (h1:D[k]? = some none) (h2:R[k]? = some none):FullI O P C D R k:=by
 have up:∀{d:Nat} {y:List Int},k≤d→(R[d]? = some (some y)∨D[d]? = some (some y))→k+1≤d:=fun {d y} hd h=>by
  rcases Nat.lt_or_ge k d with e|e
  ·exact e
  ·rw [show d=k by omega,h1,h2]at h
   rcases h with h|h<;>cases h
 refine⟨f.len,fun d a b=>?_,fun d y a b=>f.row d y (up a (.inl b)) b,fun d e y z a b c h h'=>f.red d e y z (up a (.inl h)) (up b (.inl h')) c h h',fun N hN=>?_⟩
 ·constructor
  ·rintro ⟨y,hy⟩;exact(f.dom d (up a (.inl hy)) b).1 ⟨y,hy⟩
  ·rintro ⟨y,hy⟩;exact(f.dom d (up a (.inr hy)) b).2 ⟨y,hy⟩
 ·constructor
  ·intro g d y a b
   exact(f.iff N hN).1 (fun d y a' b'=>g d y (by omega) b') d y (up a (.inr b)) b
  ·intro g d y a b
   exact(f.iff N hN).2 (fun d y a' b'=>g d y (by omega) b') d y (up a (.inl b)) b
theorem FullI.put {k:Nat} {x y:List Int} (f:FullI O P C D R (k+1)) (hk:k<O.length) (h1:D[k]? = some (some y)) (hx:TT O k x) (hx1:at_ x k=1) (hz:∀(e:Nat) (z:List Int),k<e→R[e]? = some (some z)→at_ x e=0)
  (hN:∀N,gB O P C N→(∀(d:Nat) (y:List Int),k+1≤d→R[d]? = some (some y)→N y)→(N y↔N x)):FullI O P C D (R.set k (some x)) k:=by
 have hl:k<R.length:=by rw [f.len];exact hk
 have ge:∀{d:Nat} {w:List Int},(R.set k (some x))[d]? = some (some w)→(d=k∧w=x)∨(d≠k∧R[d]? = some (some w)):=fun {d w} h=>by
  rw [List.getElem?_set]at h
  split at h
  ·rename_i e
   cases h;exact .inl ⟨e.symm,rfl⟩
  ·rename_i e;exact .inr ⟨fun h=>e h.symm,h⟩
 have at_k:(R.set k (some x))[k]? = some (some x):=by rw [List.getElem?_set,if_pos rfl,if_pos hl]
 have at_n:∀{d:Nat} {w:List Int},d≠k→R[d]? = some (some w)→(R.set k (some x))[d]? = some (some w):=fun {d w} h e=>by rw [List.getElem?_set,if_neg (fun h'=>h h'.symm)];exact e
 refine⟨by rw [List.length_set];exact f.len,fun d a b=>?_,fun d w a b=>?_,fun d e w z a b c h h'=>?_,fun N hN'=>?_⟩
 ·by_cases e:d=k
  ·subst e;exact⟨fun _=>⟨y,h1⟩,fun _=>⟨x,at_k⟩⟩
  ·constructor
   ·rintro ⟨w,hw⟩
    rcases ge hw with ⟨e',_⟩|⟨_,hw⟩
    ·exact absurd e' e
    ·exact(f.dom d (by omega) b).1 ⟨w,hw⟩
   ·rintro ⟨w,hw⟩
    obtain⟨z,hz'⟩:=(f.dom d (by omega) b).2 ⟨w,hw⟩
    exact⟨z,at_n e hz'⟩
 ·rcases ge b with ⟨rfl,rfl⟩ | ⟨e,hw⟩
  ·exact⟨hx,hx1⟩
  ·exact f.row d w (by omega) hw
 ·rcases ge h with ⟨e1,e2⟩ | ⟨e1,hw⟩
  ·rcases ge h' with ⟨e3,_⟩ | ⟨e3,hz'⟩
   ·omega
   ·rw [e2];exact hz e z (by omega) hz'
  ·rcases ge h' with ⟨e3,e4⟩ | ⟨e3,hz'⟩
   ·have:=(f.row d w (by omega) hw).1.zero
    rw [e3];exact this k (by omega)
   ·exact f.red d e w z (by omega) (by omega) c hw hz'
 ·have key:((∀(d:Nat) (w:List Int),k≤d→(R.set k (some x))[d]? = some (some w)→N w)↔(N x∧∀(d:Nat) (w:List Int),k+1≤d→R[d]? = some (some w)→N w)):=by
   constructor
   ·intro h
    exact⟨h k x (Nat.le_refl _) at_k,fun d w a b=>h d w (by omega) (at_n (by omega) b)⟩
   ·rintro ⟨h2,h3⟩ d w a b
    rcases ge b with ⟨_,rfl⟩|⟨e,hw⟩
    ·exact h2
    ·exact h3 d w (by omega) hw
  have key2:((∀(d:Nat) (w:List Int),k≤d→D[d]? = some (some w)→N w)↔(N y∧∀(d:Nat) (w:List Int),k+1≤d→D[d]? = some (some w)→N w)):=by
   constructor
   ·intro h
    exact⟨h k y (Nat.le_refl _) h1,fun d w a b=>h d w (by omega) b⟩
   ·rintro ⟨h2,h3⟩ d w a b
    by_cases e:d=k
    ·subst e;rw [h1]at b;cases b;exact h2
    ·exact h3 d w (by omega) b
  rw [key,key2,←f.iff N hN'];constructor
  ·rintro ⟨a,b⟩;exact⟨(hN N hN' b).2 a,b⟩
  ·rintro ⟨a,b⟩;exact⟨(hN N hN' b).1 a,b⟩
end Go.Proofs
namespace Go.Grp
end Go.Grp
namespace Go.Proofs
open Go.Ab Go.Lie Go.Grp
variable {σ h h':PHeap} {K:PV→PHeap→Prop} {O x y:List Int} {P:List (List Int)} {C:List (List (List Int))} {vO vP vC vx vL:PV} {L:List (List Int)} {D R:List (Option (List Int))} {rb rr:List PV} {d n sT:Nat}
def rowsD (R:List (Option (List Int))) (k:Nat):List (List Int):=(R.take k).filterMap id
theorem zCP {k:Nat} (h:R[k]? = some none):rowsD R (k+1)=rowsD R k:=by
 unfold rowsD;have hl:k<R.length:=by
  rcases Nat.lt_or_ge k R.length with e|e
  ·exact e
  ·rw [List.getElem?_eq_none e]at h;cases h
 rw [List.getElem?_eq_getElem hl]at h
 rw [List.take_succ_eq_append_getElem hl,List.filterMap_append,Option.some.inj h]
 simp
theorem zCO {k:Nat} (h:R[k]? = some (some y)):rowsD R (k+1)=rowsD R k++[y]:=by
 unfold rowsD;have hl:k<R.length:=by
  rcases Nat.lt_or_ge k R.length with e|e
  ·exact e
  ·rw [List.getElem?_eq_none e]at h;cases h
 rw [List.getElem?_eq_getElem hl]at h
 rw [List.take_succ_eq_append_getElem hl,List.filterMap_append,Option.some.inj h]
 simp
theorem zGb (k:Nat):(rowsD R k).length≤k:=by
 unfold rowsD;refine Nat.le_trans (List.length_filterMap_le _ _) ?_;rw [List.length_take];omega
theorem zAh {v:List Int} {k:Nat}:v∈rowsD R k↔∃d,d<k∧R[d]? = some (some v):=by
 unfold rowsD;rw [List.mem_filterMap];constructor
 ·rintro ⟨o,ho,rfl⟩
  obtain⟨d,hd,e⟩:=List.mem_iff_getElem.1 ho;rw [List.length_take]at hd
  refine⟨d,by omega,?_⟩
  rw [List.getElem_take]at e
  rw [List.getElem?_eq_getElem (by omega),e]
 ·rintro ⟨d,hd,e⟩
  have hl:d<R.length:=by
   rcases Nat.lt_or_ge d R.length with e' | e'
   ·exact e'
   ·rw [List.getElem?_eq_none e']at e;cases e
  refine⟨some v,?_,rfl⟩;rw [List.mem_take_iff_getElem];rw [List.getElem?_eq_getElem hl]at e
  exact⟨d,by omega,Option.some.inj e⟩
theorem zDl (hy:TT O d y) (h1:at_ y d=1):dep y=d:=zIh (fun j hj=>hy.zero j hj) (by rw [h1];decide)
theorem zLs (f:FullI O P C D R 0) (hD:OkD O D):CanD O P C D (rowsD R O.length):=by
 have hR:∀{d:Nat} {y:List Int},R[d]? = some (some y)→d<O.length:=fun {d y} h=>by
  rw [←f.len];rcases Nat.lt_or_ge d R.length with e|e
  ·exact e
  ·rw [List.getElem?_eq_none e]at h;cases h
 have get:∀{v:List Int},v∈rowsD R O.length→∃d,d<O.length∧R[d]? = some (some v)∧TT O d v∧at_ v d=1∧dep v=d:=fun {v} hv=>by
  obtain⟨d,hd,e⟩:=zAh.1 hv;obtain⟨h1,h2⟩:=f.row d v (Nat.zero_le _) e;exact⟨d,hd,e,h1,h2,zDl h1 h2⟩
 refine⟨fun v hv=>?_,?_,fun v hv w hw hne=>?_,fun d y hy=>?_,zGb _,fun N hN=>?_⟩
 ·obtain⟨d,hd,e,h1,h2,h3⟩:=get hv
  exact⟨h1.mono (Nat.zero_le _),by omega,by rw [h3];exact h2⟩
 ·have:∀k,k≤O.length→(rowsD R k).Pairwise fun a b=>dep a<dep b:=by
   intro k
   induction k with
   | zero=>intro _;simp [rowsD]
   | succ k ih=>
    intro hk;have hl:k<R.length:=by rw [f.len];omega
    rcases hc:R[k]? with _|_|y
    ·rw [List.getElem?_eq_getElem hl]at hc;cases hc
    ·rw [zCP hc];exact ih (by omega)
    ·rw [zCO hc,List.pairwise_append]
     obtain⟨h1,h2⟩:=f.row k y (Nat.zero_le _) hc;refine⟨ih (by omega),by simp,fun a ha b hb=>?_⟩
     rw [List.mem_singleton.1 hb,zDl h1 h2];obtain⟨d,hd,e⟩:=zAh.1 ha;obtain⟨h3,h4⟩:=f.row d a (Nat.zero_le _) e
     have:=zDl h3 h4;omega
  exact this _ (Nat.le_refl _)
 ·obtain⟨d,hd,e,h1,h2,h3⟩:=get hv
  obtain⟨d',hd',e',h1',h2',h3'⟩:=get hw;rw [h3'];exact f.red d d' v w (Nat.zero_le _) (Nat.zero_le _) (by omega) e e'
 ·have hd:d<O.length:=by
   rw [←hD.len];rcases Nat.lt_or_ge d D.length with e|e
   ·exact e
   ·rw [List.getElem?_eq_none e]at hy;cases hy
  obtain⟨z,hz⟩:=(f.dom d (Nat.zero_le _) hd).2 ⟨y,hy⟩;obtain⟨h1,h2⟩:=f.row d z (Nat.zero_le _) hz;exact⟨z,zAh.2 ⟨d,hd,hz⟩,zDl h1 h2⟩
 ·constructor
  ·intro h
   exact fun d y hy=>(f.iff N hN).1 (fun d y _ hy=>h y (zAh.2 ⟨d,hR hy,hy⟩)) d y (Nat.zero_le _) hy
  ·intro h v hv
   obtain⟨d,hd,e⟩:=zAh.1 hv;exact(f.iff N hN).2 (fun d y _ hy=>h d y hy) d v (Nat.zero_le _) e
theorem zLB (g:LG O P C) (hR:IsPr vO vP vC O P C) (hT:σ.obj sT=some rb) (hTl:sT<σ.next) (hD:OkD O D) (hrb:All2 (DRf O.length) rb D)
  (hk:∀v u,FII v u→CanD O P C D u→K v σ):zA Tryz.prog 118 [.agg [vO,vP,vC],.sl sT 0 O.length (.known O.length)] σ K:=by
 have h0:=hR.O.one;have h1:=hR.P.one;have h2:=hR.C.one;have s:=g.s;have F:=g.F;have G:=F.g;have hn6:=s.le;refine zA.gh ?_;have hne:¬sT=σ.next:=Nat.ne_of_lt hTl;have hw0:IntKind.i64.wrap ((O.length:Int)-1)=(O.length:Int)-1:=wrap64 (by omega) (by omega)
 refine zB mix Tryz.func118 ?_;simp only [pwA,seval,-iQ0,h0,h1,h2,mk24 (n:=O.length) (by omega),mkL (n:=O.length) (by omega),hw0]
 have hb1:(σ.new [vO,vP,vC]).rd σ.next 0 3=some [vO,vP,vC]:=by simp only [pwA,seval,-iQ0]
 have hTp:(σ.new [vO,vP,vC]).obj sT=some rb:=by simp only [pwA,seval,-iQ0,hne];exact hT
 have hpn:(σ.new [vO,vP,vC]).next=σ.next+1:=rfl;have kp:Keep σ (σ.new [vO,vP,vC]):=zC σ _;generalize σ.new [vO,vP,vC]=T at *
 rw [←hpn];have hbel:Bel T.next vO∧Bel T.next vP∧Bel T.next vC:=⟨hR.O.bel _,hR.P.bel _,hR.C.bel _⟩;refine zD (fun m vs h'=>∃(k:Nat) (R:List (Option (List Int))) (rr:List PV),m=k∧k≤O.length∧vs=[.sl sT 0 O.length (.known O.length),.ptr σ.next 0,.sl T.next 0 O.length (.known O.length),.int .i64 ((k:Int)-1)]∧h'=T.new rr∧All2 (DRf O.length) rr R∧FullI O P C D R k∧(∀d,d<k→R[d]? = some none)) O.length ?_ ?_
 ·exact⟨O.length,List.replicate O.length none,_,rfl,Nat.le_refl _,rfl,rfl,DRf.start _ _,FullI.start _ rfl hD.len,fun d hd=>by rw [List.getElem?_replicate,if_pos hd]⟩
 rintro m vs h' ⟨k,R,rr,rfl,hkn,rfl,rfl,hrr,hf,hfree⟩
 have hobR:(T.new rr).obj T.next=some rr:=by rw [zH,if_pos rfl]
 have hobT:(T.new rr).obj sT=some rb:=by rw [zH,if_neg (by omega)];exact hTp
 have hld:(T.new rr).rd σ.next 0 3=some [vO,vP,vC]:=by rw [Q4,if_neg (by omega)];exact hb1
 have hlr:rr.length=O.length:=by rw [hrr.1];exact hf.len
 rcases Nat.eq_zero_or_pos m with rfl|hmp
 ·simp only [pwA,seval,-iQ0,show ¬((0:Int)≤((0:Nat):Int)-1) by omega]
  refine zD (fun m vs h'=>∃(i:Nat) (v:PV) (cs:List PV),i≤O.length∧m=O.length-i∧vs=[.sl T.next 0 O.length (.known O.length),v,.int .i64 i]∧Keep (T.new rr) h'∧PSl (T.new rr).next 1 h' v (rowsD R i).length cs∧All2 FI cs (rowsD R i)) O.length ?_ ?_
  ·exact⟨0,_,[],by omega,by omega,rfl,zC _ _,PSl.new (h:=T.new rr) (cs:=[]) (T.next+1) 1 rfl (Nat.le_refl _),All2.nil _⟩
  rintro m vs h' ⟨i,v,cs,hi,rfl,rfl,kk,ps,hall⟩
  have hrl:=zGb (R:=R) i;have hrd:=zF (h:=h') (by rw [kk.obj _ (by show T.next<T.next+1;omega)];exact hobR) i
  simp only [pwA,seval,-iQ0];refine iteI (fun hlt=>?_) fun hge=>?_
  rotate_left
  ·have hie:i=O.length:=by omega
   subst hie;have hcd:=zLs hf hD;have kk2:=kk.keepOf2 kp;have hn1:σ.next≤(T.new rr).next:=by show σ.next≤T.next+1;omega
   have ps2:PSl σ.next 1 h' v (rowsD R O.length).length cs:=by
    obtain⟨s1,cap1,a1,a2,a3,a4,a5,a6⟩:=ps;exact⟨s1,cap1,a1,a2,a3,a4,by omega,a6⟩
   exact ps2.fin kk2 (hall.bI 0) fun o cap=>hk _ _ ⟨_,_,_,rfl,hall⟩ hcd
  have hlt':i<O.length:=by omega
  rcases DRf.get hrr (d:=i) (by rw [hf.len];exact hlt')with ⟨e1,e2⟩|⟨w,a,y,e1,e3,e2⟩
  ·rw [e1]at hrd
   simp only [pwA,seval,-iQ0,hlt',hrd,wrapS hlt' (by omega:O.length≤4611686018427387904)]
   exact⟨_,by omega,i+1,v,cs,by omega,rfl,rfl,kk,by rw [zCP e2];exact ps,by rw [zCP e2];exact hall⟩
  ·rw [e1]at hrd
   have hpos:(0:Int)<(O.length:Int):=by omega
   simp only [pwA,seval,-iQ0,hlt',hrd,hpos];refine PSl.push (bytes:=24) (σb:=T.new rr) kk ps (by omega) (by omega) fun v2 h2 k2 a2=>?_
   simp only [pwA,seval,-iQ0,wrapS hlt' (by omega:O.length≤4611686018427387904)]
   refine⟨_,by omega,i+1,v2,cs++[.fz w a O.length (pis y)],by omega,rfl,rfl,k2,?_,?_⟩
   ·rw [zCO e2,List.length_append];exact a2
   ·rw [zCO e2];exact hall.snoc ⟨w,a,by rw [e3]⟩
 obtain⟨k,rfl⟩:∃k,m=k+1:=⟨m-1,by omega⟩
 have e:((k+1:Nat):Int)-1=(k:Int):=by omega
 have hkn':k<O.length:=hkn;rw [e];have hrdT:=zF hobT k;have hrdR:=zF hobR k;have hw2:IntKind.i64.wrap ((k:Int)-1)=(k:Int)-1:=wrap64 (by omega) (by omega)
 rcases DRf.get hrb (d:=k) (by rw [hD.len];exact hkn')with ⟨e1,e2⟩|⟨w,a,y,e1,e3,e2⟩
 ·rw [e1]at hrdT
  simp only [pwA,seval,-iQ0,hkn',hrdT,hw2];exact⟨k,Nat.lt_succ_self k,k,R,rr,rfl,by omega,rfl,rfl,hrr,hf.skip hkn' e2 (hfree k (Nat.lt_succ_self k)),fun d hd=>hfree d (by omega)⟩
 rw [e1]at hrdT
 obtain⟨y1,y2⟩:=hD.row _ _ e2;have yS:gS O y:=y1.mono (Nat.zero_le _);have hnn:¬((O.length:Int)=0):=by omega
 have w1:IntKind.i64.wrap ((k:Int)+1)=((k+1:Nat):Int):=by rw [wrap64 (by omega) (by omega)];omega
 simp only [pwA,seval,-iQ0,hkn',hrdT,hnn,w1];refine zD (fun m vs h'=>∃(e:Nat) (x:List Int) (v:PV),k+1≤e∧e≤O.length∧m=O.length-e∧vs=[.sl sT 0 O.length (.known O.length),.ptr σ.next 0,.sl T.next 0 O.length (.known O.length),.int .i64 k,v,.int .i64 e]∧h'=T.new rr∧FI v x∧TT O k x∧at_ x k=1∧(∀(j:Nat) (z:List Int),k<j→j<e→R[j]? = some (some z)→at_ x j=0)∧(∀N,gB O P C N→(∀(d:Nat) (y:List Int),k+1≤d→R[d]? = some (some y)→N y)→(N y↔N x))) (O.length-(k+1)) ?_ ?_
 ·exact⟨k+1,y,.fz w a O.length (pis y),Nat.le_refl _,hkn,by omega,rfl,rfl,⟨w,a,by rw [e3]⟩,y1,y2,fun j z h1 h2=>by omega,fun _ _ _=>Iff.rfl⟩
 rintro m vs h' ⟨e,x,v,hke,heO,rfl,rfl,rfl,hv,hx,hx1,hx0,hN⟩
 have xS:gS O x:=hx.mono (Nat.zero_le _);have hxl:=hx.len;obtain⟨wx,ax,rfl⟩:=hv;have hvx:FI (.fz wx ax x.length (pis x)) x:=⟨wx,ax,rfl⟩;simp only [pwA,seval,-iQ0];refine iteI (fun hlt=>?_) fun hge=>?_
 rotate_left
 ·have hee:e=O.length:=by omega
  subst hee;have hwr:=zFD hobR (i:=k) (v:=.fz wx ax x.length (pis x)) (by omega) hvx.one
  rw [hxl]at hwr hvx
  have hss:(T.new rr).set T.next (rr.set k (.fz wx ax O.length (pis x)))=T.new (rr.set k (.fz wx ax O.length (pis x))):=zLm T rr _;rw [hss]at hwr
  simp only [pwA,seval,-iQ0,hxl,hkn',hwr,hw2];refine⟨k,Nat.lt_succ_self k,k,R.set k (some x),rr.set k (.fz wx ax O.length (pis x)),rfl,by omega,rfl,rfl,DRf.put hrr (by rw [←hxl];exact⟨wx,ax,rfl⟩) hxl,hf.put hkn' e2 hx hx1 (fun j z h1 h2=>?_) hN,fun d hd=>?_⟩
  ·have hj:j<O.length:=by
    rw [←hf.len];rcases Nat.lt_or_ge j R.length with e|e
    ·exact e
    ·rw [List.getElem?_eq_none e]at h2;cases h2
   exact hx0 j z h1 hj h2
  ·rw [List.getElem?_set,if_neg (by omega)];exact hfree d (by omega)
 have hlt':e<O.length:=by omega
 have hrdE:=zF hobR e;have hex:e<x.length:=by omega
 have w2:IntKind.i64.wrap ((e:Int)+1)=((e+1:Nat):Int):=by rw [wrap64 (by omega) (by omega)];omega
 rcases DRf.get hrr (d:=e) (by rw [hf.len];exact hlt')with ⟨f1,f2⟩|⟨w',a',r,f1,f3,f2⟩
 ·rw [f1]at hrdE
  have natz:¬((0:Int)<((0:Nat):Int)):=by decide
  simp only [pwA,seval,-iQ0,hlt',hrdE,w2,natz,decide_false];refine⟨_,by omega,e+1,x,_,by omega,by omega,rfl,rfl,hvx,hx,hx1,fun j z h1 h2 h3=>?_,hN⟩
  rcases Nat.lt_or_ge j e with h|h
  ·exact hx0 j z h1 h h3
  ·rw [show j=e by omega,f2]at h3;cases h3
 rw [f1]at hrdE
 obtain⟨r1,r2⟩:=hf.row e r (by omega) f2
 have rS:gS O r:=r1.mono (Nat.zero_le _);have bx:=xS.bd e hlt';have bO:=s.pr e hlt';have hpos:(0:Int)<(O.length:Int):=by omega
 by_cases hz:at_ x e=0
 ·simp only [pwA,seval,-iQ0,hlt',hrdE,hpos,decide_true,hex,pisAt hex,hz,w2]
  refine⟨_,by omega,e+1,x,_,by omega,by omega,rfl,rfl,hvx,hx,hx1,fun j z h1 h2 h3=>?_,hN⟩
  rcases Nat.lt_or_ge j e with h|h
  ·exact hx0 j z h1 h h3
  ·rw [show j=e by omega];exact hz
 have hneg:IntKind.i64.wrap (0-at_ x e)=-at_ x e:=by rw [wrap64 (by omega) (by omega)];omega
 obtain⟨q1,q2,q3,q4⟩:=zCG s F g.cent hlt' xS r1 r2;simp only [pwA,seval,-iQ0,hlt',hrdE,hpos,decide_true,hex,pisAt hex,hz,hld,hneg];refine zCa g hR rS ⟨w',a',by rw [f3]⟩ (k:=-at_ x e) (by omega) fun v1 g1=>?_
 rw [Int.neg_neg]at g1
 simp only [pwA,seval,-iQ0,hld];refine Zn s hR xS (G.pw (G.inv_in rS).1 _) hvx g1 fun v2 g2=>?_
 simp only [pwA,seval,-iQ0,w2];generalize gm O P C x (Grp.pw (gm O P C) (zv O) (ginv (gS O) (gm O P C) (zv O) r) (at_ x e).toNat)=x' at *
 refine⟨_,by omega,e+1,x',v2,by omega,by omega,rfl,rfl,g2,⟨q1.len,q1.bd,fun j hj=>by rw [q3 j (by omega)];exact hx.zero j hj⟩,by rw [q3 k (by omega)];exact hx1,fun j z h1 h2 h3=>?_,fun N hN1 hN2=>(hN N hN1 hN2).trans ?_⟩
 ·rcases Nat.lt_or_ge j e with h | h
  ·rw [q3 j h];exact hx0 j z h1 h h3
  ·rw [show j=e by omega];exact q4
 ·have hr:=hN2 e r (by omega) f2
  have hp:=hN1.pw hr (at_ x e).toNat;constructor
  ·intro h;rw [←q2]at h;exact hN1.quotR G hp q1 h
  ·intro h;rw [←q2];exact hN1.cl h hp
end Go.Proofs
namespace Go.Grp
end Go.Grp
namespace Go.Proofs
open Go.Ab Go.Lie Go.Grp
variable {σ h h':PHeap} {K:PV→PHeap→Prop} {O x y:List Int} {P:List (List Int)} {C:List (List (List Int))} {vO vP vC vx vL:PV} {L:List (List Int)} {D R:List (Option (List Int))} {rb rr:List PV} {d n sT:Nat}
theorem All2.unsnoc {α β:Type} {R:α→β→Prop} {us:List α} {bs:List β} {b:β} (h:All2 R us (bs++[b])):∃us' a,us=us'++[a]∧All2 R us' bs∧R a b:=by
 have hl:=h.1;rw [List.length_append,List.length_singleton]at hl
 have hne:us≠[]:=fun e=>by rw [e]at hl;simp at hl
 refine⟨us.dropLast,us.getLast hne,(List.dropLast_concat_getLast hne).symm,⟨by rw [List.length_dropLast];omega,fun k c r hc hr=>?_⟩,?_⟩
 ·have hk:k<us.dropLast.length:=by
   rcases Nat.lt_or_ge k us.dropLast.length with e|e
   ·exact e
   ·rw [List.getElem?_eq_none e]at hc;cases hc
  rw [List.length_dropLast]at hk
  refine h.2 k c r ?_ ?_
  ·rw [List.getElem?_eq_getElem (by rw [List.length_dropLast];exact hk),List.getElem_dropLast]at hc
   rw [List.getElem?_eq_getElem (by omega)];exact hc
  ·rw [List.getElem?_append_left (by omega)];exact hr
 ·refine h.2 bs.length _ _ ?_ ?_
  ·rw [List.getLast_eq_getElem,List.getElem?_eq_getElem (by omega)]
   congr 2;omega
  ·rw [List.getElem?_append_right (Nat.le_refl _),Nat.sub_self];rfl
theorem zGi {α:Type} (Q:List α):Q=[]∨∃Q' x,Q=Q'++[x]:=by
 rcases Q.eq_nil_or_concat with h|⟨l,b,h⟩
 ·exact .inl h
 ·exact .inr ⟨l,b,by rw [h,List.concat_eq_append]⟩
theorem zBu (g:LG O P C) (hR:IsPr vO vP vC O P C) (hL:FII vL L) (sz:SzL L) (hg:∀x∈L,gS O x)
  (hk:∀v u,FII v u→CanG O (GC O P C L) u→K v σ):zA Tryz.prog 70 [.agg [vO,vP,vC],vL] σ K:=by
 have h0:=hR.O.one;have h1:=hR.P.one;have h2:=hR.C.one;have s:=g.s;have F:=g.F;have G:=F.g;have hC:=g.cent;have hn6:=s.le;have hp:=qi.isp g.pr;have hLl:=sz.l;have hR0:=hR;obtain⟨⟨w0,a0,rfl⟩,hRP,hRC⟩:=hR;refine zA.gh ?_;refine zB mix Tryz.func70 ?_;simp only [pwA,seval,-iQ0,h1,h2,mk24 (n:=O.length) (by omega),mkL (n:=O.length) (by omega),hL.sb]
 have hbo:(σ.new [.fz w0 a0 O.length (pis O),vP,vC]).obj σ.next=some [.fz w0 a0 O.length (pis O),vP,vC]:=by simp only [pwA,seval,-iQ0]
 have hpn:(σ.new [.fz w0 a0 O.length (pis O),vP,vC]).next=σ.next+1:=rfl;have kp:Keep σ (σ.new [.fz w0 a0 O.length (pis O),vP,vC]):=zC σ _;generalize σ.new [.fz w0 a0 O.length (pis O),vP,vC]=T at *
 rw [←hpn];refine zMt hL sz fun vQ h1' rq kq pq hrq=>?_
 simp only [pwA,seval,-iQ0];have kself:∀{rb:List PV} {h:PHeap},Keep (T.new rb) h→h.rd σ.next 0 3=some [.fz w0 a0 O.length (pis O),vP,vC]∧h.rd1 σ.next 0=some (.fz w0 a0 O.length (pis O))∧h.obj T.next=some rb∧T.next<h.next:=fun {rb h} k=>by
  have e1:∀t,t<T.next→h.obj t=T.obj t:=fun t ht=>by rw [k.obj t (by show t<T.next+1;omega),zH,if_neg (by omega)]
  have e2:=e1 σ.next (by omega)
  rw [hbo]at e2
  refine⟨by rw [ZB e2];rfl,by rw [zF e2];rfl,?_,k.next⟩
  ·rw [k.obj T.next (Nat.lt_succ_self _),zH,if_pos rfl]
 have kset:∀{rb rb':List PV} {h:PHeap},Keep (T.new rb) h→Keep (T.new rb') (h.set T.next rb'):=fun {rb rb' h} k=>⟨k.next,k.top,fun t ht=>by
  rw [zn]
  split
  ·rename_i e;rw [e,zH,if_pos rfl]
  ·rename_i e
   rw [k.obj t ht,zH,zH,if_neg e,if_neg e]⟩
 refine zD (fun m vs h'=>∃(D:List (Option (List Int))) (rb:List PV) (Q:List (List Int)) (vQ:PV) (rq:List PV),m=10*free D+Q.length∧vs=[.ptr σ.next 0,.int .i64 O.length,.sl T.next 0 O.length (.known O.length),vQ]∧Keep (T.new rb) h'∧PT (T.next+1) h' vQ Q.length rq∧All2 FI rq Q∧(∀x∈Q,gS O x)∧All2 (DRf O.length) rb D∧OkD O D∧QI O P C D Q∧(∀N,gB O P C N→((InD N D∧∀q∈Q,N q)↔∀q∈L,N q))∧Q.length+10*free D≤L.length+10*O.length) (10*free (List.replicate O.length none)+L.length) ?_ ?_
 ·refine⟨List.replicate O.length none,_,L,vQ,rq,rfl,rfl,kq,pq,hrq,hg,DRf.start _ _,OkD.start _ rfl,QI.start _,fun N _=>⟨fun h=>h.2,fun h=>⟨InD.start _,h⟩⟩,?_⟩
  have:=zA6 (List.replicate O.length none)
  rw [List.length_replicate]at this
  omega
 clear kq pq hrq vQ rq h1'
 rintro m vs h' ⟨D,rb,Q,vQ,rq,rfl,rfl,kk,pq,hrq,hgQ,hrb,hD,hQI,hS,hbd⟩
 obtain⟨l3,l1,lT,lTn⟩:=kself kk;have hlen:=pq.pLen;have hf6:=zA6 D;rw [hD.len]at hf6
 rcases zGi Q with rfl|⟨Q,x,rfl⟩
 ·have natz:¬((0:Int)<((0:Nat):Int)):=by decide
  simp only [List.length_nil]at hlen
  simp only [pwA,seval,-iQ0,hlen,natz,l3];refine zLB g hR0 lT lTn hD hrb fun v u hv hcd=>?_
  simp only [pwA,seval,-iQ0];exact Gh.fin0 (kk.keepOf2 kp) (hv.bel _) (hk v u hv (hcd.can s F hC hD hQI fun N hN=>⟨fun h=>(hS N hN).1 ⟨h,fun q hq=>(by cases hq)⟩,fun h=>((hS N hN).2 h).1⟩))
 have hll:(Q++[x]).length=Q.length+1:=by simp
 rw [hll]at pq hlen hbd
 obtain⟨rq',c,rfl,hrq',hc⟩:=All2.unsnoc hrq;obtain⟨sq,off,cap,vQ',rfl,hrd,hsl,pq'⟩:=pq.unsnoc;have hx:=hgQ x (by simp)
 have hgQ':∀q∈Q,gS O q:=fun q hq=>hgQ q (by simp [hq])
 have hpos:(0:Int)<((Q.length+1:Nat):Int):=by omega
 have hsub:IntKind.i64.wrap (((Q.length+1:Nat):Int)-1)=(Q.length:Int):=by rw [wrap64 (by omega) (by omega)];omega
 have hQlt:Q.length<Q.length+1:=Nat.lt_succ_self _;rw [hll];simp only [pwA,seval,-iQ0,hlen,hpos,hsub,hQlt,hrd,hsl,l3];refine zJd g hR0 lT lTn hD hrb hx hc fun vz z fz gz hz1 hz2=>?_
 have hzl:=gz.len
 by_cases hd:dep z<O.length
 rotate_left
 ·have hdn:dep z=O.length:=by have:=zBT z;omega
  have hz0:=Zz gz (by omega)
  simp only [pwA,seval,-iQ0,hdn];refine⟨_,?_,D,rb,Q,vQ',rq',rfl,rfl,kk,pq',hrq',hgQ',hrb,hD,(hQI.mem (Q':=x::Q) (fun q hq=>by
   rcases List.mem_append.1 hq with h|h
   ·exact List.mem_cons_of_mem _ h
   ·rw [List.mem_singleton.1 h];simp)).drop (by rw [←hz0];exact hz2),fun N hN=>?_,by omega⟩
  ·omega
  ·rw [←hS N hN]
   refine⟨fun⟨h1,h2⟩=>⟨h1,fun q hq=>?_⟩,fun⟨h1,h2⟩=>⟨h1,fun q hq=>h2 q (by simp [hq])⟩⟩
   rcases List.mem_append.1 hq with hq|hq
   ·exact h2 q hq
   ·rw [List.mem_singleton.1 hq,hz2.iff F hN h1,hz0];exact hN.one
 have hdz:dep z<z.length:=by omega
 have hOd:=hp _ (List.getElem_mem hd);have bO:=hOd.bd;have bz:=gz.bd _ hd;have nz:=Z4 hdz;have eO:at_ O (dep z)=O[dep z]:=at_eq hd;rw [eO]at bz
 have hdn:((dep z:Int)=(O.length:Int))=False:=by simp;omega
 obtain⟨wz,az,rfl⟩:=fz;have fz:FI (.fz wz az z.length (pis z)) z:=⟨wz,az,rfl⟩;simp only [pwA,seval,-iQ0,hdn,l3,l1,hdz,pisAt hdz,hd,pisAt hd];refine zMv (p:=at_ O (dep z)) (by rw [eO];exact hOd) (by rw [eO];omega) fun q q1 q2 q3=>?_
 simp only [pwA,seval,-iQ0,hdn,l3,l1];refine zDK g hR0 gz fz (k:=q) (by rw [eO]at q2;omega) fun vy fy=>?_
 obtain⟨y1,y2⟩:=Z9 s F hC hd (Ze gz) q.toNat;have hy1:at_ (Grp.pw (gm O P C) (zv O) z q.toNat) (dep z)=1:=by
  rw [y2,Int.toNat_of_nonneg (by omega),Int.mul_comm];exact q3
 have hNy:∀N,gB O P C N→N z→N (Grp.pw (gm O P C) (zv O) z q.toNat):=fun N hN h=>hN.pw h _
 generalize Grp.pw (gm O P C) (zv O) z q.toNat=y at *
 have yS:gS O y:=y1.mono (Nat.zero_le _);have hyl:=yS.len;obtain⟨wy,ay,rfl⟩:=fy;have fy:FI (.fz wy ay y.length (pis y)) y:=⟨wy,ay,rfl⟩;have hnone:D[dep z]? = some none:=hz1 hd;have hfree:=zEy (y:=y) hnone;have hdb:dep z<rb.length:=by rw [hrb.1,hD.len];exact hd
 have hwr:=zFD lT (i:=dep z) (v:=.fz wy ay y.length (pis y)) hdb fy.one;have kk2:=kset (rb':=rb.set (dep z) (.fz wy ay y.length (pis y))) kk;have hrb2:=DRf.put (d:=dep z) hrb fy hyl;have hD2:=hD.put hd y1 hy1;obtain⟨k3,k1,kT,kTn⟩:=kself kk2;have pq2:=pq'.set (t:=T.next) (Nat.lt_succ_self _) (rb.set (dep z) (.fz wy ay y.length (pis y)));have hnx:(h'.set T.next (rb.set (dep z) (.fz wy ay y.length (pis y)))).next=h'.next:=rfl;simp only [pwA,seval,-iQ0,hd,hwr];generalize h'.set T.next (rb.set (dep z) (.fz wy ay y.length (pis y)))=h2 at *
 rw [←hnx];refine PT.push (bytes:=24) (σb:=T.new (rb.set (dep z) (.fz wy ay y.length (pis y)))) fz.one kk2 pq2 (by omega) (by omega) fun v3 h3 kk3 pq3=>?_
 obtain⟨m3,m1,mT,mTn⟩:=kself kk3;simp only [pwA,seval,-iQ0,m3,m1,hd,pisAt hd];refine zDK g hR0 yS fy (k:=at_ O (dep z)) (by rw [eO];omega) fun vo fo=>?_
 have gpo:gS O (Grp.pw (gm O P C) (zv O) y (at_ O (dep z)).toNat):=G.pw yS _;have fo1:=fo.one;have fo2:=fo.cells;simp only [pwA,seval,-iQ0,fo1,fo2,m3,m1,hd,pisAt hd];refine PT.push (bytes:=24) (σb:=T.new (rb.set (dep z) (.fz wy ay y.length (pis y)))) fo.one kk3 pq3 (by omega) (by omega) fun v4 h4 kk4 pq4=>?_
 have hrq4:All2 FI ((rq'++[.fz wz az z.length (pis z)])++[vo]) ((Q++[z])++[Grp.pw (gm O P C) (zv O) y (at_ O (dep z)).toNat]):=(hrq'.snoc fz).snoc fo;have hgQ2:∀q∈(Q++[z])++[Grp.pw (gm O P C) (zv O) y (at_ O (dep z)).toNat],gS O q:=fun q hq=>by
  rcases List.mem_append.1 hq with hq|hq
  ·rcases List.mem_append.1 hq with hq | hq
   ·exact hgQ' q hq
   ·rw [List.mem_singleton.1 hq];exact gz
  ·rw [List.mem_singleton.1 hq];exact gpo
 generalize hQ2:(Q++[z])++[Grp.pw (gm O P C) (zv O) y (at_ O (dep z)).toNat]=Q2 at *
 have hQ2l:Q2.length=Q.length+1+1:=by rw [←hQ2];simp
 have hmz:z∈Q2:=by rw [←hQ2];simp
 have hmQ:∀q∈Q,q∈Q2:=fun q hq=>by rw [←hQ2];simp [hq]
 have hmp:Grp.pw (gm O P C) (zv O) y (at_ O (dep z)).toNat∈Q2:=by rw [←hQ2];simp
 have hNQ2:∀N,gB O P C N→N y→((∀q∈Q2,N q)↔(∀q∈Q,N q)∧N z):=fun N hN hy=>by
  rw [←hQ2];refine⟨fun h=>⟨fun q hq=>h q (by simp [hq]),h z (by simp)⟩,fun⟨h3,h4⟩ q hq=>?_⟩
  rcases List.mem_append.1 hq with hq|hq
  ·rcases List.mem_append.1 hq with hq | hq
   ·exact h3 q hq
   ·rw [List.mem_singleton.1 hq];exact h4
  ·rw [List.mem_singleton.1 hq];exact hN.pw hy _
 generalize (rq'++[PV.fz wz az z.length (pis z)])++[vo]=rq2 at *
 rw [←hQ2l]at pq4
 simp only [pwA,seval,-iQ0];refine zD (fun m us h3=>∃(i:Nat) (vQ:PV) (E:List (List Int)) (re:List PV),i≤O.length∧m=O.length-i∧us=[.ptr σ.next 0,.int .i64 O.length,.sl T.next 0 O.length (.known O.length),vQ,.int .i64 (dep z),.fz wy ay y.length (pis y),.int .i64 i]∧Keep (T.new (rb.set (dep z) (.fz wy ay y.length (pis y)))) h3∧PT (T.next+1) h3 vQ (Q2++E).length re∧All2 FI re (Q2++E)∧(∀q∈E,gS O q)∧E.length≤i∧(∀(e:Nat) (b:List Int),e<i→D[e]? = some (some b)→gcom O P C y b∈E)∧∀N,gB O P C N→InD N D→N y→∀q∈E,N q) O.length ?_ ?_
 ·exact⟨0,v4,[],_,by omega,by omega,rfl,kk4,by rw [List.append_nil];exact pq4,by rw [List.append_nil];exact hrq4,fun q hq=>(by cases hq),Nat.le_refl _,fun e b h=>(by omega),fun N _ _ _ q hq=>(by cases hq)⟩
 clear kk4 pq4 v4 h4 kk3 pq3 v3 h3 m3 m1 mT mTn
 rintro m us h5 ⟨i,vQ5,E,re,hi,rfl,rfl,kk5,pq5,hre,hgE,hEl,hcE,hNE⟩
 obtain⟨m3,m1,mT,mTn⟩:=kself kk5;simp only [pwA,seval,-iQ0];refine iteI (fun hlt=>?_) fun hge=>?_
 rotate_left
 ·refine⟨10*free (D.set (dep z) (some y))+(Q2++E).length,?_,D.set (dep z) (some y),_,Q2++E,vQ5,re,rfl,rfl,kk5,pq5,hre,?_,hrb2,hD2,(hQI.mem (Q':=x::Q) (fun q hq=>by
   rcases List.mem_append.1 hq with h|h
   ·exact List.mem_cons_of_mem _ h
   ·rw [List.mem_singleton.1 h];simp)).put hz2 hnone (by simp [hmz]) (fun q hq=>by simp [hmQ q hq]) (List.mem_append.2 (.inl hmp)) (fun e b hb=>.inr (by
    have:=hcE e b (by
     rcases Nat.lt_or_ge e D.length with h|h
     ·have:=hD.len;omega
     ·rw [List.getElem?_eq_none h]at hb;cases hb) hb
    simp [this])),fun N hN=>?_,?_⟩
  ·simp only [List.length_append,List.length_singleton];omega
  ·intro q hq
   rcases List.mem_append.1 hq with hq|hq
   ·exact hgQ2 q hq
   ·exact hgE q hq
  ·rw [←hS N hN,InD.put hnone]
   constructor
   ·rintro ⟨⟨g1,g2⟩,g3⟩
    obtain⟨g4,g5⟩:=(hNQ2 N hN g2).1 fun q hq=>g3 q (by simp [hq])
    refine⟨g1,fun q hq=>?_⟩
    rcases List.mem_append.1 hq with hq|hq
    ·exact g4 q hq
    ·rw [List.mem_singleton.1 hq];exact(hz2.iff F hN g1).2 g5
   ·rintro ⟨g1,g2⟩
    have gz':=(hz2.iff F hN g1).1 (g2 x (by simp))
    have gy:=hNy N hN gz';refine⟨⟨g1,gy⟩,fun q hq=>?_⟩
    rcases List.mem_append.1 hq with hq|hq
    ·exact(hNQ2 N hN gy).2 ⟨fun q hq=>g2 q (by simp [hq]),gz'⟩ q hq
    ·exact hNE N hN g1 gy q hq
  ·simp only [List.length_append];omega
 have hlt':i<O.length:=by omega
 have w1:IntKind.i64.wrap ((i:Int)+1)=((i+1:Nat):Int):=by rw [wrap64 (by omega) (by omega)];omega
 have hrd3:=zF mT i
 by_cases hie:i=dep z
 ·subst hie
  simp only [pwA,seval,-iQ0,w1];refine⟨_,by omega,dep z+1,vQ5,E,re,by omega,rfl,rfl,kk5,pq5,hre,hgE,by omega,fun e b h1 h2=>?_,hNE⟩
  rcases Nat.lt_or_ge e (dep z)with h|h
  ·exact hcE e b h h2
  ·rw [show e=dep z by omega,hnone]at h2;cases h2
 have hie':¬((i:Int)=(dep z:Int)):=by omega
 have hgetn:(rb.set (dep z) (.fz wy ay y.length (pis y)))[i]? = rb[i]?:=by rw [List.getElem?_set,if_neg (by omega)]
 rw [hgetn]at hrd3
 rcases DRf.get hrb (d:=i) (by rw [hD.len];exact hlt')with ⟨e1,e2⟩|⟨w,a,b,e1,e3,e2⟩
 ·rw [e1]at hrd3
  have natz:¬((0:Int)<((0:Nat):Int)):=by decide
  simp only [pwA,seval,-iQ0,hie',hlt',hrd3,natz,decide_false,w1];refine⟨_,by omega,i+1,vQ5,E,re,by omega,rfl,rfl,kk5,pq5,hre,hgE,by omega,fun e b h1 h2=>?_,hNE⟩
  rcases Nat.lt_or_ge e i with h|h
  ·exact hcE e b h h2
  ·rw [show e=i by omega,e2]at h2;cases h2
 rw [e1]at hrd3
 have bS:gS O b:=(hD.row _ _ e2).1.mono (Nat.zero_le _);have hpos:(0:Int)<(O.length:Int):=by omega
 simp only [pwA,seval,-iQ0,hie',hlt',hrd3,hpos,decide_true,m3];refine zLD s g.co hR0 yS bS fy ⟨w,a,by rw [e3]⟩ fun vc fc=>?_
 have fc1:=fc.one;have fc2:=fc.cells;simp only [pwA,seval,-iQ0,hie',hlt',hrd3,hpos,decide_true,m3,fc1,fc2];refine PT.push (bytes:=24) (σb:=T.new (rb.set (dep z) (.fz wy ay y.length (pis y)))) fc.one kk5 pq5 (by rw [List.length_append];omega) (by rw [List.length_append];omega) fun v6 h6 kk6 pq6=>?_
 simp only [pwA,seval,-iQ0,w1];refine⟨_,by omega,i+1,v6,E++[gcom O P C y b],re++[vc],by omega,rfl,rfl,kk6,?_,?_,?_,?_,?_,?_⟩
 rotate_left
 ·rw [←List.append_assoc];exact hre.snoc fc
 ·intro q hq
  rcases List.mem_append.1 hq with hq|hq
  ·exact hgE q hq
  ·rw [List.mem_singleton.1 hq];exact G.com_in yS bS
 ·simp;omega
 ·intro e b' h1 h2
  rcases Nat.lt_or_ge e i with h|h
  ·simp [hcE e b' h h2]
  ·rw [show e=i by omega,e2]at h2;cases h2;simp
 ·intro N hN hD1 hy q hq
  rcases List.mem_append.1 hq with hq|hq
  ·exact hNE N hN hD1 hy q hq
  ·rw [List.mem_singleton.1 hq];exact hN.com_in hy (hD1 _ _ e2)
 ·rw [←List.append_assoc,List.length_append,List.length_singleton];exact pq6
end Go.Proofs
namespace Go.Proofs
open Go.Ab Go.Lie
variable {σ:PHeap} {K:PV→PHeap→Prop} {p:Int} {n:Nat} {W:List (List Int)} {B:List (List (List Int))} {vP vB vL vU vV vX:PV} {s:Nat} {u v gens:List (List Int)} {id:Prop}
theorem zFj {xs ys:List (List Int)} (hU:FII vU xs) (hV:FII vV ys) (hx:xs.length≤1048576) (hxl:∀x∈xs,x.length≤1048576) (hk:∀t:Bool,(t=true↔xs=ys)→K (.bool t) σ):zA Tryz.prog 110 [vU,vV] σ K:=by
 have fl:∀{A:Prop},¬A→((false=true)↔A):=fun h=>⟨fun x=>(by cases x),fun x=>absurd x h⟩
 obtain⟨wA,aA,rA,rfl,hrA⟩:=hU;obtain⟨wB,aB,rB,rfl,hrB⟩:=hV;refine zB mix Tryz.func110 ?_
 by_cases hl:xs.length=ys.length
 rotate_left
 ·have hl':¬(xs.length:Int)=(ys.length:Int):=by omega
  simp only [pwA,seval,-iQ0,hl'];exact hk _ (fl fun h=>hl (by rw [h]))
 have hl':(xs.length:Int)=(ys.length:Int):=by omega
 simp only [pwA,seval,-iQ0,eq_true hl'];refine zD (fun m vs h'=>∃i:Nat,i≤xs.length∧m=xs.length-i∧vs=[.fz wA aA xs.length rA,.fz wB aB ys.length rB,.int .i64 i]∧σ=h'∧xs.take i=ys.take i) xs.length ?_ ?_
 ·exact⟨0,by omega,by omega,rfl,rfl,rfl⟩
 rintro m vs h' ⟨i,hi,rfl,rfl,rfl,heq⟩
 simp only [pwA,seval,-iQ0];refine iteI (fun hlt=>?_) fun hge=>?_
 rotate_left
 ·have hie:i=xs.length:=by omega
  subst hie;rw [List.take_length,hl,List.take_length]at heq
  exact hk _ ⟨fun _=>heq,fun _=>rfl⟩
 have hlt2:i<ys.length:=by omega
 obtain⟨w4,a4,hr⟩:=hrA.rowI hlt;obtain⟨w5,a5,hr2⟩:=hrB.rowI hlt2;have hb:=hxl _ (List.getElem_mem hlt);simp only [pwA,seval,-iQ0,hlt,hlt2,hr,hr2];refine zAF rfl rfl (by omega) ?_
 by_cases he:xs[i]=ys[i]
 ·simp only [pwA,seval,-iQ0,he,wrapS hlt (by omega:xs.length≤4611686018427387904)]
  refine⟨_,by omega,i+1,by omega,rfl,rfl,?_⟩
  rw [List.take_succ_eq_append_getElem hlt,List.take_succ_eq_append_getElem hlt2,heq,he]
 ·simp only [pwA,seval,-iQ0,he]
  refine hk _ (fl fun h=>he ?_)
  subst h;rfl
end Go.Proofs
