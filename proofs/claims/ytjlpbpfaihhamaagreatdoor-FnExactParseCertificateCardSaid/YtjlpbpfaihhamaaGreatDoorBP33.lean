/- The compiled forms of the functions, each held against the program by the kernel. Written by program. -/
import Derived.Test.YtjlpbpfaihhamaaGreatDoorBP30
import Derived.Test.YtjlpbpfaihhamaaGreatDoorBAbPz
import Derived.Test.YtjlpbpfaihhamaaGreatDoorBAbPt
import Derived.Test.YtjlpbpfaihhamaaGreatDoorRows
import Derived.Lib.SmallJoins
import Derived.WalkKit
import Derived.ProofKit
import Derived.Test.YtjlpbpfaihhamaaGreatDoorChecked
open Int renaming reduceNatCast'→iQ0
set_option maxRecDepth 100000
namespace Go.Grp
end Go.Grp
set_option linter.unusedVariables false
set_option linter.unusedSimpArgs false
namespace Go.Mx
open Go.Ab Go.Lie Go.Grp
variable {p:Int} {n m d:Nat} {v w:List Int} {A B C:List (List Int)}
structure Ve (p:Int) (n:Nat) (v:List Int):Prop where
 len:v.length=n
 bd:∀j,0≤at_ v j∧at_ v j<p
def Ma (p:Int) (n:Nat) (A:List (List Int)):Prop:=∀r∈A,Ve p n r
def row (A:List (List Int)) (i:Nat):List Int:=A.getD i []
def Sq (p:Int) (n:Nat) (A:List (List Int)):Prop:=A.length=n∧Ma p n A
end Go.Mx
namespace Go.Grp
end Go.Grp
namespace Go.Mx
open Go.Ab Go.Lie Go.Grp
variable {p:Int} {n d:Nat} {As:List (List (List Int))} {X:List (List Int)}
def nword (x:List Int):Nat→List Int
 | 0=>[]
 | i+1=>nword x i++List.replicate (nx x i) ((i:Int)+1)
abbrev nw (x:List Int):List Int:=nword x x.length
theorem nword_in {x:List Int} {n:Nat}:∀{i:Nat},i≤n→∀l∈nword x i,1≤l∧l≤(n:Int)
 | 0,_,l,hl=>by cases hl
 | i+1,hi,l,hl=>by
  rw [nword,List.mem_append]at hl
  rcases hl with hl|hl
  ·exact nword_in (by omega) l hl
  ·have:=List.eq_of_mem_replicate hl;omega
theorem nword_length {x:List Int} {b:Nat} (hb:∀j,nx x j≤b):∀(i:Nat),(nword x i).length≤i*b
 | 0=>by simp [nword]
 | i+1=>by
  have:=nword_length hb i
  have:=hb i
  rw [nword,List.length_append,List.length_replicate,Nat.add_mul];omega
variable {O:List Int} {P:List (List Int)} {C:List (List (List Int))}
def conR (C:List (List (List Int))) (i k:Nat):List Int×List Int:=([((i+k:Nat):Int)+2,(i:Int)+1],((i:Int)+1)::nw ((C.getD i []).getD k []))
end Go.Mx
namespace Go.Grp
end Go.Grp
namespace Go.Proofs
open Go.Ab Go.Lie Go.Grp Go.Mx
variable {σ:PHeap} {K:PV→PHeap→Prop} {p:Int} {n na:Nat} {v w x xs ys:List Int} {A B M:List (List Int)} {vA vB vM vv vx v0:PV} {O:List Int} {P:List (List Int)} {C:List (List (List Int))} {vO vP vC:PV} {s:Nat}
theorem zIo (i k:Nat):nword x i++List.replicate (k+1) ((i:Int)+1)=(nword x i++List.replicate k ((i:Int)+1))++[(i:Int)+1]:=by
 rw [List.replicate_succ',List.append_assoc]
theorem zE8 (hx:∀j,0≤at_ x j∧at_ x j≤7) (hl:x.length≤6) (hvx:FI vx x) (hk:ResI σ K (nw x)):zA Tryz.prog 127 [vx] σ K:=by
 obtain⟨wx,ax,rfl⟩:=hvx;have hwl:∀i,i≤x.length→(nword x i).length≤42:=fun i hi=>by
  have:=nword_length (x:=x) (b:=7) (fun j=>by have:=hx j;unfold nx;omega) i
  omega
 refine zA.gh ?_;refine zS mix Tryz.func127 ?_;simp only [pwA,seval,-iQ0];refine zB (fun m vs h'=>∃(i:Nat) (vC:PV),i≤x.length∧m=x.length-i∧vs=[vC,.fz wx ax x.length (pis x),.int .i64 x.length,.int .i64 i]∧Keep σ h'∧PAcc σ.next 1 h' vC (nword x i).length (pis (nword x i))) x.length ?_ ?_
 ·exact⟨0,_,by omega,by omega,rfl,Keep.refl σ,PAcc.nil _ _ _⟩
 rintro m vs h' ⟨i,vC,hi,rfl,rfl,hkp,ha⟩
 simp only [pwA,seval,-iQ0];refine iteI (fun hlt=>?_) fun hge=>?_
 rotate_left
 ·have hie:i=x.length:=by omega
  subst hie;exact ha.res hkp rfl hk
 have bx:=hx i;have hnx:((nx x i:Nat):Int)=x[i]:=by
  unfold nx;rw [Int.toNat_of_nonneg bx.1,at_eq hlt]
 have hn7:nx x i≤7:=by unfold nx;omega
 simp only [pwA,seval,-iQ0,hlt,gi hlt,qM];refine zB (fun m vs h'=>∃(k:Nat) (vC:PV),k≤nx x i∧m=nx x i-k∧vs=[vC,.int .i64 i,.fz wx ax x.length (pis x),.int .i64 x.length,.int .i64 i,.int .i64 x[i],.int .i64 k]∧Keep σ h'∧PAcc σ.next 1 h' vC (nword x i++List.replicate k ((i:Int)+1)).length (pis (nword x i++List.replicate k ((i:Int)+1)))) (nx x i) ?_ ?_
 ·exact⟨0,vC,by omega,by omega,rfl,hkp,by simpa using ha⟩
 clear ha hkp vC
 rintro m vs h' ⟨k,vC,hk',rfl,rfl,hkp,ha⟩
 rw [←hnx];simp only [pwA,seval,-iQ0];refine iteI (fun hlk=>?_) fun hgk=>?_
 ·have hlk':k<nx x i:=by omega
  have hb:=hwl i (by omega)
  have hlen:(nword x i++List.replicate k ((i:Int)+1)).length≤60:=by simp;omega
  have ew:IntKind.i64.wrap ((i:Int)+1)=(i:Int)+1:=wrap64 (by omega) (by omega)
  have ew2:IntKind.i64.wrap ((k:Int)+1)=((k+1:Nat):Int):=wrapS hlk' (by omega)
  simp only [pwA,seval,-iQ0,ew];refine PAcc.push (bytes:=8) (σb:=σ) hkp ha (by omega) (by omega) fun v' h2 k2 a2=>?_
  simp only [pwA,seval,-iQ0,ew2];refine⟨nx x i-(k+1),by omega,k+1,v',by omega,rfl,by rw [hnx],k2,?_⟩
  rw [zIo]
  have:=a2.acc
  simpa [pis,Nat.add_assoc]using this
 ·have hke:k=nx x i:=by omega
  subst hke;simp only [pwA,seval,-iQ0,wrapS hlt (by omega:x.length≤4611686018427387904)]
  exact⟨_,by omega,i+1,vC,by omega,rfl,rfl,hkp,ha⟩
end Go.Proofs
namespace Go.Grp
end Go.Grp
namespace Go.Proofs
open Go.Ab Go.Lie Go.Grp Go.Mx
variable {σ:PHeap} {K:PV→PHeap→Prop} {p:Int} {n na:Nat} {v w x xs ys:List Int} {A B M:List (List Int)} {vA vB vM vv vx v0:PV} {O:List Int} {P:List (List Int)} {C:List (List (List Int))} {vO vP vC:PV} {s:Nat}
theorem zBn (hx:∀j,0≤at_ x j∧at_ x j≤7) (hl:x.length≤6) (hvx:FI vx x) (hk:∀v,FI v (nw x)→K v σ):zA Tryz.prog 127 [vx] σ K:=
 zA.fzI (fun K'=>zE8 hx hl hvx) fun a=>hk _ ⟨_,_,rfl⟩
end Go.Proofs
namespace Go.Grp
end Go.Grp
namespace Go.Proofs
open Go.Ab Go.Lie Go.Grp Go.Mx
abbrev Pre:=List Int×List (List Int)×List (List (List Int))
def fl3:List (PV×PV×PV)→List PV
 | []=>[]
 | q::r=>q.1::q.2.1::q.2.2::fl3 r
theorem ZZ:∀rows:List (PV×PV×PV),(fl3 rows).length=3*rows.length
 | []=>rfl
 | q::r=>by simp only [fl3,List.length_cons,ZZ r];omega
theorem zAL:∀{rows:List (PV×PV×PV)} {k:Nat} (hk:k<rows.length),((fl3 rows).drop (k*3)).take 3=[rows[k].1,rows[k].2.1,rows[k].2.2]
 | q::r,0,_=>rfl
 | q::r,k+1,hk=>by
  rw [show(k+1)*3=k*3+1+1+1 by omega]
  simp only [fl3,List.drop_succ_cons,List.getElem_cons_succ];exact zAL (rows:=r) (by simpa using hk)
def FI3 (q:PV×PV×PV) (g:Pre):Prop:=IsPr q.1 q.2.1 q.2.2 g.1 g.2.1 g.2.2
def FG (v:PV) (G:List Pre):Prop:=∃w a rows,v=.fz w a G.length (fl3 rows)∧All2 FI3 rows G
theorem FG.one {v:PV} {G:List Pre} (h:FG v G):v.one=true:=by obtain⟨w,a,r,rfl,_⟩:=h;rfl
theorem FG.bel {v:PV} {G:List Pre} (h:FG v G) (n:Nat):Bel n v:=by obtain⟨w,a,r,rfl,_⟩:=h;trivial
theorem zCb {rows:List (PV×PV×PV)} {G:List Pre} (h:All2 FI3 rows G):Bels 0 (fl3 rows):=by
 rw [zBi];intro c hc
 have:∀{rows:List (PV×PV×PV)},c∈fl3 rows→∃q∈rows,c=q.1∨c=q.2.1∨c=q.2.2:=by
  intro rows
  induction rows with
  | nil=>intro h;cases h
  | cons q r ih=>
   intro h;simp only [fl3,List.mem_cons]at h
   rcases h with h|h|h|h
   ·exact⟨q,by simp,.inl h⟩
   ·exact⟨q,by simp,.inr (.inl h)⟩
   ·exact⟨q,by simp,.inr (.inr h)⟩
   ·obtain⟨q',h1,h2⟩:=ih h;exact⟨q',by simp [h1],h2⟩
 obtain⟨q,hq,he⟩:=this hc;obtain⟨k,hk,rfl⟩:=List.mem_iff_getElem.1 hq;have hi:IsPr rows[k].1 rows[k].2.1 rows[k].2.2 _ _ _:=h.2 k _ _ (List.getElem?_eq_getElem hk) (List.getElem?_eq_getElem (by rw [←h.1];exact hk))
 rcases he with rfl|rfl|rfl
 ·exact hi.O.bel 0
 ·exact hi.P.bel 0
 ·exact hi.C.bel 0
structure SzG (G:List Pre):Prop where
 l:G.length≤1048576
 r:∀g∈G,SzP g.1 g.2.1 g.2.2
def need (k:Int):Int:=if k=5 then 3 else if k=4 then 2 else if 1≤k∧k≤6 then 1 else -1
def qR (k:Int) (G:List Pre) (L:List (List Int)):Prop:=
 need k=G.length∧L.length≤32∧(∀g∈G,zK g.1 g.2.1 g.2.2)∧∀l∈L,l.length≤128∧∀x∈l,-1000000≤x∧x≤1000000
variable {σ:PHeap} {K:PV→PHeap→Prop} {k k':Int} {G G':List Pre} {L L':List (List Int)} {vG vL vG' vL':PV} {s:Nat}
theorem zB5 (hk:K (.int .i64 (need k)) σ):zA Tryz.prog 43 [.int .i64 k] σ K:=by
 unfold need at hk
 refine zS mix Tryz.func43 ?_
 by_cases h5:k=5
 ·subst h5;simp only [pwA,seval,-iQ0];exact hk
 by_cases h4:k=4
 ·subst h4;simp only [pwA,seval,-iQ0];exact hk
 rw [if_neg h5,if_neg h4]at hk
 by_cases h1:k=1
 ·subst h1;simp only [pwA,seval,-iQ0];exact hk
 by_cases h2:k=2
 ·subst h2;simp only [pwA,seval,-iQ0];exact hk
 by_cases h3:k=3
 ·subst h3;simp only [pwA,seval,-iQ0];exact hk
 by_cases h6:k=6
 ·subst h6;simp only [pwA,seval,-iQ0];exact hk
 rw [if_neg (by omega)]at hk
 simp only [pwA,seval,-iQ0,h1,h2,h3,h4,h5,h6];exact hk
theorem zD0 (hin:1≤k∧k≤6) (hk:K (.int .i64 (need k)) σ):zA Tryz.prog 71 [.int .i64 k] σ K:=by
 unfold need at hk
 refine zS mix Tryz.func71 ?_
 by_cases h5:k=5
 ·subst h5;simp only [pwA,seval,-iQ0];exact hk
 by_cases h4:k=4
 ·subst h4;simp only [pwA,seval,-iQ0];exact hk
 rw [if_neg h5,if_neg h4,if_pos hin]at hk
 simp only [pwA,seval,-iQ0,h4,h5];exact hk
theorem zDL (hs:σ.obj s=some [.int .i64 k,vG,vL]) (hG:FG vG G) (szG:SzG G) (hL:FII vL L) (szL:SzL L) (hk:∀t:Bool,(t=true↔qR k G L)→K (.bool t) σ):zA Tryz.prog 72 [.ptr s 0] σ K:=by
 have fl:∀{A:Prop},¬A→((false=true)↔A):=fun h=>⟨fun x=>(by cases x),fun x=>absurd x h⟩
 obtain⟨wG,aG,rG,rfl,hrG⟩:=hG;obtain⟨wL,aL,rL,rfl,hrL⟩:=hL;have e0:σ.rd1 s 0=some (.int .i64 k):=by rw [qF hs];rfl
 have e1:σ.rd1 s 1=some (.fz wG aG G.length (fl3 rG)):=by rw [qF hs];rfl
 have e2:σ.rd1 s 2=some (.fz wL aL L.length rL):=by rw [qF hs];rfl
 have szg:=szG.l;have szl:=szL.l;refine zA.pwf fun wf=>zA.gh ?_
 have hsl:s<σ.next:=wf.lt hs;have no:∀{σ':PHeap},¬qR k G L→Keep σ σ'→Gh σ K (.bool false) σ':=fun h kk=>Gh.fin0 kk trivial (hk _ (fl h))
 refine zHo mix Tryz.func72 ?_;simp only [pwA,seval,-iQ0,e0];refine zB9 ?_
 by_cases hin:1≤k∧k≤6
 rotate_left
 ·simp only [pwA,seval,-iQ0,hin,e0,e1,e2]
  refine no (fun h=>hin ?_) (Keep.refl σ)
  have:=h.1
  unfold need at this
  by_cases h5:k=5
  ·omega
  by_cases h4:k=4
  ·omega
  rw [if_neg h5,if_neg h4,if_neg hin]at this
  omega
 simp only [pwA,seval,-iQ0,hin,e0,e1,e2];refine zD0 hin ?_
 by_cases hg:(G.length:Int)=need k
 rotate_left
 ·simp only [pwA,seval,-iQ0,e0,e1,e2,hg]
  exact no (fun h=>hg h.1.symm) (Keep.refl σ)
 by_cases hl:L.length≤32
 rotate_left
 ·have hl':(32:Int)<(L.length:Int):=by omega
  simp only [pwA,seval,-iQ0,e0,e1,e2,eq_true hg,hl'];exact no (fun h=>hl h.2.1) (Keep.refl σ)
 have hl':¬(32:Int)<(L.length:Int):=by omega
 simp only [pwA,seval,-iQ0,e0,e1,e2,eq_true hg,hl'];refine zB (fun m us h'=>∃i:Nat,i≤G.length∧m=G.length-i∧us=[.ptr s 0,.fz wG aG G.length (fl3 rG),.int .i64 G.length,.int .i64 i]∧Keep σ h'∧∀g∈G.take i,zK g.1 g.2.1 g.2.2) G.length ?_ ?_
 ·exact⟨0,by omega,by omega,rfl,Keep.refl σ,by simp⟩
 rintro m us h' ⟨i,hi,rfl,rfl,hkp,hall⟩
 have e2':h'.rd1 s 2=some (.fz wL aL L.length rL):=by rw [qF ((hkp.obj _ hsl).trans hs)];rfl
 simp only [pwA,seval,-iQ0];refine iteI (fun hlt=>?_) fun hge=>?_
 ·have hkr:i<rG.length:=by rw [hrG.1];exact hlt
  have hget:=zAL hkr;have h3:3≤(fl3 rG).length-i*3:=by have:=ZZ rG;omega
  have hp:IsPr rG[i].1 rG[i].2.1 rG[i].2.2 G[i].1 G[i].2.1 G[i].2.2:=hrG.2 i _ _ (List.getElem?_eq_getElem hkr) (List.getElem?_eq_getElem hlt);simp only [pwA,seval,-iQ0,hlt,hget,h3,hp.O.one,hp.P.one,hp.C.one,List.length_drop];refine Z7 hp (szG.r _ (List.getElem_mem hlt)) fun t ht=>?_
  cases t with
  | false=>
   simp only [pwA,seval,-iQ0];exact no (fun h=>by cases ht.2 (h.2.2.1 _ (List.getElem_mem hlt))) (hkp.new _)
  | true=>
   simp only [pwA,seval,-iQ0,wrapS hlt (by omega:G.length≤4611686018427387904)]
   refine⟨_,by omega,i+1,by omega,rfl,rfl,hkp.new _,fun g hg=>?_⟩
   rw [List.take_succ_eq_append_getElem hlt,List.mem_append,List.mem_singleton]at hg
   rcases hg with hg|rfl
   ·exact hall g hg
   ·exact ht.1 rfl
 have hpres:∀g∈G,zK g.1 g.2.1 g.2.2:=fun g hg=>hall g (by rwa [List.take_of_length_le (by omega)])
 simp only [pwA,seval,-iQ0,e2'];refine zB (fun m us h2=>∃i:Nat,i≤L.length∧m=L.length-i∧us=[.fz wL aL L.length rL,.int .i64 L.length,.int .i64 i]∧h'=h2∧∀l∈L.take i,l.length≤128∧∀x∈l,-1000000≤x∧x≤1000000) L.length ?_ ?_
 ·exact⟨0,by omega,by omega,rfl,rfl,by simp⟩
 clear hi hge hall i
 rintro m us h2 ⟨i,hi,rfl,rfl,rfl,hall⟩
 simp only [pwA,seval,-iQ0];refine iteI (fun hlt=>?_) fun hge=>?_
 rotate_left
 ·exact Gh.fin0 hkp trivial (hk _ ⟨fun _=>⟨hg.symm,hl,hpres,fun l hl=>hall l (by rwa [List.take_of_length_le (by omega)])⟩,fun _=>rfl⟩)
 obtain⟨w4,a4,hr⟩:=hrL.rowI hlt;have hb:=szL.r _ (List.getElem_mem hlt)
 by_cases h128:L[i].length≤128
 rotate_left
 ·have h':(128:Int)<(L[i].length:Int):=by omega
  simp only [pwA,seval,-iQ0,hlt,hr,h'];exact no (fun h=>h128 (h.2.2.2 _ (List.getElem_mem hlt)).1) hkp
 have h128':¬(128:Int)<(L[i].length:Int):=by omega
 simp only [pwA,seval,-iQ0,hlt,hr,h128'];refine zB (fun m us h2=>∃q:Nat,q≤L[i].length∧m=L[i].length-q∧us=[.fz wL aL L.length rL,.int .i64 L.length,.int .i64 i,.fz w4 a4 L[i].length (pis L[i]),.int .i64 L[i].length,.int .i64 q]∧h'=h2∧∀x∈L[i].take q,-1000000≤x∧x≤1000000) L[i].length ?_ ?_
 ·exact⟨0,by omega,by omega,rfl,rfl,by simp⟩
 rintro m us h2 ⟨q,hq,rfl,rfl,rfl,hallq⟩
 simp only [pwA,seval,-iQ0];refine iteI (fun hlq=>?_) fun hgq=>?_
 rotate_left
 ·simp only [pwA,seval,-iQ0,wrapS hlt (by omega:L.length≤4611686018427387904)]
  refine⟨_,by omega,i+1,by omega,rfl,rfl,fun l hl=>?_⟩
  rw [List.take_succ_eq_append_getElem hlt,List.mem_append,List.mem_singleton]at hl
  rcases hl with hl|rfl
  ·exact hall l hl
  ·exact⟨h128,fun x hx=>hallq x (by rwa [List.take_of_length_le (by omega)])⟩
 simp only [pwA,seval,-iQ0,hlq,gi hlq,qM];refine zB9 ?_
 by_cases hv:-1000000≤L[i][q]∧L[i][q]≤1000000
 ·simp only [pwA,seval,-iQ0,hv,wrapS hlq (by omega:L[i].length≤4611686018427387904)]
  exact⟨_,by omega,q+1,by omega,rfl,rfl,Qn hlq hallq hv⟩
 ·simp only [pwA,seval,-iQ0,hv]
  exact no (fun h=>hv ((h.2.2.2 _ (List.getElem_mem hlt)).2 _ (List.getElem_mem hlq))) hkp
theorem zCf (hG:FG vG G) (szG:SzG G) (hL:FII vL L) (szL:SzL L) (hk:∀t:Bool,(t=true↔qR k G L)→K (.bool t) σ):zA Tryz.prog 45 [.agg [.int .i64 k,vG,vL]] σ K:=by
 have fl:∀{A:Prop},¬A→((false=true)↔A):=fun h=>⟨fun x=>(by cases x),fun x=>absurd x h⟩
 obtain⟨wG,aG,rG,rfl,hrG⟩:=hG;obtain⟨wL,aL,rL,rfl,hrL⟩:=hL;refine zA.gh ?_;generalize hH:σ.new [.int .i64 k,.fz wG aG G.length (fl3 rG),.fz wL aL L.length rL]=H;have hkp:Keep σ H:=by rw [←hH];exact zD σ _
 have hs:H.obj σ.next=some [.int .i64 k,.fz wG aG G.length (fl3 rG),.fz wL aL L.length rL]:=by rw [←hH];simp only [pwA,seval,-iQ0]
 have e0:H.rd1 σ.next 0=some (.int .i64 k):=by rw [qF hs];rfl
 have e1:H.rd1 σ.next 1=some (.fz wG aG G.length (fl3 rG)):=by rw [qF hs];rfl
 have e2:H.rd1 σ.next 2=some (.fz wL aL L.length rL):=by rw [qF hs];rfl
 have szg:=szG.l;have szl:=szL.l;have no:¬qR k G L→Gh σ K (.bool false) H:=fun h=>Gh.fin0 hkp trivial (hk _ (fl h))
 refine zS mix Tryz.func45 ?_;simp only [pwA,seval,-iQ0];rw [hH];simp only [pwA,seval,-iQ0,e0,e1];refine zB5 ?_
 by_cases hg:need k=(G.length:Int)
 rotate_left
 ·simp only [pwA,seval,-iQ0,e0,e1,e2,hg]
  exact no (fun h=>hg h.1)
 by_cases hl:L.length≤32
 rotate_left
 ·have hl':(32:Int)<(L.length:Int):=by omega
  simp only [pwA,seval,-iQ0,e0,e1,e2,eq_true hg,hl'];exact no (fun h=>hl h.2.1)
 have hl':¬(32:Int)<(L.length:Int):=by omega
 simp only [pwA,seval,-iQ0,e0,e1,e2,eq_true hg,hl'];refine zB (fun m us h'=>∃i:Nat,i≤G.length∧m=G.length-i∧us=[.ptr σ.next 0,.int .i64 i]∧H=h'∧∀g∈G.take i,zK g.1 g.2.1 g.2.2) G.length ?_ ?_
 ·exact⟨0,by omega,by omega,rfl,rfl,by simp⟩
 rintro m us h' ⟨i,hi,rfl,rfl,rfl,hall⟩
 simp only [pwA,seval,-iQ0,e1];refine iteI (fun hlt=>?_) fun hge=>?_
 ·have hkr:i<rG.length:=by rw [hrG.1];exact hlt
  have hget:=zAL hkr;have h3:3≤(fl3 rG).length-i*3:=by have:=ZZ rG;omega
  have hp:IsPr rG[i].1 rG[i].2.1 rG[i].2.2 G[i].1 G[i].2.1 G[i].2.2:=hrG.2 i _ _ (List.getElem?_eq_getElem hkr) (List.getElem?_eq_getElem hlt);simp only [pwA,seval,-iQ0,e1,hlt,hget,h3,hp.O.one,hp.P.one,hp.C.one,List.length_drop];refine QT hp (szG.r _ (List.getElem_mem hlt)) fun t ht=>?_
  cases t with
  | false=>
   simp only [pwA,seval,-iQ0];exact no (fun h=>by cases ht.2 (h.2.2.1 _ (List.getElem_mem hlt)))
  | true=>
   simp only [pwA,seval,-iQ0,wrapS hlt (by omega:G.length≤4611686018427387904)]
   refine⟨_,by omega,i+1,by omega,rfl,rfl,fun g hg=>?_⟩
   rw [List.take_succ_eq_append_getElem hlt,List.mem_append,List.mem_singleton]at hg
   rcases hg with hg|rfl
   ·exact hall g hg
   ·exact ht.1 rfl
 have hpres:∀g∈G,zK g.1 g.2.1 g.2.2:=fun g hg=>hall g (by rwa [List.take_of_length_le (by omega)])
 simp only [pwA,seval,-iQ0];refine zB (fun m us h2=>∃i:Nat,i≤L.length∧m=L.length-i∧us=[.ptr σ.next 0,.int .i64 i]∧H=h2∧∀l∈L.take i,l.length≤128∧∀x∈l,-1000000≤x∧x≤1000000) L.length ?_ ?_
 ·exact⟨0,by omega,by omega,rfl,rfl,by simp⟩
 clear hi hge hall i
 rintro m us h2 ⟨i,hi,rfl,rfl,rfl,hall⟩
 simp only [pwA,seval,-iQ0,e2];refine iteI (fun hlt=>?_) fun hge=>?_
 rotate_left
 ·exact Gh.fin0 hkp trivial (hk _ ⟨fun _=>⟨hg,hl,hpres,fun l hl=>hall l (by rwa [List.take_of_length_le (by omega)])⟩,fun _=>rfl⟩)
 obtain⟨w4,a4,hr⟩:=hrL.rowI hlt;have hb:=szL.r _ (List.getElem_mem hlt)
 by_cases h128:L[i].length≤128
 rotate_left
 ·have h':(128:Int)<(L[i].length:Int):=by omega
  simp only [pwA,seval,-iQ0,e2,hlt,hr,h'];exact no (fun h=>h128 (h.2.2.2 _ (List.getElem_mem hlt)).1)
 have h128':¬(128:Int)<(L[i].length:Int):=by omega
 simp only [pwA,seval,-iQ0,e2,hlt,hr,h128'];refine zB (fun m us h2=>∃q:Nat,q≤L[i].length∧m=L[i].length-q∧us=[.ptr σ.next 0,.int .i64 i,.int .i64 q]∧H=h2∧∀x∈L[i].take q,-1000000≤x∧x≤1000000) L[i].length ?_ ?_
 ·exact⟨0,by omega,by omega,rfl,rfl,by simp⟩
 rintro m us h2 ⟨q,hq,rfl,rfl,rfl,hallq⟩
 simp only [pwA,seval,-iQ0,e2,hlt,hr];refine iteI (fun hlq=>?_) fun hgq=>?_
 rotate_left
 ·simp only [pwA,seval,-iQ0,wrapS hlt (by omega:L.length≤4611686018427387904)]
  refine⟨_,by omega,i+1,by omega,rfl,rfl,fun l hl=>?_⟩
  rw [List.take_succ_eq_append_getElem hlt,List.mem_append,List.mem_singleton]at hl
  rcases hl with hl|rfl
  ·exact hall l hl
  ·exact⟨h128,fun x hx=>hallq x (by rwa [List.take_of_length_le (by omega)])⟩
 simp only [pwA,seval,-iQ0,e2,hlt,hr,hlq,gi hlq,qM];refine zBa ?_
 by_cases hv:-1000000≤L[i][q]∧L[i][q]≤1000000
 ·simp only [pwA,seval,-iQ0,hv,wrapS hlq (by omega:L[i].length≤4611686018427387904)]
  exact⟨_,by omega,q+1,by omega,rfl,rfl,Qn hlq hallq hv⟩
 ·simp only [pwA,seval,-iQ0,hv]
  exact no (fun h=>hv ((h.2.2.2 _ (List.getElem_mem hlt)).2 _ (List.getElem_mem hlq)))
end Go.Proofs
namespace Go.Grp
end Go.Grp
namespace Go.Proofs
open Go.Ab Go.Lie Go.Grp Go.Mx
variable {σ:PHeap} {K:PV→PHeap→Prop} {k k':Int} {G G':List Pre} {L L':List (List Int)} {vG vL vG' vL':PV} {s:Nat}
theorem zCF (hG:FG vG G) (hG':FG vG' G') (sz:SzG G) (hk:∀t:Bool,(t=true↔G=G')→K (.bool t) σ):zA Tryz.prog 31 [vG,vG'] σ K:=by
 obtain⟨w,a,rs,rfl,hr⟩:=hG;obtain⟨w',a',rs',rfl,hr'⟩:=hG';have hb:=sz.l;have fl:∀{A:Prop},¬A→((false=true)↔A):=fun h=>⟨fun x=>(by cases x),fun x=>absurd x h⟩
 refine zS mix Tryz.func31 ?_;simp only [pwA,seval,-iQ0];refine iteI (fun hl=>?_) fun hl=>?_
 rotate_left
 ·exact hk _ (fl fun hv=>hl (by rw [hv]))
 have hl:G.length=G'.length:=by omega
 refine zB (fun m vs h'=>∃i:Nat,i≤G.length∧m=G.length-i∧vs=[.fz w a G.length (fl3 rs),.fz w' a' G'.length (fl3 rs'),.int .i64 i]∧σ=h'∧G.take i=G'.take i) G.length ?_ ?_
 ·exact⟨0,by omega,by omega,rfl,rfl,by simp⟩
 rintro m vs h' ⟨i,hi,rfl,rfl,rfl,hall⟩
 simp only [pwA,seval,-iQ0];refine iteI (fun hlt=>?_) fun hge=>?_
 ·have hlt2:i<G'.length:=by omega
  have hkr:i<rs.length:=by rw [hr.1];exact hlt
  have hget:=zAL hkr;have h3:3≤(fl3 rs).length-i*3:=by have:=ZZ rs;omega
  have hp:IsPr rs[i].1 rs[i].2.1 rs[i].2.2 G[i].1 G[i].2.1 G[i].2.2:=hr.2 i _ _ (List.getElem?_eq_getElem hkr) (List.getElem?_eq_getElem hlt);have hkr':i<rs'.length:=by rw [hr'.1];exact hlt2
  have hget':=zAL hkr';have h3':3≤(fl3 rs').length-i*3:=by have:=ZZ rs';omega
  have hp':IsPr rs'[i].1 rs'[i].2.1 rs'[i].2.2 G'[i].1 G'[i].2.1 G'[i].2.2:=hr'.2 i _ _ (List.getElem?_eq_getElem hkr') (List.getElem?_eq_getElem hlt2);simp only [pwA,seval,-iQ0,hlt,hlt2,hget,h3,hget',h3',List.length_drop];refine zCl hp hp' (sz.r _ (List.getElem_mem hlt)) fun t ht=>?_
  cases t with
  | true=>
   obtain⟨q1,q2,q3⟩:=ht.1 rfl;simp only [pwA,seval,-iQ0,wrapS hlt (by omega:G.length≤4611686018427387904)]
   exact⟨_,by omega,i+1,by omega,rfl,rfl,zGV hl hlt hall (Prod.ext q1 (Prod.ext q2 q3))⟩
  | false=>
   simp only [pwA,seval,-iQ0];exact hk _ (fl fun hv=>by subst hv;cases ht.2 ⟨rfl,rfl,rfl⟩)
 ·refine hk _ ⟨fun _=>?_,fun _=>rfl⟩
  rwa [List.take_of_length_le (by omega),List.take_of_length_le (by omega)]at hall
theorem zAf (hG:FG vG G) (hL:FII vL L) (hG':FG vG' G') (hL':FII vL' L') (szG:SzG G) (szL:SzL L) (hk:∀t:Bool,(t=true↔k=k'∧G=G'∧L=L')→K (.bool t) σ):zA Tryz.prog 9 [.agg [.int .i64 k,vG,vL],.agg [.int .i64 k',vG',vL']] σ K:=by
 have fl:∀{A:Prop},¬A→((false=true)↔A):=fun h=>⟨fun x=>(by cases x),fun x=>absurd x h⟩
 have h0:=hG.one;have h1:=hL.one;have h2:=hG'.one;have h3:=hL'.one;refine zA.gh ?_;have hkp:Keep σ ((σ.new [.int .i64 k,vG,vL]).new [.int .i64 k',vG',vL']):=(zD σ _).new _;refine zS mix Tryz.func9 ?_
 by_cases hk0:k=k'
 rotate_left
 ·simp only [pwA,seval,-iQ0,h0,h1,h2,h3,hk0]
  exact Gh.fin0 hkp trivial (hk _ (fl fun h=>hk0 h.1))
 simp only [pwA,seval,-iQ0,h0,h1,h2,h3,eq_true hk0];refine zCF hG hG' szG fun t ht=>?_
 cases t with
 | false=>
  simp only [pwA,seval,-iQ0];exact Gh.fin0 hkp trivial (hk _ (fl fun h=>by cases ht.2 h.2.1))
 | true=>
  simp only [pwA,seval,-iQ0,h0,h1,h2,h3];refine zAe hL hL' szL fun t2 ht2=>?_
  cases t2 with
  | false=>
   simp only [pwA,seval,-iQ0];exact Gh.fin0 hkp trivial (hk _ (fl fun h=>by cases ht2.2 h.2.2))
  | true=>
   simp only [pwA,seval,-iQ0];exact Gh.fin0 hkp trivial (hk _ ⟨fun _=>⟨hk0,ht.1 rfl,ht2.1 rfl⟩,fun _=>rfl⟩)
end Go.Proofs
namespace Go.Proofs.YtjlpbpfaihhamaaGreatDoor
open Go.ChangeShapes Go.WideShapes Go.ChangeAt Go.RowKit Go.Ab Go.Joins Go.Lie Go.Proofs
theorem own:ownKnob Tryz.prog.godebug=none:=by kernel_rfl
theorem laidOut:laidOutB Tryz.prog=true:=by kernel_rfl
variable {H:Type} {enc:TypeId×Value→H} {W w0:World} {j:Inj} {h:AHeap}
end Go.Proofs.YtjlpbpfaihhamaaGreatDoor
namespace Go.Proofs
open Go.Ab
def if4:IFn:=⟨[0],[(.tmp 2)],(S0 (R0 [0] [tI0 2 false])
 (S0 (.seq (R0 [0,13] [mI0 11 0,qI 12 (.lenStr (.t 11)),cI0 13 .gtr 12 1048576])
 (.cond (.t 13) (S0 (R0 [2] [tI0 2 true])
 .ret) .skip))
 (S0 (R0 [0,3,4] [mI0 15 0,C1 16 14 15,mI0 14 16,eI0 17 14 0,eI0 18 14 1,eI 3 (.alloc [(.int .i64 0),.nils,.nils]),vI0 3 3 17,mI0 4 18])
 (S0 (R0 [0,3,4,5,6] [mI0 20 0,C1 21 15 20,mI0 19 21,eI0 22 19 0,eI0 23 19 1,eI 5 (.alloc [(.int .i64 0),.nils,.nils]),vI0 3 5 22,mI0 6 23])
 (S0 (.seq (R0 [0,3,4,5,32] [LI0 24 5,LI0 25 3,C2 26 9 24 25,nI0 27 26,mI0 28 27,gm0 29 6 28 false,gm0 30 4 28 false,G0 31 (.bin .neq .other (.t 29) (.t 30)) true 28 false,oI0 32 28 31])
 (.cond (.t 32) (S0 (R0 [2] [tI0 2 false])
 .ret) .skip))
 (S0 (R0 [0,3,4,5,7] [kI0 7 1])
 (S0 (R0 [0,3,4,5,7] [LI0 33 5,mI0 34 7,C2 35 12 33 34,mI0 7 35])
 (S0 (R0 [0,3,4,5,7,8] [kI0 8 1])
 (S0 (R0 [0,3,4,5,7,8] [LI0 36 5,mI0 37 8,C2 38 13 36 37,mI0 8 38])
 (S0 (.seq (R0 [0,3,4,5,7,8,40] [mI0 39 8,cI0 40 .lss 39 0])
 (.cond (.t 40) (S0 (R0 [2] [tI0 2 false])
 .ret) .skip))
 (S0 (.seq (R0 [0,3,4,5,7,43] [mI0 41 8,mI0 42 7,bI0 43 .neq 41 42])
 (.cond (.t 43) (S0 (R0 [2] [tI0 2 false])
 .ret) .skip))
 (S0 (R0 [3,4,5,7,9,10] [mI0 45 0,C1 46 15 45,mI0 44 46,eI0 47 44 0,eI0 48 44 1,eI 9 (.alloc [(.int .i64 0),.nils,.nils]),vI0 3 9 47,mI0 10 48])
 (S0 (.seq (R0 [5,7,57] [LI0 49 9,LI0 50 3,C2 51 9 49 50,nI0 52 51,mI0 53 52,gm0 54 10 53 false,gm0 55 4 53 false,G0 56 (.bin .neq .other (.t 54) (.t 55)) true 53 false,oI0 57 53 56])
 (.cond (.t 57) (S0 (R0 [2] [tI0 2 false])
 .ret) .skip))
 (S0 (R0 [5,7,8] [kI0 8 1])
 (S0 (R0 [7,8] [LI0 58 5,mI0 59 8,C2 60 13 58 59,mI0 8 60])
 (S0 (.seq (R0 [7,8,62] [mI0 61 8,cI0 62 .lss 61 0])
 (.cond (.t 62) (S0 (R0 [2] [tI0 2 false])
 .ret) .skip))
 (S0 (.seq (R0 [65] [mI0 63 8,mI0 64 7,bI0 65 .neq 63 64])
 (.cond (.t 65) (S0 (R0 [2] [tI0 2 false])
 .ret) .skip))
 (S0 (R0 [2] [tI0 2 true])
 .ret))))))))))))))))))⟩
theorem cf4:cF Tryz.prog Tryz.f4=some if4:=by kernel_rfl
end Go.Proofs
