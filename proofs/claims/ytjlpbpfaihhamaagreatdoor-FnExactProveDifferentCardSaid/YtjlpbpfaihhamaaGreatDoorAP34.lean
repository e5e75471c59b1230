/- The compiled forms of the functions, each held against the program by the kernel. Written by program. -/
import Derived.Test.YtjlpbpfaihhamaaGreatDoorAP31
import Derived.Test.YtjlpbpfaihhamaaGreatDoorAAbPz
import Derived.Test.YtjlpbpfaihhamaaGreatDoorAP30
import Derived.Test.YtjlpbpfaihhamaaGreatDoorAAbPt
import Derived.Test.YtjlpbpfaihhamaaGreatDoorRows
import Derived.Lib.SmallJoins
import Derived.WalkKit
import Derived.ProofKit
import Derived.Test.YtjlpbpfaihhamaaGreatDoorChecked
open Int renaming reduceNatCast'→iQ0
set_option maxRecDepth 100000
namespace Go.Grp
end Go.Grp
set_option linter.unusedSimpArgs false
set_option linter.unusedVariables false
namespace Go.Proofs
open Go.Ab Go.Lie Go.Grp
variable {σ:PHeap} {K:PV→PHeap→Prop} {O:List Int} {P:List (List Int)} {C:List (List (List Int))} {vO vP vC vx vy vL vU vV vB vg:PV} {x y z f a b g:List Int} {L u v z':List (List Int)} {rP rC rb:List PV} {d j sp ss sb n:Nat}
theorem Cons.full (s:Shp O P C) (hc:Cons O P C):Full O P C O.length:=full_of s (Nat.le_refl _) fun j _ h=>hc j h
end Go.Proofs
namespace Go.Grp
end Go.Grp
namespace Go.Proofs
open Go.Ab Go.Lie Go.Grp
variable {σ:PHeap} {K:PV→PHeap→Prop} {O:List Int} {P:List (List Int)} {C:List (List (List Int))} {vO vP vC vx vy vz:PV} {x y z:List Int} {d j sp n:Nat}
structure LG (O:List Int) (P:List (List Int)) (C:List (List (List Int))):Prop where
 pr:qE O P C
 co:Cons O P C
theorem LG.s (g:LG O P C):Shp O P C:=g.pr.shp
theorem LG.F (g:LG O P C):Full O P C O.length:=Cons.full g.s g.co
end Go.Proofs
namespace Go.Grp
end Go.Grp
namespace Go.Mx
open Go.Ab Go.Lie Go.Grp
variable {p:Int} {n m d:Nat} {v w:List Int} {A B C:List (List Int)}
structure Ve (p:Int) (n:Nat) (v:List Int):Prop where
 len:v.length=n
 bd:∀j,0≤at_ v j∧at_ v j<p
def Ma (p:Int) (n:Nat) (A:List (List Int)):Prop:=∀r∈A,Ve p n r
def row (A:List (List Int)) (i:Nat):List Int:=A.getD i []
def Sq (p:Int) (n:Nat) (A:List (List Int)):Prop:=A.length=n∧Ma p n A
end Go.Mx
namespace Go.Grp
end Go.Grp
namespace Go.Mx
open Go.Ab Go.Lie Go.Grp
variable {p:Int} {n d:Nat} {As:List (List (List Int))} {X:List (List Int)}
def nword (x:List Int):Nat→List Int
 | 0=>[]
 | i+1=>nword x i++List.replicate (nx x i) ((i:Int)+1)
abbrev nw (x:List Int):List Int:=nword x x.length
theorem nword_in {x:List Int} {n:Nat}:∀{i:Nat},i≤n→∀l∈nword x i,1≤l∧l≤(n:Int)
 | 0,_,l,hl=>by cases hl
 | i+1,hi,l,hl=>by
  rw [nword,List.mem_append]at hl
  rcases hl with hl|hl
  ·exact nword_in (by omega) l hl
  ·have:=List.eq_of_mem_replicate hl;omega
theorem nword_length {x:List Int} {b:Nat} (hb:∀j,nx x j≤b):∀(i:Nat),(nword x i).length≤i*b
 | 0=>by simp [nword]
 | i+1=>by
  have:=nword_length hb i
  have:=hb i
  rw [nword,List.length_append,List.length_replicate,Nat.add_mul];omega
variable {O:List Int} {P:List (List Int)} {C:List (List (List Int))}
end Go.Mx
namespace Go.Grp
end Go.Grp
namespace Go.Proofs
open Go.Ab Go.Lie Go.Grp Go.Mx
variable {σ:PHeap} {K:PV→PHeap→Prop} {p:Int} {n na:Nat} {v w x xs ys:List Int} {A B M:List (List Int)} {vA vB vM vv vx v0:PV} {O:List Int} {P:List (List Int)} {C:List (List (List Int))} {vO vP vC:PV} {s:Nat}
theorem zJX (i k:Nat):nword x i++List.replicate (k+1) ((i:Int)+1)=(nword x i++List.replicate k ((i:Int)+1))++[(i:Int)+1]:=by
 rw [List.replicate_succ',List.append_assoc]
theorem zFo (hx:∀j,0≤at_ x j∧at_ x j≤7) (hl:x.length≤6) (hvx:FI vx x) (hk:ResI σ K (nw x)):zA Tryz.prog 127 [vx] σ K:=by
 obtain⟨wx,ax,rfl⟩:=hvx;have hwl:∀i,i≤x.length→(nword x i).length≤42:=fun i hi=>by
  have:=nword_length (x:=x) (b:=7) (fun j=>by have:=hx j;unfold nx;omega) i
  omega
 refine zA.gh ?_;refine zD mix Tryz.func127 ?_;simp only [pwA,seval,-iQ0];refine zC (fun m vs h'=>∃(i:Nat) (vC:PV),i≤x.length∧m=x.length-i∧vs=[vC,.fz wx ax x.length (pis x),.int .i64 x.length,.int .i64 i]∧Keep σ h'∧PAcc σ.next 1 h' vC (nword x i).length (pis (nword x i))) x.length ?_ ?_
 ·exact⟨0,_,by omega,by omega,rfl,Keep.refl σ,PAcc.nil _ _ _⟩
 rintro m vs h' ⟨i,vC,hi,rfl,rfl,hkp,ha⟩
 simp only [pwA,seval,-iQ0];refine iteI (fun hlt=>?_) fun hge=>?_
 rotate_left
 ·have hie:i=x.length:=by omega
  subst hie;exact ha.res hkp rfl hk
 have bx:=hx i;have hnx:((nx x i:Nat):Int)=x[i]:=by
  unfold nx;rw [Int.toNat_of_nonneg bx.1,at_eq hlt]
 have hn7:nx x i≤7:=by unfold nx;omega
 simp only [pwA,seval,-iQ0,hlt,gi hlt,z8];refine zC (fun m vs h'=>∃(k:Nat) (vC:PV),k≤nx x i∧m=nx x i-k∧vs=[vC,.int .i64 i,.fz wx ax x.length (pis x),.int .i64 x.length,.int .i64 i,.int .i64 x[i],.int .i64 k]∧Keep σ h'∧PAcc σ.next 1 h' vC (nword x i++List.replicate k ((i:Int)+1)).length (pis (nword x i++List.replicate k ((i:Int)+1)))) (nx x i) ?_ ?_
 ·exact⟨0,vC,by omega,by omega,rfl,hkp,by simpa using ha⟩
 clear ha hkp vC
 rintro m vs h' ⟨k,vC,hk',rfl,rfl,hkp,ha⟩
 rw [←hnx];simp only [pwA,seval,-iQ0];refine iteI (fun hlk=>?_) fun hgk=>?_
 ·have hlk':k<nx x i:=by omega
  have hb:=hwl i (by omega)
  have hlen:(nword x i++List.replicate k ((i:Int)+1)).length≤60:=by simp;omega
  have ew:IntKind.i64.wrap ((i:Int)+1)=(i:Int)+1:=wrap64 (by omega) (by omega)
  have ew2:IntKind.i64.wrap ((k:Int)+1)=((k+1:Nat):Int):=wrapS hlk' (by omega)
  simp only [pwA,seval,-iQ0,ew];refine PAcc.push (bytes:=8) (σb:=σ) hkp ha (by omega) (by omega) fun v' h2 k2 a2=>?_
  simp only [pwA,seval,-iQ0,ew2];refine⟨nx x i-(k+1),by omega,k+1,v',by omega,rfl,by rw [hnx],k2,?_⟩
  rw [zJX]
  have:=a2.acc
  simpa [pis,Nat.add_assoc]using this
 ·have hke:k=nx x i:=by omega
  subst hke;simp only [pwA,seval,-iQ0,wrapS hlt (by omega:x.length≤4611686018427387904)]
  exact⟨_,by omega,i+1,vC,by omega,rfl,rfl,hkp,ha⟩
theorem zFP {h:PHeap} {a b:List PV}:(h.new a).set h.next b=h.new b:=by
 show PHeap.mk _ _ _=PHeap.mk _ _ _
 congr 1
 funext t
 show(if t=h.next then some b else if t=h.next then some a else h.obj t)=if t=h.next then some b else h.obj t
 by_cases e:t=h.next
 ·rw [if_pos e,if_pos e]
 ·rw [if_neg e,if_neg e,if_neg e]
def rl (l:Int) (c k:Nat):List Int:=List.replicate k l++List.replicate (c-k) 0
theorem zCK {l:Int} {c k:Nat} (h:k≤c):(rl l c k).length=c:=by simp [rl];omega
theorem zIb {l:Int} {c k m:Nat} (h:k+m≤c):(pis (rl l c k)).take k++pis (List.replicate m l)++(pis (rl l c k)).drop (k+m)=pis (rl l c (k+m)):=by
 have e1:(pis (rl l c k)).take k=pis (List.replicate k l):=by
  unfold rl pis;rw [List.map_append,List.take_append_of_le_length (by simp),List.take_of_length_le (by simp)]
 have e2:(pis (rl l c k)).drop (k+m)=pis (List.replicate (c-(k+m)) 0):=by
  unfold rl pis;rw [List.map_append,List.drop_append,List.drop_of_length_le (by simp),List.nil_append]
  simp
  omega
 rw [e1,e2];unfold rl pis;rw [←List.map_append,List.replicate_append_replicate,←List.map_append]
theorem zJr {l:Int} {c:Nat} {w:Bool} {a:AV}:pcopy 1 (σ.new (pis (rl l c 0))) (.sl σ.next 0 c (.known c)) (.fz w a 1 (pis [l]))=some (.int .i64 ((min 1 c:Nat):Int),σ.new (pis (rl l c (min 1 c)))):=by
 rw [zGZ];simp only [plen,Option.bind_some];rcases Nat.eq_zero_or_pos c with rfl|hc
 ·rfl
 have e:min 1 c=1:=by omega
 rw [e,if_neg (by omega),zCS,if_neg (by omega),if_pos (by simp [pis])]
 simp only [Option.bind_some];rw [qf (cs:=pis (rl l c 0)) (by rw [zH,if_pos rfl]),if_pos ⟨by rw [zG,zCK (Nat.zero_le _)];simp [pis];omega,by simp [pis,PV.one]⟩,zFP]
 have:=zIb (l:=l) (c:=c) (k:=0) (m:=1) (by omega)
 simp only [Option.map_some];rw [Nat.zero_add]at this
 rw [←this];simp [pis]
theorem zLY {l:Int} {c k:Nat} (h0:0<k) (hk:k<c):pcopy 1 (σ.new (pis (rl l c k))) (.sl σ.next k (c-k) (.known (c-k))) (.sl σ.next 0 k (.known c))=some (.int .i64 ((min k (c-k):Nat):Int),σ.new (pis (rl l c (k+min k (c-k))))):=by
 rw [zGZ];simp only [plen,Option.bind_some];have hm:min k (c-k)≠0:=by omega
 have hmk:min k (c-k)≤k:=by omega
 have hmc:k+min k (c-k)≤c:=by omega
 generalize min k (c-k)=m at *
 have hf:Za 1 (σ.new (pis (rl l c k))) (.sl σ.next 0 k (.known c)) m=some (pis (List.replicate m l)):=by
  rw [Z6,if_neg hm,if_pos hmk,ZE (cs:=pis (rl l c k)) (by rw [zH,if_pos rfl]),if_pos (by rw [zG,zCK (by omega)];omega),List.drop_zero,Nat.mul_one]
  congr 1
  unfold rl pis;rw [List.map_append,List.take_append_of_le_length (by simp;omega),List.map_replicate,List.take_replicate,List.map_replicate,Nat.min_eq_left hmk]
 rw [if_neg hm,hf];simp only [Option.bind_some];rw [qf (cs:=pis (rl l c k)) (by rw [zH,if_pos rfl]),if_pos ⟨by rw [zG,zG,zCK (by omega),List.length_replicate];omega,by simp [pis,PV.one]⟩,zFP,zG,List.length_replicate,zIb hmc]
 rfl
end Go.Proofs
namespace Go.Grp
end Go.Grp
namespace Go.Proofs
open Go.Ab Go.Lie Go.Grp Go.Mx
variable {σ:PHeap} {K:PV→PHeap→Prop} {p:Int} {n na:Nat} {v w x xs ys:List Int} {A B M:List (List Int)} {vA vB vM vv vx v0:PV} {O:List Int} {P:List (List Int)} {C:List (List (List Int))} {vO vP vC:PV} {s:Nat}
theorem QL (hx:∀j,0≤at_ x j∧at_ x j≤7) (hl:x.length≤6) (hvx:FI vx x) (hk:∀v,FI v (nw x)→K v σ):zA Tryz.prog 127 [vx] σ K:=
 zA.fzI (fun K'=>zFo hx hl hvx) fun a=>hk _ ⟨_,_,rfl⟩
end Go.Proofs
namespace Go.Grp
end Go.Grp
namespace Go.Proofs
open Go.Ab Go.Lie Go.Grp Go.Mx
abbrev Pre:=List Int×List (List Int)×List (List (List Int))
def fl3:List (PV×PV×PV)→List PV
 | []=>[]
 | q::r=>q.1::q.2.1::q.2.2::fl3 r
theorem zBx:∀rows:List (PV×PV×PV),(fl3 rows).length=3*rows.length
 | []=>rfl
 | q::r=>by simp only [fl3,List.length_cons,zBx r];omega
theorem zAl:∀{rows:List (PV×PV×PV)} {k:Nat} (hk:k<rows.length),((fl3 rows).drop (k*3)).take 3=[rows[k].1,rows[k].2.1,rows[k].2.2]
 | q::r,0,_=>rfl
 | q::r,k+1,hk=>by
  rw [show(k+1)*3=k*3+1+1+1 by omega]
  simp only [fl3,List.drop_succ_cons,List.getElem_cons_succ];exact zAl (rows:=r) (by simpa using hk)
def FI3 (q:PV×PV×PV) (g:Pre):Prop:=IsPr q.1 q.2.1 q.2.2 g.1 g.2.1 g.2.2
def FG (v:PV) (G:List Pre):Prop:=∃w a rows,v=.fz w a G.length (fl3 rows)∧All2 FI3 rows G
theorem FG.one {v:PV} {G:List Pre} (h:FG v G):v.one=true:=by obtain⟨w,a,r,rfl,_⟩:=h;rfl
theorem FG.bel {v:PV} {G:List Pre} (h:FG v G) (n:Nat):Bel n v:=by obtain⟨w,a,r,rfl,_⟩:=h;trivial
theorem zIk {rows:List (PV×PV×PV)} {G:List Pre} (h:All2 FI3 rows G):Bels 0 (fl3 rows):=by
 rw [zBz];intro c hc
 have:∀{rows:List (PV×PV×PV)},c∈fl3 rows→∃q∈rows,c=q.1∨c=q.2.1∨c=q.2.2:=by
  intro rows
  induction rows with
  | nil=>intro h;cases h
  | cons q r ih=>
   intro h;simp only [fl3,List.mem_cons]at h
   rcases h with h|h|h|h
   ·exact⟨q,by simp,.inl h⟩
   ·exact⟨q,by simp,.inr (.inl h)⟩
   ·exact⟨q,by simp,.inr (.inr h)⟩
   ·obtain⟨q',h1,h2⟩:=ih h;exact⟨q',by simp [h1],h2⟩
 obtain⟨q,hq,he⟩:=this hc;obtain⟨k,hk,rfl⟩:=List.mem_iff_getElem.1 hq;have hi:IsPr rows[k].1 rows[k].2.1 rows[k].2.2 _ _ _:=h.2 k _ _ (List.getElem?_eq_getElem hk) (List.getElem?_eq_getElem (by rw [←h.1];exact hk))
 rcases he with rfl|rfl|rfl
 ·exact hi.O.bel 0
 ·exact hi.P.bel 0
 ·exact hi.C.bel 0
structure SzG (G:List Pre):Prop where
 l:G.length≤1048576
 r:∀g∈G,SzP g.1 g.2.1 g.2.2
variable {σ:PHeap} {K:PV→PHeap→Prop} {k k':Int} {G G':List Pre} {L L':List (List Int)} {vG vL vG' vL':PV} {s:Nat}
end Go.Proofs
namespace Go.Grp
end Go.Grp
namespace Go.Proofs
open Go.Ab Go.Lie Go.Grp
variable {O x y:List Int} {P:List (List Int)} {C:List (List (List Int))} {L:List (List Int)}
abbrev BS:=List (List Int)×List (List Int)
end Go.Proofs
set_option linter.unusedSectionVars false
namespace Go.Grp
open Go.Ab Go.Lie
variable {O:List Int} {P:List (List Int)} {C:List (List (List Int))} {d i t j k:Nat} {w u v pre:List Nat} {x y:List Int}
def wf (x:List Int):Nat→Nat→List Nat
 | t,0=>[]
 | t,d+1=>List.replicate (nx x t) t++wf x (t+1) d
def nword (O x:List Int):List Nat:=wf x 0 O.length
def In (O:List Int) (i:Nat) (w:List Nat):Prop:=∀a∈w,i≤a∧a<O.length
section T
variable (s:Shp O P C) (B:Full O P C d)
include s B
end T
theorem zNa (h:∀j,t≤j→j<t+k→nx x j=0):∀{c},wf x t (k+c)=wf x (t+k) c:=by
 induction k generalizing t with
 | zero=>intro c;rw [Nat.zero_add,Nat.add_zero]
 | succ k ih=>
  intro c;rw [show k+1+c=(k+c)+1 by omega,wf,h t (Nat.le_refl _) (by omega),List.replicate_zero,List.nil_append,ih (fun j a b=>h j (by omega) (by omega)),show t+1+k=t+(k+1) by omega]
theorem zMm (hx:TT O t x) (ht:t≤O.length):nword O x=wf x t (O.length-t):=by
 unfold nword
 have:=zNa (x:=x) (t:=0) (k:=t) (fun j _ h2=>by show(at_ x j).toNat=0;rw [hx.zero j (by omega)];rfl) (c:=O.length-t)
 rw [show t+(O.length-t)=O.length by omega,Nat.zero_add]at this
 exact this
theorem wf_in:∀{c t:Nat},∀a∈wf x t c,t≤a∧a<t+c
 | 0,t,a,ha=>by cases ha
 | c+1,t,a,ha=>by
  rw [wf,List.mem_append]at ha
  rcases ha with ha|ha
  ·rw [List.eq_of_mem_replicate ha];omega
  ·have:=wf_in (c:=c) (t:=t+1) a ha;omega
theorem nword_in (hx:TT O t x) (ht:t≤O.length):In O t (nword O x):=by
 rw [zMm hx ht];intro a ha
 have:=wf_in a ha
 omega
end Go.Grp
namespace Go.Grp
end Go.Grp
set_option linter.unusedSimpArgs false
set_option linter.unusedVariables false
namespace Go.Proofs
open Go.Ab Go.Lie Go.Grp Go.Mx
variable {σ:PHeap} {K:PV→PHeap→Prop} {k k':Int} {G G':List Pre} {L L':List (List Int)} {vG vL vG' vL':PV} {s:Nat}
theorem zCh (hG:FG vG G) (hG':FG vG' G') (sz:SzG G) (hk:∀t:Bool,(t=true↔G=G')→K (.bool t) σ):zA Tryz.prog 31 [vG,vG'] σ K:=by
 obtain⟨w,a,rs,rfl,hr⟩:=hG;obtain⟨w',a',rs',rfl,hr'⟩:=hG';have hb:=sz.l;have fl:∀{A:Prop},¬A→((false=true)↔A):=fun h=>⟨fun x=>(by cases x),fun x=>absurd x h⟩
 refine zD mix Tryz.func31 ?_;simp only [pwA,seval,-iQ0];refine iteI (fun hl=>?_) fun hl=>?_
 rotate_left
 ·exact hk _ (fl fun hv=>hl (by rw [hv]))
 have hl:G.length=G'.length:=by omega
 refine zC (fun m vs h'=>∃i:Nat,i≤G.length∧m=G.length-i∧vs=[.fz w a G.length (fl3 rs),.fz w' a' G'.length (fl3 rs'),.int .i64 i]∧σ=h'∧G.take i=G'.take i) G.length ?_ ?_
 ·exact⟨0,by omega,by omega,rfl,rfl,by simp⟩
 rintro m vs h' ⟨i,hi,rfl,rfl,rfl,hall⟩
 simp only [pwA,seval,-iQ0];refine iteI (fun hlt=>?_) fun hge=>?_
 ·have hlt2:i<G'.length:=by omega
  have hkr:i<rs.length:=by rw [hr.1];exact hlt
  have hget:=zAl hkr;have h3:3≤(fl3 rs).length-i*3:=by have:=zBx rs;omega
  have hp:IsPr rs[i].1 rs[i].2.1 rs[i].2.2 G[i].1 G[i].2.1 G[i].2.2:=hr.2 i _ _ (List.getElem?_eq_getElem hkr) (List.getElem?_eq_getElem hlt);have hkr':i<rs'.length:=by rw [hr'.1];exact hlt2
  have hget':=zAl hkr';have h3':3≤(fl3 rs').length-i*3:=by have:=zBx rs';omega
  have hp':IsPr rs'[i].1 rs'[i].2.1 rs'[i].2.2 G'[i].1 G'[i].2.1 G'[i].2.2:=hr'.2 i _ _ (List.getElem?_eq_getElem hkr') (List.getElem?_eq_getElem hlt2);simp only [pwA,seval,-iQ0,hlt,hlt2,hget,h3,hget',h3',List.length_drop];refine QG hp hp' (sz.r _ (List.getElem_mem hlt)) fun t ht=>?_
  cases t with
  | true=>
   obtain⟨q1,q2,q3⟩:=ht.1 rfl;simp only [pwA,seval,-iQ0,wrapS hlt (by omega:G.length≤4611686018427387904)]
   exact⟨_,by omega,i+1,by omega,rfl,rfl,zG7 hl hlt hall (Prod.ext q1 (Prod.ext q2 q3))⟩
  | false=>
   simp only [pwA,seval,-iQ0];exact hk _ (fl fun hv=>by subst hv;cases ht.2 ⟨rfl,rfl,rfl⟩)
 ·refine hk _ ⟨fun _=>?_,fun _=>rfl⟩
  rwa [List.take_of_length_le (by omega),List.take_of_length_le (by omega)]at hall
theorem QQ (hG:FG vG G) (hL:FII vL L) (hG':FG vG' G') (hL':FII vL' L') (szG:SzG G) (szL:SzL L) (hk:∀t:Bool,(t=true↔k=k'∧G=G'∧L=L')→K (.bool t) σ):zA Tryz.prog 9 [.agg [.int .i64 k,vG,vL],.agg [.int .i64 k',vG',vL']] σ K:=by
 have fl:∀{A:Prop},¬A→((false=true)↔A):=fun h=>⟨fun x=>(by cases x),fun x=>absurd x h⟩
 have h0:=hG.one;have h1:=hL.one;have h2:=hG'.one;have h3:=hL'.one;refine zA.gh ?_;have hkp:Keep σ ((σ.new [.int .i64 k,vG,vL]).new [.int .i64 k',vG',vL']):=(zB σ _).new _;refine zD mix Tryz.func9 ?_
 by_cases hk0:k=k'
 rotate_left
 ·simp only [pwA,seval,-iQ0,h0,h1,h2,h3,hk0]
  exact Gh.fin0 hkp trivial (hk _ (fl fun h=>hk0 h.1))
 simp only [pwA,seval,-iQ0,h0,h1,h2,h3,eq_true hk0];refine zCh hG hG' szG fun t ht=>?_
 cases t with
 | false=>
  simp only [pwA,seval,-iQ0];exact Gh.fin0 hkp trivial (hk _ (fl fun h=>by cases ht.2 h.2.1))
 | true=>
  simp only [pwA,seval,-iQ0,h0,h1,h2,h3];refine zA1 hL hL' szL fun t2 ht2=>?_
  cases t2 with
  | false=>
   simp only [pwA,seval,-iQ0];exact Gh.fin0 hkp trivial (hk _ (fl fun h=>by cases ht2.2 h.2.2))
  | true=>
   simp only [pwA,seval,-iQ0];exact Gh.fin0 hkp trivial (hk _ ⟨fun _=>⟨hk0,ht.1 rfl,ht2.1 rfl⟩,fun _=>rfl⟩)
end Go.Proofs
namespace Go.Proofs.YtjlpbpfaihhamaaGreatDoor
open Go.ChangeShapes Go.WideShapes Go.ChangeAt Go.RowKit Go.Ab Go.Joins Go.Lie Go.Proofs
set_option linter.unusedVariables false
theorem own:ownKnob Tryz.prog.godebug=none:=by kernel_rfl
theorem laidOut:laidOutB Tryz.prog=true:=by kernel_rfl
theorem zPh:Tryz.prog.cellsOf 23=1:=by kernel_rfl
theorem cell2:Tryz.prog.cellsOf 2=1:=by kernel_rfl
theorem zPi:Tryz.prog.cellsOf 22=1:=by kernel_rfl
variable {H:Type} {enc:TypeId×Value→H} {W w0:World} {j:Inj} {h:AHeap}
def LII (v:PV) (xs:List (List Int)):Prop:=FII v xs∧xs.length≤9223372036854775807∧∀x∈xs,x.length≤9223372036854775807
def LIII (v:PV) (xs:List (List (List Int))):Prop:=FIII v xs∧xs.length≤9223372036854775807∧∀q∈xs,q.length≤9223372036854775807∧∀x∈q,x.length≤9223372036854775807
theorem layI:Lay1 enc Tryz.prog W 22 (fun v (xs:List Int)=>FI v xs∧xs.length≤9223372036854775807):=zMn (e:=2) Tryz.underlying22 cell2 Tryz.underlying2
theorem layII:Lay1 enc Tryz.prog W 23 LII:=by
 intro w0 j h held fuel v x m hx;obtain⟨j',h',pv,a,g1,g2,g3,g4,g5,g6,g7,g8⟩:=zCX Tryz.underlying23 zPi layI w0 j h held fuel v x m hx;exact⟨j',h',pv,a,g1,g2,g3,g4,g5,g6,g7.imp fun _ _ k=>k.1,g8,g7.all fun _ _ k=>k.2⟩
theorem zPY:Lay1 enc Tryz.prog W 24 LIII:=by
 intro w0 j h held fuel v x m hx;obtain⟨j',h',pv,a,g1,g2,g3,g4,g5,g6,g7,g8⟩:=zCX Tryz.underlying24 zPh layII w0 j h held fuel v x m hx;exact⟨j',h',pv,a,g1,g2,g3,g4,g5,g6,g7.imp fun _ _ k=>k.1,g8,g7.all fun _ _ k=>k.2⟩
end Go.Proofs.YtjlpbpfaihhamaaGreatDoor
namespace Go.Proofs.YtjlpbpfaihhamaaGreatDoor
open Go.ChangeShapes Go.WideShapes Go.ChangeAt Go.RowKit Go.Ab Go.Joins Go.Lie Go.Proofs
set_option linter.unusedVariables false
theorem zPg:Tryz.prog.cellsOf 26=3:=by kernel_rfl
variable {H:Type} {enc:TypeId×Value→H} {W w0:World} {j:Inj} {h:AHeap}
set_option maxRecDepth 100000 in
theorem layPr {b0:Nat} {v:Value} {d:DataW H} {q:List MemPlace} (m:MR W.heap.size w0 j h W) (hv:Value.okWide Tryz.prog W .any b0 26 v) (ht:DataW.Trod enc Tryz.prog W 0 (fun _=>true) true 26 v d q):
  ∃(j':Inj) (h':AHeap) (vO vP vC:PV) (Os:List Int) (Ps:List (List Int)) (Cs:List (List (List Int))),MR W.heap.size w0 j' h' W∧j.le j'∧Ext h h'∧VI j' (er idz (.agg [vO,vP,vC])) v∧VOK (zlt h') h' 0 (.agg [vO,vP,vC])∧IsPr vO vP vC Os Ps Cs∧MxP Os Ps Cs:=by
 obtain⟨v0,v1,v2,y0,y1,y2,n,rfl,rfl,rfl,t0,t1,t2⟩:=open_agg3 Tryz.underlying26 (by kernel_rfl) zPg hv ht
 obtain⟨j0,h0,vO,Os,m0,l0,e0,i0,o0,_,r1,r2⟩:=layI w0 j h true n v0 _ m t0;obtain⟨j1,h1,vP,Ws,m1,l1,e1,i1,o1,_,p1,p2,p3⟩:=layII w0 j0 h0 true n v1 _ m0 t1;obtain⟨j2,h2,vB,Bs,m2,l2,e2,i2,o2,_,q1,q2,q3⟩:=zPY w0 j1 h1 true n v2 _ m1 t2;exact⟨j2,h2,vO,vP,vB,Os,Ws,Bs,m2,(l0.trans l1).trans l2,(e0.trans e1).trans e2,⟨_,⟨_,_,rfl,VI.mono (l1.trans l2) _ _ i0,_,_,rfl,VI.mono l2 _ _ i1,_,_,rfl,i2,rfl⟩,rfl⟩,⟨(e1.trans e2).vok o0,e2.vok o1,o2,trivial⟩,⟨r1,p1,q1⟩,⟨r2,p2,p3,q2,q3⟩⟩
end Go.Proofs.YtjlpbpfaihhamaaGreatDoor
namespace Go.Proofs
open Go.Ab
def if3:IFn:=⟨[0,1],[(.tmp 4)],(S0 (R0 [2,3] [eI 2 (.box (.t 0)),eI 3 (.box (.t 1)),tI0 4 false])
 (S0 (R0 [2,3,5] [kI0 5 1048576])
 (S0 (R0 [2,3,5] [LI0 17 2,mI0 18 5,C2 19 5 17 18,mI0 5 19])
 (S0 (.seq (R0 [2,3,5,21] [mI0 20 5,cI0 21 .lss 20 0])
 (.cond (.t 21) (S0 (R0 [4] [tI0 4 true])
 .ret) .skip))
 (S0 (R0 [2,3,5] [LI0 22 3,mI0 23 5,C2 24 5 22 23,mI0 5 24])
 (S0 (.seq (R0 [2,3,26] [mI0 25 5,cI0 26 .lss 25 0])
 (.cond (.t 26) (S0 (R0 [4] [tI0 4 true])
 .ret) .skip))
 (S0 (.draw [2,3,6,7] [[(.int .i64 0),.nils,.nils]] [qD 28 (.load true 3 (.t 2)) 0,qD 30 (.load true 3 (.t 3)) 2,qD 6 (.rev 0) 8,eD 29 (.call 7 [(.t 28)]) 1 [2],eD 31 (.call 7 [(.t 30)]) 3 [],eD 32 (.call 6 [(.t 29),(.t 31)]) 4 [],mD0 27 32 5,qD 33 (.extract (.t 27) 0) 6,qD 34 (.extract (.t 27) 1) 7,wD0 3 6 33 9,mD0 7 34 10])
 (S0 (R0 [2,3,6,7,8] [LI0 35 2,C1 36 7 35,eI 8 (.alloc [.nils,.nils,.nils]),vI0 3 8 36])
 (S0 (R0 [2,3,6,7,8,9] [LI0 37 3,C1 38 7 37,eI 9 (.alloc [.nils,.nils,.nils]),vI0 3 9 38])
 (S0 (R0 [2,3,6,7,8,9,10,11] [LI0 40 8,LI0 41 9,C2 42 8 40 41,mI0 39 42,eI0 43 39 0,eI0 44 39 1,eI 10 (.alloc [(.int .i64 0),.nils,.nils]),vI0 3 10 43,mI0 11 44])
 (S0 (.seq (R0 [2,3,6,7,8,9,10,11,53] [LI0 45 10,LI0 46 6,C2 47 9 45 46,nI0 48 47,mI0 49 48,gm0 50 11 49 false,gm0 51 7 49 false,G0 52 (.bin .neq .other (.t 50) (.t 51)) true 49 false,oI0 53 49 52])
 (.cond (.t 53) (S0 (R0 [4] [tI0 4 false])
 .ret) .skip))
 (S0 (.seq (.draw [2,3,6,7,8,9,10,11,58] [] [qD 54 (.load true 3 (.t 8)) 0,qD 55 (.load true 3 (.t 2)) 1,eD 56 (.call 7 [(.t 55)]) 2 [0],eD 57 (.call 10 [(.t 54),(.t 56)]) 3 [],qD 58 (.un .not (.t 57)) 4])
 (.cond (.t 58) (S0 (R0 [4] [tI0 4 false])
 .ret) .skip))
 (S0 (.seq (.draw [2,3,6,7,8,9,10,11,63] [] [qD 59 (.load true 3 (.t 9)) 0,qD 60 (.load true 3 (.t 3)) 1,eD 61 (.call 7 [(.t 60)]) 2 [0],eD 62 (.call 10 [(.t 59),(.t 61)]) 3 [],qD 63 (.un .not (.t 62)) 4])
 (.cond (.t 63) (S0 (R0 [4] [tI0 4 false])
 .ret) .skip))
 (S0 (R0 [2,3,6,7,8,9,10,11,12] [kI0 12 1])
 (S0 (R0 [2,3,6,7,9,10,11,12] [LI0 64 8,mI0 65 12,C2 66 11 64 65,mI0 12 66])
 (S0 (R0 [2,3,6,7,10,11,12] [LI0 67 9,mI0 68 12,C2 69 11 67 68,mI0 12 69])
 (S0 (.seq (R0 [2,3,6,7,10,82] [mI0 70 12,cI0 71 .lss 70 0,mI0 72 71,G0 73 (.load true 3 (.t 10)) true 72 false,G0 74 (.load true 3 (.t 6)) true 72 false,G0 75 (.call 9 [(.t 73),(.t 74)]) false 72 false,G0 76 (.un .not (.t 75)) true 72 false,oI0 77 72 76,mI0 78 77,gm0 79 11 78 false,gm0 80 7 78 false,G0 81 (.bin .neq .other (.t 79) (.t 80)) true 78 false,oI0 82 78 81])
 (.cond (.t 82) (S0 (R0 [4] [tI0 4 false])
 .ret) .skip))
 (S0 (R0 [2,3,6,7,10,13] [kI0 13 1])
 (S0 (R0 [2,3,6,7,10,13] [LI0 83 10,mI0 84 13,C2 85 12 83 84,mI0 13 85])
 (S0 (R0 [2,3,6,7,10,13,14] [kI0 14 1])
 (S0 (R0 [2,3,6,7,10,13,14] [LI0 86 10,mI0 87 14,C2 88 13 86 87,mI0 14 88])
 (S0 (.seq (R0 [2,3,6,7,10,13,14,90] [mI0 89 14,cI0 90 .lss 89 0])
 (.cond (.t 90) (S0 (R0 [4] [tI0 4 false])
 .ret) .skip))
 (S0 (.seq (R0 [2,3,6,7,10,13,93] [mI0 91 14,mI0 92 13,bI0 93 .neq 91 92])
 (.cond (.t 93) (S0 (R0 [4] [tI0 4 false])
 .ret) .skip))
 (S0 (.draw [6,7,10,13,15,16] [[(.int .i64 0),.nils,.nils]] [qD 95 (.load true 3 (.t 2)) 0,qD 97 (.load true 3 (.t 3)) 2,qD 15 (.rev 0) 8,eD 96 (.call 7 [(.t 95)]) 1 [2],eD 98 (.call 7 [(.t 97)]) 3 [],eD 99 (.call 8 [(.t 96),(.t 98)]) 4 [],mD0 94 99 5,qD 100 (.extract (.t 94) 0) 6,qD 101 (.extract (.t 94) 1) 7,wD0 3 15 100 9,mD0 16 101 10])
 (S0 (.seq (R0 [10,13,110] [LI0 102 15,LI0 103 6,C2 104 9 102 103,nI0 105 104,mI0 106 105,gm0 107 16 106 false,gm0 108 7 106 false,G0 109 (.bin .neq .other (.t 107) (.t 108)) true 106 false,oI0 110 106 109])
 (.cond (.t 110) (S0 (R0 [4] [tI0 4 false])
 .ret) .skip))
 (S0 (R0 [10,13,14] [kI0 14 1])
 (S0 (R0 [13,14] [LI0 111 10,mI0 112 14,C2 113 13 111 112,mI0 14 113])
 (S0 (.seq (R0 [13,14,115] [mI0 114 14,cI0 115 .lss 114 0])
 (.cond (.t 115) (S0 (R0 [4] [tI0 4 false])
 .ret) .skip))
 (S0 (.seq (R0 [118] [mI0 116 14,mI0 117 13,bI0 118 .neq 116 117])
 (.cond (.t 118) (S0 (R0 [4] [tI0 4 false])
 .ret) .skip))
 (S0 (R0 [4] [tI0 4 true])
 .ret))))))))))))))))))))))))))))))⟩
theorem cf3:cF Tryz.prog Tryz.f3=some if3:=by kernel_rfl
end Go.Proofs
