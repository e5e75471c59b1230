/- Certificates that are handed over: sizes, copies, comparisons. -/
import Derived.Test.YtjlpbpfaihhamaaGreatBP29
import Derived.Test.YtjlpbpfaihhamaaGreatBP30
import Derived.Test.YtjlpbpfaihhamaaGreatBAbPz
open Int renaming reduceNatCast'→iQ0
set_option maxRecDepth 100000
namespace Go.Mx
end Go.Mx
namespace Go.Grp
end Go.Grp
set_option linter.unusedSimpArgs false
set_option linter.unusedVariables false
namespace Go.Proofs
open Go.Ab Go.Lie Go.Grp Go.Mx
abbrev Pre:=List Int×List (List Int)×List (List (List Int))
def fl3:List (PV×PV×PV)→List PV
 | []=>[]
 | q::r=>q.1::q.2.1::q.2.2::fl3 r
theorem zCf:∀rows:List (PV×PV×PV),(fl3 rows).length=3*rows.length
 | []=>rfl
 | q::r=>by simp only [fl3,List.length_cons,zCf r];omega
theorem zGP:∀{rows:List (PV×PV×PV)} {k:Nat} (hk:k<rows.length),((fl3 rows).drop (k*3)).take 3=[rows[k].1,rows[k].2.1,rows[k].2.2]
 | q::r,0,_=>rfl
 | q::r,k+1,hk=>by
  rw [show(k+1)*3=k*3+1+1+1 by omega]
  simp only [fl3,List.drop_succ_cons,List.getElem_cons_succ];exact zGP (rows:=r) (by simpa using hk)
def FI3 (q:PV×PV×PV) (g:Pre):Prop:=IsPr q.1 q.2.1 q.2.2 g.1 g.2.1 g.2.2
def FG (v:PV) (G:List Pre):Prop:=∃w a rows,v=.fz w a G.length (fl3 rows)∧All2 FI3 rows G
theorem FG.one {v:PV} {G:List Pre} (h:FG v G):v.one=true:=by obtain⟨w,a,r,rfl,_⟩:=h;rfl
theorem FG.bel {v:PV} {G:List Pre} (h:FG v G) (n:Nat):Bel n v:=by obtain⟨w,a,r,rfl,_⟩:=h;trivial
structure SzG (G:List Pre):Prop where
 l:G.length≤1048576
 r:∀g∈G,SzP g.1 g.2.1 g.2.2
variable {σ:PHeap} {K:PV→PHeap→Prop} {k k':Int} {G G':List Pre} {L L':List (List Int)} {vG vL vG' vL':PV} {s:Nat}
end Go.Proofs
namespace Go.Mx
end Go.Mx
namespace Go.Grp
end Go.Grp
namespace Go.Proofs
open Go.Ab Go.Lie Go.Grp Go.Mx
variable {σ:PHeap} {K:PV→PHeap→Prop} {k k':Int} {G G':List Pre} {L L':List (List Int)} {vG vL vG' vL':PV} {s:Nat}
theorem zDW (hG:FG vG G) (hG':FG vG' G') (sz:SzG G) (hk:∀t:Bool,(t=true↔G=G')→K (.bool t) σ):zA Tryz.prog 34 [vG,vG'] σ K:=by
 obtain⟨w,a,rs,rfl,hr⟩:=hG;obtain⟨w',a',rs',rfl,hr'⟩:=hG';have hb:=sz.l;have fl:∀{A:Prop},¬A→((false=true)↔A):=fun h=>⟨fun x=>(by cases x),fun x=>absurd x h⟩
 refine zB mix Tryz.func34 ?_;simp only [pwA,seval,-iQ0];refine iteI (fun hl=>?_) fun hl=>?_
 rotate_left
 ·exact hk _ (fl fun hv=>hl (by rw [hv]))
 have hl:G.length=G'.length:=by omega
 refine zD (fun m vs h'=>∃i:Nat,i≤G.length∧m=G.length-i∧vs=[.fz w a G.length (fl3 rs),.fz w' a' G'.length (fl3 rs'),.int .i64 i]∧σ=h'∧G.take i=G'.take i) G.length ?_ ?_
 ·exact⟨0,by omega,by omega,rfl,rfl,by simp⟩
 rintro m vs h' ⟨i,hi,rfl,rfl,rfl,hall⟩
 simp only [pwA,seval,-iQ0];refine iteI (fun hlt=>?_) fun hge=>?_
 ·have hlt2:i<G'.length:=by omega
  have hkr:i<rs.length:=by rw [hr.1];exact hlt
  have hget:=zGP hkr;have h3:3≤(fl3 rs).length-i*3:=by have:=zCf rs;omega
  have hp:IsPr rs[i].1 rs[i].2.1 rs[i].2.2 G[i].1 G[i].2.1 G[i].2.2:=hr.2 i _ _ (List.getElem?_eq_getElem hkr) (List.getElem?_eq_getElem hlt);have hkr':i<rs'.length:=by rw [hr'.1];exact hlt2
  have hget':=zGP hkr';have h3':3≤(fl3 rs').length-i*3:=by have:=zCf rs';omega
  have hp':IsPr rs'[i].1 rs'[i].2.1 rs'[i].2.2 G'[i].1 G'[i].2.1 G'[i].2.2:=hr'.2 i _ _ (List.getElem?_eq_getElem hkr') (List.getElem?_eq_getElem hlt2);simp only [pwA,seval,-iQ0,hlt,hlt2,hget,h3,hget',h3',List.length_drop];refine zAt hp hp' (sz.r _ (List.getElem_mem hlt)) fun t ht=>?_
  cases t with
  | true=>
   obtain⟨q1,q2,q3⟩:=ht.1 rfl;simp only [pwA,seval,-iQ0,wrapS hlt (by omega:G.length≤4611686018427387904)]
   exact⟨_,by omega,i+1,by omega,rfl,rfl,zFw hl hlt hall (Prod.ext q1 (Prod.ext q2 q3))⟩
  | false=>
   simp only [pwA,seval,-iQ0];exact hk _ (fl fun hv=>by subst hv;cases ht.2 ⟨rfl,rfl,rfl⟩)
 ·refine hk _ ⟨fun _=>?_,fun _=>rfl⟩
  rwa [List.take_of_length_le (by omega),List.take_of_length_le (by omega)]at hall
theorem Qx (hG:FG vG G) (hL:FII vL L) (hG':FG vG' G') (hL':FII vL' L') (szG:SzG G) (szL:SzL L) (hk:∀t:Bool,(t=true↔k=k'∧G=G'∧L=L')→K (.bool t) σ):zA Tryz.prog 9 [.agg [.int .i64 k,vG,vL],.agg [.int .i64 k',vG',vL']] σ K:=by
 have fl:∀{A:Prop},¬A→((false=true)↔A):=fun h=>⟨fun x=>(by cases x),fun x=>absurd x h⟩
 have h0:=hG.one;have h1:=hL.one;have h2:=hG'.one;have h3:=hL'.one;refine zA.gh ?_;have hkp:Keep σ ((σ.new [.int .i64 k,vG,vL]).new [.int .i64 k',vG',vL']):=(zC σ _).new _;refine zB mix Tryz.func9 ?_
 by_cases hk0:k=k'
 rotate_left
 ·simp only [pwA,seval,-iQ0,h0,h1,h2,h3,hk0]
  exact Gh.fin0 hkp trivial (hk _ (fl fun h=>hk0 h.1))
 simp only [pwA,seval,-iQ0,h0,h1,h2,h3,eq_true hk0];refine zDW hG hG' szG fun t ht=>?_
 cases t with
 | false=>
  simp only [pwA,seval,-iQ0];exact Gh.fin0 hkp trivial (hk _ (fl fun h=>by cases ht.2 h.2.1))
 | true=>
  simp only [pwA,seval,-iQ0,h0,h1,h2,h3];refine zAK hL hL' szL fun t2 ht2=>?_
  cases t2 with
  | false=>
   simp only [pwA,seval,-iQ0];exact Gh.fin0 hkp trivial (hk _ (fl fun h=>by cases ht2.2 h.2.2))
  | true=>
   simp only [pwA,seval,-iQ0];exact Gh.fin0 hkp trivial (hk _ ⟨fun _=>⟨hk0,ht.1 rfl,ht2.1 rfl⟩,fun _=>rfl⟩)
end Go.Proofs
