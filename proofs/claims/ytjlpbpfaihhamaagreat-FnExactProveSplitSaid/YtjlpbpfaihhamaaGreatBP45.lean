/- All subgroups, the reference. -/
import Derived.Test.YtjlpbpfaihhamaaGreatBP44
import Derived.Test.YtjlpbpfaihhamaaGreatBP43
import Derived.Test.YtjlpbpfaihhamaaGreatBP34
import Derived.Test.YtjlpbpfaihhamaaGreatBP19
import Derived.Test.YtjlpbpfaihhamaaGreatBAbPg
import Derived.Test.YtjlpbpfaihhamaaGreatBAbTop
import Derived.Lib.QuietBelow
open Int renaming reduceNatCast'→iQ0
set_option maxRecDepth 100000
namespace Go.Grp
end Go.Grp
set_option linter.unusedSimpArgs false
set_option linter.unusedVariables false
set_option linter.unusedSectionVars false
namespace Go.Proofs
open Go.Ab Go.Lie Go.Grp Go.Lat
variable {σ h:PHeap} {K:PV→PHeap→Prop} {O x y:List Int} {P:List (List Int)} {C:List (List (List Int))} {vO vP vC:PV} {sp N a b:Nat}
theorem zNG {k0:Nat} (s:Shp O P C) (hs:PtrG σ sp vO vP vC) (hO:FI vO O) (hk0:k0≤1000000) (hk:∀v,FI v (el O k0)→v.cells=[v]→K v σ):zA Tryz.prog 149 [.ptr sp 0,.int .i64 k0] σ K:=
 zA.fz (l:=O.length) (e:=1) (cs:=pis (dgs O O.length k0)) (fun K' k'=>zId s hs hO hk0 (k' _ (.inr rfl))) (zo _ _) fun o cap=>hk _ ⟨true,.sl o 0 O.length cap,by rw [Zl]⟩ rfl
def elL (O:List Int):List (List Int):=(List.range (nEl O)).map (el O)
theorem zGU:(elL O).length=nEl O:=by simp [elL]
theorem zKI (ha:a<nEl O):(elL O)[a]'(by rw [zGU];exact ha)=el O a:=by simp [elL]
theorem zHM (s:Shp O P C) (hs:PtrG σ sp vO vP vC) (hO:FI vO O) (hb:nEl O≤1000) (hk:∀v,FII v (elL O)→K v σ):zA Tryz.prog 189 [.ptr sp 0] σ K:=by
 have hn6:=s.le;obtain⟨hN,hN1⟩:=QM s;refine zA.gh ?_;refine zB mix Tryz.func189 ?_;simp only [pwA,seval,-iQ0];refine zDC s hs hO ?_;rw [hN];simp only [pwA,seval,-iQ0];refine zD (fun m vs h=>∃(k:Nat) (vo:PV) (rows:List PV),k≤nEl O∧m=nEl O-k∧vs=[.ptr sp 0,vo,.int .i64 (nEl O:Int),.int .i64 k]∧Keep σ h∧PAcc σ.next 1 h vo k rows∧All2 FI rows ((List.range k).map (el O))) (nEl O) ⟨0,_,[],by omega,rfl,rfl,Keep.refl _,PAcc.nil _ _ _,by simpa using All2.nil _⟩ ?_
 rintro m vs h ⟨k,vo,rows,hk1,rfl,rfl,kh,ha,hr⟩
 by_cases hlt:k<nEl O
 rotate_left
 ·obtain rfl:k=nEl O:=by omega
  simp only [pwA,seval,-iQ0,hlt];exact PAcc.fin kh ha (hr.bI 0) fun a=>hk _ ⟨true,a,rows,by rw [zGU],hr⟩
 have wk:IntKind.i64.wrap ((k:Int)+1)=((k+1:Nat):Int):=wrapS (show k<1000 by omega) (by omega)
 simp only [pwA,seval,-iQ0,hlt];refine zNG s (hs.keep kh) hO (by omega) fun v1 f1 c1=>?_
 have g1:=f1.one;simp only [pwA,seval,-iQ0,g1,c1];refine PAcc.push (σb:=σ) (bytes:=24) kh ha (by omega) (by omega) fun v' h' k' a'=>?_
 simp only [pwA,seval,-iQ0,wk];refine⟨_,by omega,k+1,v',_,by omega,rfl,rfl,k',a'.acc,?_⟩
 rw [List.range_succ,List.map_append];exact hr.snoc f1
abbrev tbR (N:Nat) (T:Nat→Nat→Nat) (a:Nat):List Int:=(List.range N).map fun b=>((T a b:Nat):Int)
theorem zJ2 (g:LG O P C) (ha:a<nEl O) (hb:b<nEl O):numF O (gm O P C (el O a) (el O b)) O.length=((tbM O P C a b:Nat):Int):=by
 have hS:=Qa (O:=O) g.s;exact(zFY g.s (g.F.g.cl (hS a) (hS b))).2.symm
set_option maxHeartbeats 1600000 in
theorem zB4 (g:LG O P C) (hs:PtrG σ sp vO vP vC) (hR:IsPr vO vP vC O P C) (hb:nEl O≤32) (hk:∀v t,FII v (tabL (nEl O) (tbM O P C))→σ.top≤t→K v (σ.up t)):zA Tryz.prog 145 [.ptr sp 0] σ K:=by
 have s:=g.s;have F:=g.F;have hn6:=s.le;obtain⟨hN,hN1⟩:=QM s;have hS:=Qa (O:=O) s;obtain⟨N,eN⟩:∃N,N=nEl O:=⟨_,rfl⟩
 refine zA.gh ?_;refine zB mix Tryz.func145 ?_;simp only [pwA,seval,-iQ0];refine zHM s hs hR.O (by omega) fun vE hE=>?_
 obtain⟨wE,aE,rE,rfl,hrE⟩:=hE;have hel:=zGU (O:=O);rw [←eN]at hb hN1 hel hk
 rw [hel];simp only [pwA,seval,-iQ0];refine zD (fun m vs h'=>∃(i:Nat) (vL:PV) (rows:List SR),i≤N∧m=N-i∧vs=[.ptr sp 0,.fz wE aE N rE,vL,.fz wE aE N rE,.int .i64 (N:Int),.int .i64 i]∧RowsI σ h' vL rows∧rows.map SR.x=(List.range i).map (tbR N (tbM O P C))) N ⟨0,_,[],by omega,rfl,rfl,RowsI.nil σ,rfl⟩ ?_
 rintro m vs h' ⟨i,vL,rows,hi,rfl,rfl,hr,hv⟩
 have hrl:rows.length=i:=by have:=congrArg List.length hv;simpa using this
 by_cases hlt:i<N
 rotate_left
 ·obtain rfl:i=N:=by omega
  simp only [pwA,seval,-iQ0,hlt];exact RowsI.finU hr (Keep.refl _) fun z t hz _ ht=>hk z t (by rw [hv]at hz;exact hz) ht
 have wi:IntKind.i64.wrap ((i:Int)+1)=((i+1:Nat):Int):=wrapS (show i<1000 by omega) (by omega)
 obtain⟨w1,a1,h1⟩:=hrE.rowI (k:=i) (by rw [hel];exact hlt)
 rw [zKI (by omega)]at h1
 have f1:FI (.fz w1 a1 (el O i).length (pis (el O i))) (el O i):=⟨w1,a1,rfl⟩;simp only [pwA,seval,-iQ0,hlt,h1];refine zD (fun m vs h3=>∃(t:Nat) (vX:PV),t≤N∧m=N-t∧vs=[.ptr sp 0,.fz wE aE N rE,vL,.fz w1 a1 (el O i).length (pis (el O i)),vX,.fz wE aE N rE,.int .i64 (N:Int),.int .i64 i,.fz wE aE N rE,.int .i64 (N:Int),.int .i64 t]∧Keep h' h3∧PAcc h'.next 1 h3 vX t (pis ((List.range t).map fun b=>((tbM O P C i b:Nat):Int)))) N ⟨0,_,by omega,rfl,rfl,Keep.refl _,PAcc.nil _ _ _⟩ ?_
 rintro m vs h3 ⟨t,vX,ht,rfl,rfl,hk3,ha⟩
 have hk03:=hr.keep.trans hk3
 by_cases hlt2:t<N
 rotate_left
 ·obtain rfl:t=N:=by omega
  obtain⟨sX,capX,rfl,hfX,oX,lX,gX,ltX⟩:=ha.pos (by omega)
  have hxl:(tbR t (tbM O P C) i).length=t:=by simp [tbR]
  simp only [pwA,seval,-iQ0,hlt2];have key:=fun K k=>RowsI.push (K:=K) (t:=sX) (h:=h3) (cap:=capX) (x:=tbR t (tbM O P C) i) hr hk3 gX ltX oX (by rw [hxl];exact hfX) (by omega) k
  rw [hxl]at key
  refine key _ fun v' h4 r4 k4 l4=>?_
  simp only [pwA,seval,-iQ0,wi];refine⟨_,by omega,i+1,v',_,by omega,rfl,rfl,r4,?_⟩
  rw [List.map_append,hv,List.range_succ,List.map_append]
  rfl
 have wt:IntKind.i64.wrap ((t:Int)+1)=((t+1:Nat):Int):=wrapS (show t<1000 by omega) (by omega)
 obtain⟨w2,a2,h2⟩:=hrE.rowI (k:=t) (by rw [hel];exact hlt2)
 rw [zKI (by omega)]at h2
 have up:∀{z:List Int},gS O z→TT O (O.length-O.length) z:=fun h=>by rw [Nat.sub_self];exact h
 simp only [pwA,seval,-iQ0,hlt2,h2];refine Ql s F (hs.keep hk03) hR (up (hS i)) (up (hS t)) f1 ⟨w2,a2,rfl⟩ fun v3 f3=>?_
 have hmu:gS O (gm O P C (el O i) (el O t)):=F.g.cl (hS i) (hS t);simp only [pwA,seval,-iQ0];refine zK1 s (hs.keep hk03) hR.O hmu f3 ?_;rw [zJ2 g (by omega) (by omega)]
 simp only [pwA,seval,-iQ0];refine PAcc.push (bytes:=8) (σb:=h') hk3 ha (by omega) (by omega) fun v' h4 k4 a4=>?_
 simp only [pwA,seval,-iQ0,wt];refine⟨_,by omega,t+1,v',by omega,rfl,rfl,k4,?_⟩
 have e:pis ((List.range (t+1)).map fun b=>((tbM O P C i b:Nat):Int))=pis ((List.range t).map fun b=>((tbM O P C i b:Nat):Int))++[.int .i64 ((tbM O P C i t:Nat):Int)]:=by
  rw [List.range_succ,List.map_append,←Qd];rfl
 rw [e];exact a4.acc
theorem zBt (g:LG O P C) (hs:PtrG σ sp vO vP vC) (hR:IsPr vO vP vC O P C) (hb:nEl O≤32) (hk:∀v,FII v (tabL (nEl O) (tbM O P C))→K v σ):zA Tryz.prog 145 [.ptr sp 0] σ K:=
 zA.notop (p:=fun v _=>FII v (tabL (nEl O) (tbM O P C))) (fun K' k'=>zB4 g hs hR hb fun v t hv ht=>k' v t (hv.bel _) hv ht) fun v t hv=>hk v hv
set_option maxHeartbeats 1600000 in
theorem zK4 (g:LG O P C) (hR:IsPr vO vP vC O P C) (hb:nEl O≤32) (hk:∀v t,FII v (tabL (nEl O) (tbM O P C))→σ.top≤t→K v (σ.up t)):zA Tryz.prog 184 [.agg [vO,vP,vC]] σ K:=by
 have s:=g.s;have F:=g.F;have hn6:=s.le;obtain⟨hN,hN1⟩:=QM s;have hS:=Qa (O:=O) s;have g0:=hR.O.one;have g1:=hR.P.one;have g2:=hR.C.one;obtain⟨N,eN⟩:∃N,N=nEl O:=⟨_,rfl⟩
 refine zA.gh ?_;refine zB mix Tryz.func184 ?_;simp only [pwA,seval,-iQ0,g0,g1,g2];have hb0:(σ.new [vO,vP,vC]).obj σ.next=some [vO,vP,vC]:=by simp only [pwA,seval,-iQ0]
 have hnl:σ.next<(σ.new [vO,vP,vC]).next:=Nat.lt_succ_self _;have hg0:Keep σ (σ.new [vO,vP,vC]):=zC _ _;have hnx:(σ.new [vO,vP,vC]).next=σ.next+1:=rfl;rw [←hnx];generalize σ.new [vO,vP,vC]=H0 at *
 have e3:∀{g:PHeap},Keep H0 g→g.rd σ.next 0 3=some [vO,vP,vC]:=fun k=>by rw [ZB ((k.obj _ hnl).trans hb0)];rfl
 rw [←eN]at hb hN1 hN hk
 refine zD (fun m vs h'=>∃(i:Nat) (vL:PV) (rows:List SR),i≤N∧m=N-i∧vs=[.ptr σ.next 0,vL,.int .i64 i]∧RowsI H0 h' vL rows∧rows.map SR.x=(List.range i).map (tbR N (tbM O P C))) N ⟨0,_,[],by omega,rfl,rfl,RowsI.new H0,rfl⟩ ?_
 rintro m vs h' ⟨i,vL,rows,hi,rfl,rfl,hr,hv⟩
 have hrl:rows.length=i:=by have:=congrArg List.length hv;simpa using this
 simp only [pwA,seval,-iQ0,e3 hr.keep,g0,g1,g2];refine QH s hR ?_;rw [hN]
 by_cases hlt:i<N
 rotate_left
 ·obtain rfl:i=N:=by omega
  simp only [pwA,seval,-iQ0,hlt];exact RowsI.finU hr hg0 fun z t hz _ ht=>hk z t (by rw [hv]at hz;exact hz) ht
 have hlt':(i:Int)<(N:Int):=by omega
 have wi:IntKind.i64.wrap ((i:Int)+1)=((i+1:Nat):Int):=wrapS (show i<1000 by omega) (by omega)
 simp only [pwA,seval,-iQ0,hlt,hlt'];refine zD (fun m vs h3=>∃(t:Nat) (vX:PV),t≤N∧m=N-t∧vs=[.ptr σ.next 0,vL,.int .i64 i,vX,.int .i64 t]∧Keep h' h3∧PAcc h'.next 1 h3 vX t (pis ((List.range t).map fun b=>((tbM O P C i b:Nat):Int)))) N ⟨0,_,by omega,rfl,rfl,zC _ _,(PSl.new _ 1 rfl (Nat.le_refl _)).acc⟩ ?_
 rintro m vs h3 ⟨t,vX,ht,rfl,rfl,hk3,ha⟩
 have hk03:Keep H0 h3:=hr.keep.trans hk3;simp only [pwA,seval,-iQ0,e3 hk03,g0,g1,g2];refine QH s hR ?_;rw [hN]
 by_cases hlt2:t<N
 rotate_left
 ·obtain rfl:t=N:=by omega
  obtain⟨sX,capX,rfl,hfX,oX,lX,gX,ltX⟩:=ha.pos (by omega)
  have hxl:(tbR t (tbM O P C) i).length=t:=by simp [tbR]
  simp only [pwA,seval,-iQ0,hlt2];have key:=fun K k=>RowsI.push (K:=K) (t:=sX) (h:=h3) (cap:=capX) (x:=tbR t (tbM O P C) i) hr hk3 gX ltX oX (by rw [hxl];exact hfX) (by omega) k
  rw [hxl]at key
  refine key _ fun v' h4 r4 k4 l4=>?_
  simp only [pwA,seval,-iQ0,wi];refine⟨_,by omega,i+1,v',_,by omega,rfl,rfl,r4,?_⟩
  rw [List.map_append,hv,List.range_succ,List.map_append]
  rfl
 have hlt2':(t:Int)<(N:Int):=by omega
 have wt:IntKind.i64.wrap ((t:Int)+1)=((t+1:Nat):Int):=wrapS (show t<1000 by omega) (by omega)
 simp only [pwA,seval,-iQ0,hlt2,hlt2',e3 hk03,g0,g1,g2];refine zDr s hR (by omega) fun v1 f1=>?_
 have q1:=f1.one;simp only [pwA,seval,-iQ0,e3 hk03,g0,g1,g2,q1];refine zDr s hR (by omega) fun v2 f2=>?_
 have q2:=f2.one;simp only [pwA,seval,-iQ0,e3 hk03,g0,g1,g2,q1,q2];refine Zn s hR (hS i) (hS t) f1 f2 fun v3 f3=>?_
 have q3:=f3.one;have hmu:gS O (gm O P C (el O i) (el O t)):=F.g.cl (hS i) (hS t);simp only [pwA,seval,-iQ0,e3 hk03,g0,g1,g2,q1,q2,q3];refine zBv s hR hmu f3 ?_;rw [zJ2 g (by omega) (by omega)]
 simp only [pwA,seval,-iQ0];refine PAcc.push (bytes:=8) (σb:=h') hk3 ha (by omega) (by omega) fun v' h4 k4 a4=>?_
 simp only [pwA,seval,-iQ0,wt];refine⟨_,by omega,t+1,v',by omega,rfl,rfl,k4,?_⟩
 have e:pis ((List.range (t+1)).map fun b=>((tbM O P C i b:Nat):Int))=pis ((List.range t).map fun b=>((tbM O P C i b:Nat):Int))++[.int .i64 ((tbM O P C i t:Nat):Int)]:=by
  rw [List.range_succ,List.map_append,←Qd];rfl
 rw [e];exact a4.acc
theorem zJa (g:LG O P C) (hR:IsPr vO vP vC O P C) (hb:nEl O≤32) (hk:∀v,FII v (tabL (nEl O) (tbM O P C))→K v σ):zA Tryz.prog 184 [.agg [vO,vP,vC]] σ K:=
 zA.notop (p:=fun v _=>FII v (tabL (nEl O) (tbM O P C))) (fun K' k'=>zK4 g hR hb fun v t hv ht=>k' v t (hv.bel _) hv ht) fun v t hv=>hk v hv
end Go.Proofs
namespace Go.Grp
end Go.Grp
namespace Go.Proofs
open Go.Ab Go.Lie Go.Grp Go.Lat
variable {σ h:PHeap} {K:PV→PHeap→Prop} {N m a b x y i k:Nat} {T:Nat→Nat→Nat} {vT vG:PV} {gens q:List Nat}
abbrev nl (L:List Nat):List Int:=L.map fun(t:Nat)=>(t:Int)
theorem zDF {L:List Nat} {i:Nat} (h:i<L.length):(pis (nl L))[i]? = some (.int .i64 ((L[i]:Nat):Int)):=by
 rw [zL,List.getElem?_map,List.getElem?_eq_getElem h];rfl
theorem zGI (L:List Nat) (y:Nat):pis (nl (L++[y]))=pis (nl L)++[.int .i64 (y:Int)]:=by
 unfold nl;rw [List.map_append,←Qd];rfl
theorem zQw {m y:Nat} (hm:m<2 ^ 32) (hy:y<32) (h:¬m.testBit y=true):m+2 ^ y=m ||| 2 ^ y:=by
 have hy2:(2:Nat) ^ y<2 ^ 32:=Nat.pow_lt_pow_right (by omega) hy
 have p32:(2:Nat) ^ 32=4294967296:=by decide
 have p64:(2:Nat) ^ 64=18446744073709551616:=by decide
 have e:=BitVec.add_eq_or_of_and_eq_zero (w:=64) (BitVec.ofNat 64 m) (BitVec.ofNat 64 (2 ^ y)) (by
  refine BitVec.eq_of_toNat_eq ?_;rw [BitVec.toNat_and,BitVec.toNat_ofNat,BitVec.toNat_ofNat,Nat.mod_eq_of_lt (by omega),Nat.mod_eq_of_lt (by omega)]
  show m &&& 2 ^ y=0;refine Nat.eq_of_testBit_eq fun i=>?_
  rw [Nat.testBit_and,Nat.testBit_two_pow,Nat.zero_testBit]
  by_cases hi:y=i
  ·subst hi
   rw [Bool.eq_false_iff.2 h,Bool.false_and]
  ·simp [hi])
 have e2:=congrArg BitVec.toNat e;rw [BitVec.toNat_add,BitVec.toNat_or,BitVec.toNat_ofNat,BitVec.toNat_ofNat,Nat.mod_eq_of_lt (show m<2 ^ 64 by omega),Nat.mod_eq_of_lt (show 2 ^ y<2 ^ 64 by omega),Nat.mod_eq_of_lt (by omega)]at e2
 exact e2
theorem shr_i (hm:m<2 ^ 32) (ha:a≤64):pbin .shr .other (.int .i64 (m:Int)) (.int .u64 (a:Int))=some (.int .i64 ((m / 2 ^ a:Nat):Int)):=by
 have e:ZY .shr .i64 (m:Int) (a:Int)=some (.int .i64 ((m / 2 ^ a:Nat):Int)):=by
  unfold ZY;rw [if_neg (by omega)]
  simp only [Int.toNat_natCast,show IntKind.i64.bits=64 from rfl,Nat.min_eq_left ha]
  congr 2
  rw [Int.fdiv_eq_ediv_of_nonneg _ (by exact_mod_cast Nat.zero_le _)]
  exact_mod_cast rfl
 show(ZY .shr .i64 (m:Int) (a:Int)).map ofAV=_
 rw [e];rfl
theorem zGC (m a:Nat):((m / 2 ^ a:Nat):Int).tmod 2=bt m a:=by
 rw [←zKJ];exact_mod_cast rfl
theorem wrapI {c:Nat} (hc:c<2 ^ 32):IntKind.i64.wrap (c:Int)=(c:Int):=by
 have p32:(2:Nat) ^ 32=4294967296:=by decide
 exact wrap64 (by omega) (by omega)
theorem shl_i (hx:x<32):pbin .shl .other (.int .i64 1) (.int .u64 (x:Int))=some (.int .i64 ((2 ^ x:Nat):Int)):=by
 have e:ZY .shl .i64 1 (x:Int)=some (.int .i64 ((2 ^ x:Nat):Int)):=by
  unfold ZY;rw [if_neg (by omega)]
  simp only [Int.toNat_natCast,show IntKind.i64.bits=64 from rfl,Nat.min_eq_left (show x≤64 by omega)]
  congr 2
  rw [Int.one_mul];have e2:((2:Int) ^ x)=((2 ^ x:Nat):Int):=by exact_mod_cast rfl
  rw [e2];exact wrapI (Nat.pow_lt_pow_right (by omega) hx)
 show(ZY .shl .i64 1 (x:Int)).map ofAV=_
 rw [e];rfl
theorem wrapV {c:Nat} (hc:c≤4294967296):IntKind.u64.wrap (c:Int)=(c:Int):=by
 show(_:Int) % 18446744073709551616=_
 omega
structure SI (N:Nat) (T:Nat→Nat→Nat) (gens:List Nat) (m:Nat) (q:List Nat) (Q:Nat→Nat→Prop):Prop where
 lt:m<2 ^ N
 bit:∀i,m.testBit i=true↔i∈q
 nd:q.Nodup
 cl:∀y∈q,Cl T (fun j=>j∈gens) y
 zero:0∈q
 pr:∀j g y z,Q j g→q[j]? = some y→gens[g]? = some z→T y z∈q
theorem SI.len {Q:Nat→Nat→Prop} (h:SI N T gens m q Q):q.length≤N:=zDE _ _ h.nd fun y hy=>Zt h.lt ((h.bit y).2 hy)
theorem SI.imp {Q Q':Nat→Nat→Prop} (h:SI N T gens m q Q) (hq:∀j g,j<q.length→g<gens.length→Q' j g→Q j g):SI N T gens m q Q':=
 ⟨h.lt,h.bit,h.nd,h.cl,h.zero,fun j g y z hQ h1 h2=>h.pr j g y z (hq j g (List.getElem?_eq_some_iff.1 h1).1 (List.getElem?_eq_some_iff.1 h2).1 hQ) h1 h2⟩
theorem SI.old {Q Q':Nat→Nat→Prop} (h:SI N T gens m q Q) {j g:Nat} (hj:j<q.length) (hg:g<gens.length) (hin:T q[j] gens[g]∈q) (hq:∀j' g',Q' j' g'→Q j' g'∨(j'=j∧g'=g)):SI N T gens m q Q':=
 ⟨h.lt,h.bit,h.nd,h.cl,h.zero,fun j' g' y z hQ h1 h2=>by
  rcases hq j' g' hQ with hQ|⟨rfl,rfl⟩
  ·exact h.pr j' g' y z hQ h1 h2
  ·rw [List.getElem?_eq_getElem hj]at h1
   rw [List.getElem?_eq_getElem hg]at h2
   cases h1;cases h2;exact hin⟩
theorem SI.new (t:Tb N T) {Q Q':Nat→Nat→Prop} (hg0:∀g∈gens,g<N) (h:SI N T gens m q Q) {j g:Nat} (hj:j<q.length) (hg:g<gens.length) (hin:T q[j] gens[g]∉q) (hQ0:∀j' g',Q' j' g'→j'<q.length) (hq:∀j' g',Q' j' g'→Q j' g'∨(j'=j∧g'=g)):
  SI N T gens (m ||| 2 ^ T q[j] gens[g]) (q++[T q[j] gens[g]]) Q':=by
 have aN:=Zt h.lt ((h.bit _).2 (List.getElem_mem hj));have bN:=hg0 _ (List.getElem_mem hg);refine⟨Nat.or_lt_two_pow h.lt (Nat.pow_lt_pow_right (by omega) (t.lt aN bN)),fun i=>?_,List.nodup_append.2 ⟨h.nd,by simp,fun a ha b hb=>?_⟩,fun y hy=>?_,List.mem_append_left _ h.zero,fun j' g' y z hQ h1 h2=>?_⟩
 ·rw [or_bit,h.bit,List.mem_append,List.mem_singleton]
 ·simp only [List.mem_singleton]at hb
  subst hb;exact fun e=>hin (e ▸ ha)
 ·simp only [List.mem_append,List.mem_singleton]at hy
  rcases hy with hy|rfl
  ·exact h.cl y hy
  ·exact .mul (h.cl _ (List.getElem_mem hj)) (List.getElem_mem hg)
 ·rw [List.getElem?_append_left (hQ0 _ _ hQ)]at h1
  rcases hq j' g' hQ with hQ|⟨rfl,rfl⟩
  ·exact List.mem_append_left _ (h.pr j' g' y z hQ h1 h2)
  ·rw [List.getElem?_eq_getElem hj]at h1
   rw [List.getElem?_eq_getElem hg]at h2
   cases h1;cases h2
   simp
theorem SI.done {Q:Nat→Nat→Prop} (h:SI N T gens m q Q) (hQ:∀j g,j<q.length→g<gens.length→Q j g):GenM N T (fun j=>j∈gens) m:=by
 refine⟨h.lt,fun i=>⟨fun hi=>h.cl i ((h.bit i).1 hi),fun hi=>(h.bit i).2 ?_⟩⟩
 induction hi with
 | one=>exact h.zero
 | mul h1 h2 ih=>
  obtain⟨j,hj⟩:=List.mem_iff_getElem?.1 ih;obtain⟨g,hg⟩:=List.mem_iff_getElem?.1 h2;exact h.pr j g _ _ (hQ j g (List.getElem?_eq_some_iff.1 hj).1 (List.getElem?_eq_some_iff.1 hg).1) hj hg
set_option maxHeartbeats 1600000 in
theorem zK5 (t:Tb N T) (hN:N≤32) (hT:FII vT (tabL N T)) (hG:FI vG (nl gens)) (hg:∀g∈gens,g<N) (hgl:gens.length≤4611686018427387903) (hk:∀m,GenM N T (fun j=>j∈gens) m→K (.int .i64 (m:Int)) σ):
  zA Tryz.prog 185 [vT,vG] σ K:=by
 obtain⟨wT,aT,rows,rfl,hrows⟩:=hT;obtain⟨wG,aG,rfl⟩:=hG;rw [zBC];have hnl:(nl gens).length=gens.length:=by simp
 rw [hnl];have p32:∀{m':Nat},m'<2 ^ N→m'<2 ^ 32:=fun h=>Nat.lt_of_lt_of_le h (Nat.pow_le_pow_right (by omega) hN)
 have c32:(2:Nat) ^ 32=4294967296:=by decide
 have h1b:∀i,Nat.testBit 1 i=true↔i=0:=fun i=>by simp [Nat.testBit_one_eq_true_iff_self_eq_zero]
 refine zA.gh ?_;refine zB mix Tryz.func185 ?_;simp only [pwA,seval,-iQ0];refine zD (fun r vs h'=>∃(k m:Nat) (q:List Nat) (vq:PV),k≤q.length∧r=N-k∧vs=[.fz wT aT N rows,.fz wG aG gens.length (pis (nl gens)),.int .i64 (m:Int),vq,.int .i64 k]∧Keep σ h'∧PSl σ.next 1 h' vq q.length (pis (nl q))∧SI N T gens m q (fun j _=>j<k)) N ?_ ?_
 ·refine⟨0,1,[0],_,by simp,rfl,rfl,zC _ _,PSl.new _ 1 rfl (Nat.le_refl _),Nat.one_lt_two_pow (by have:=t.pos;omega),fun i=>by rw [h1b,List.mem_singleton],by simp,fun y hy=>?_,by simp,fun j g y z hj=>absurd hj (by omega)⟩
  simp only [List.mem_singleton]at hy
  subst hy;exact .one
 rintro r vs h' ⟨k,m,q,vq,hkq,rfl,rfl,kh,hq,hS⟩
 have hql:=hS.len;have pl:=hq.pLen
 by_cases hlt:k<q.length
 rotate_left
 ·simp only [pwA,seval,-iQ0,pl,hlt]
  exact Gh.fin0 kh trivial (hk m (hS.done fun j g hj _=>by omega))
 have hlt':(k:Int)<(q.length:Int):=by omega
 have wk:IntKind.i64.wrap ((k:Int)+1)=((k+1:Nat):Int):=wrapS (show k<1000 by omega) (by omega)
 simp only [pwA,seval,-iQ0,pl,hlt,hlt'];refine zD (fun r vs h3=>∃(g m:Nat) (q:List Nat) (vq:PV),g≤gens.length∧k<q.length∧r=gens.length-g∧vs=[.fz wT aT N rows,.fz wG aG gens.length (pis (nl gens)),.int .i64 (m:Int),vq,.int .i64 k,.int .i64 g]∧Keep σ h3∧PSl σ.next 1 h3 vq q.length (pis (nl q))∧SI N T gens m q (fun j g'=>j<k∨(j=k∧g'<g))) gens.length ?_ ?_
 ·exact⟨0,m,q,vq,by omega,hlt,rfl,rfl,kh,hq,hS.imp fun j g' _ _ h=>by omega⟩
 clear hS hq pl hql hlt hlt' hkq kh
 rintro r vs h3 ⟨g,m,q,vq,hgl',hkq,rfl,rfl,kh,hq,hS⟩
 have hql:=hS.len
 by_cases hlt:g<gens.length
 rotate_left
 ·simp only [pwA,seval,-iQ0,hlt,wk]
  exact⟨_,by omega,k+1,m,q,vq,by omega,rfl,rfl,kh,hq,hS.imp fun j g' _ _ h=>by omega⟩
 have hlt':(g:Int)<(gens.length:Int):=by omega
 have wg:IntKind.i64.wrap ((g:Int)+1)=((g+1:Nat):Int):=wrapS (show g<4611686018427387904 by omega) (by omega)
 have hq0:=hq;obtain⟨sq,cq,rfl,fq,oq,lq,bq,nq⟩:=hq;have aN:=Zt hS.lt ((hS.bit _).2 (List.getElem_mem hkq));have bN:=hg _ (List.getElem_mem hlt);have hkI:=inb hkq;have r1:h3.rd1 sq k=some (.int .i64 ((q[k]:Nat):Int)):=by rw [zF oq];exact zDF hkq
 have gg:=zDF hlt;obtain⟨wr,ar,hr⟩:=zHb hrows aN;have hrb:=zJ3 (T:=T) (a:=q[k]) bN;have tN:=t.lt aN bN;have aI:((q[k]:Nat):Int)<(N:Int):=by omega
 have bI:((gens[g]:Nat):Int)<(N:Int):=by omega
 have b32:=p32 hS.lt;obtain⟨y,ey⟩:∃y,y=T q[k] gens[g]:=⟨_,rfl⟩
 rw [←ey]at hrb tN
 have wy:=wrapV (c:=y) (by omega)
 have s1:=shr_i b32 (a:=y) (by omega)
 have s2:=zGC m y
 by_cases hb:m.testBit y=true
 ·have e1:bt m y=1:=if_pos hb
  rw [e1]at s2
  simp only [pwA,seval,-iQ0,hlt,hlt',hkI,r1,gg,hr,hrb,aI,bI,aN,bN,wy,s1,s2,wg];exact⟨_,by omega,g+1,m,q,_,by omega,hkq,rfl,rfl,kh,hq0,hS.old hkq hlt (by rw [←ey];exact(hS.bit y).1 hb) fun j g' h=>by omega⟩
 ·have e0:bt m y=0:=if_neg hb
  rw [e0]at s2
  have s3:=shl_i (x:=y) (by omega)
  have ab:=zQw b32 (by omega) hb
  have hor:m ||| 2 ^ y<2 ^ 32:=Nat.or_lt_two_pow b32 (Nat.pow_lt_pow_right (by omega) (by omega))
  have wa:IntKind.i64.wrap ((m:Int)+((2 ^ y:Nat):Int))=((m ||| 2 ^ y:Nat):Int):=by
   rw [←ab];rw [←ab]at hor
   rw [←Int.natCast_add];exact wrap64 (by omega) (by omega)
  simp only [pwA,seval,-iQ0,hlt,hlt',hkI,r1,gg,hr,hrb,aI,bI,aN,bN,wy,s1,s2,s3,wa,wg];refine PSl.push (σb:=σ) (bytes:=8) kh hq0 (by omega) (by omega) fun v' h4 k4 a4=>?_
  simp only [pwA,seval,-iQ0,wg];have hn:T q[k] gens[g]∉q:=by rw [←ey];exact fun h=>hb ((hS.bit y).2 h)
  have hS':=hS.new t hg hkq hlt hn (Q':=fun j g'=>j<k∨(j=k∧g'<g+1)) (fun j g' h=>by omega) fun j g' h=>by omega
  rw [←ey]at hS'
  refine⟨_,by omega,g+1,m ||| 2 ^ y,q++[y],v',by omega,by rw [List.length_append];omega,rfl,rfl,k4,?_,hS'⟩
  rw [zGI,List.length_append];exact a4
end Go.Proofs
namespace Go.Grp
end Go.Grp
namespace Go.Proofs
open Go.Ab Go.Lie Go.Grp Go.Lat
variable {σ h:PHeap} {K:PV→PHeap→Prop} {O x y:List Int} {P:List (List Int)} {C:List (List (List Int))} {vO vP vC:PV} {sp N a b m t d:Nat}
def tlN (m t:Nat):List Nat:=(List.range t).filter fun j=>decide (0<j) && m.testBit j
theorem zHZ (m t:Nat):tlN m (t+1)=tlN m t++if 0<t∧m.testBit t=true then [t]else []:=by
 unfold tlN;rw [List.range_succ,List.filter_append]
 congr 1
 by_cases h:0<t∧m.testBit t=true
 ·rw [if_pos h];simp [h.1,h.2]
 ·rw [if_neg h]
  simp only [List.filter_cons,List.filter_nil];rw [if_neg]
  simpa using h
theorem zA5 {j:Nat}:j∈tlN m t↔j<t∧0<j∧m.testBit j=true:=by
 unfold tlN;rw [List.mem_filter,List.mem_range];simp only [Bool.and_eq_true,decide_eq_true_eq]
def dB (O:List Int) (L:List Nat) (d:Nat):Bool:=L.any fun j=>dep (el O j) == d
def dpL (O:List Int) (L:List Nat):List PV:=(List.range O.length).map fun d=>.bool (dB O L d)
theorem zRw {L:List Nat}:dB O L d=true↔∃j∈L,dep (el O j)=d:=by
 unfold dB;rw [List.any_eq_true];simp only [beq_iff_eq]
theorem zDy {L:List Nat} (hd:d<O.length):(dpL O L)[d]? = some (.bool (dB O L d)):=by
 unfold dpL;rw [List.getElem?_map,List.getElem?_range hd];rfl
theorem zCD (O:List Int) (L:List Nat):(dpL O L).length=O.length:=by simp [dpL]
theorem zQr (O:List Int):dpL O []=List.replicate O.length (.bool false):=by
 refine List.ext_getElem? fun d=>?_
 rcases Nat.lt_or_ge d O.length with h|h
 ·rw [zDy h,List.getElem?_replicate,if_pos h];rfl
 ·rw [List.getElem?_eq_none (by rw [zCD];exact h),List.getElem?_eq_none (by simpa using h)]
theorem zQq (O:List Int) (L:List Nat) (j:Nat):(dpL O L).set (dep (el O j)) (.bool true)=dpL O (L++[j]):=by
 refine List.ext_getElem? fun d=>?_
 rcases Nat.lt_or_ge d O.length with h|h
 ·rw [zDy h,List.getElem?_set,zDy h,zCD]
  have e:dB O (L++[j]) d=(dB O L d || (dep (el O j) == d)):=by
   unfold dB;rw [List.any_append];simp
  by_cases c:dep (el O j)=d
  ·rw [if_pos c,if_pos (by omega),e,c];simp
  ·rw [if_neg c,e,show(dep (el O j) == d)=false by simpa using c,Bool.or_false]
 ·rw [List.getElem?_eq_none (by rw [List.length_set,zCD];exact h),List.getElem?_eq_none (by rw [zCD];exact h)]
theorem zRv (s:Shp O P C) (ht:t<nEl O) (h0:0<t):dep (el O t)<O.length:=by
 rcases Nat.lt_or_ge (dep (el O t)) O.length with h|h
 ·exact h
 ·have e:=Zz (Qa s t) h
  have:=nu_el s ht
  rw [show el O t=zv O from e,nu_zv]at this
  omega
def fitB (O:List Int) (L:List Nat) (d:Nat) (x:List Int) (e:Nat):Bool:=(dep x == d && at_ x d == 1) && (List.range e).all fun e'=>!(decide (d<e')) || (!(dB O L e') || at_ x e' == 0)
theorem zM9 {L:List Nat} {e:Nat}:fitB O L d x (e+1)=(fitB O L d x e && (!(decide (d<e)) || (!(dB O L e) || at_ x e == 0))):=by
 unfold fitB;rw [List.range_succ,List.all_append];simp [Bool.and_assoc]
theorem zIX (s:Shp O P C) (hm:m<2 ^ nEl O) (hd:d<O.length) (ht:t∈tlN m (nEl O)):fitB O (tlN m (nEl O)) d (el O t) O.length=true↔Fit O (HM O m) d (el O t):=by
 obtain⟨h1,h2,h3⟩:=zA5.1 ht;have hD:∀{e},e<O.length→(dB O (tlN m (nEl O)) e=true↔Dp O (HM O m) e):=fun {e} he=>by
  rw [zRw];constructor
  ·rintro ⟨j,hj,rfl⟩
   obtain⟨j1,j2,j3⟩:=zA5.1 hj;exact⟨he,el O j,⟨Qa s j,by rw [nu_el s j1];exact j3⟩,rfl⟩
  ·rintro ⟨_,y,hy,rfl⟩
   refine⟨nu O y,zA5.2 ⟨nu_lt s hy.1,?_,hy.2⟩,by rw [el_nu s hy.1]⟩
   rcases Nat.eq_zero_or_pos (nu O y)with q|q
   ·have e2:=el_nu s hy.1
    rw [q,zDx s]at e2
    rw [←e2,zFC s]at he
    omega
   ·exact q
 unfold fitB Fit;simp only [Bool.and_eq_true,beq_iff_eq,List.all_eq_true,List.mem_range,Bool.or_eq_true,Bool.not_eq_true',decide_eq_false_iff_not];constructor
 ·rintro ⟨⟨q1,q2⟩,q3⟩
  refine⟨⟨Qa s t,by rw [nu_el s h1];exact h3⟩,q1,q2,fun e he hDp=>?_⟩
  rcases q3 e hDp.1 with q|q|q
  ·exact absurd he q
  ·rw [(hD hDp.1).2 hDp]at q;cases q
  ·exact q
 ·rintro ⟨q0,q1,q2,q3⟩
  refine⟨⟨q1,q2⟩,fun e he=>?_⟩
  by_cases c:d<e
  ·right
   by_cases c2:dB O (tlN m (nEl O)) e=true
   ·exact .inr (q3 e c ((hD he).1 c2))
   ·exact .inl (Bool.eq_false_iff.2 c2)
  ·exact .inl c
theorem zLo (s:Shp O P C) (hm:m<2 ^ nEl O):seqM O m=(List.range O.length).flatMap fun d=>((tlN m (nEl O)).map (el O)).filter fun x=>fitB O (tlN m (nEl O)) d x O.length:=by
 unfold seqM;rw [List.flatMap_def,List.flatMap_def]
 congr 1
 refine List.map_congr_left fun d hd=>?_
 have hd':=List.mem_range.1 hd;rw [List.filter_map,List.filter_map]
 congr 1
 have e:tlN m (nEl O)=(List.range (nEl O)).filter fun j=>decide (0<j) && m.testBit j:=rfl
 conv=>rhs;rw [e,List.filter_filter]
 refine List.filter_congr fun t ht=>?_
 have ht':=List.mem_range.1 ht;rw [Bool.eq_iff_iff];simp only [Function.comp,Bool.and_eq_true,decide_eq_true_eq];constructor
 ·intro hf
  have h3:m.testBit t=true:=by have:=hf.1.2;rwa [nu_el s ht']at this
  have h2:0<t:=by
   rcases Nat.eq_zero_or_pos t with q|q
   ·have:=hf.2.1
    rw [q,zDx s,zFC s]at this
    omega
   ·exact q
  rw [←e];exact⟨(zIX s hm hd' (zA5.2 ⟨ht',h2,h3⟩)).2 hf,h2,h3⟩
 ·rintro ⟨hf,h2,h3⟩
  rw [←e]at hf
  exact(zIX s hm hd' (zA5.2 ⟨ht',h2,h3⟩)).1 hf
end Go.Proofs
namespace Go.Grp
end Go.Grp
namespace Go.Proofs
open Go.Ab Go.Lie Go.Grp Go.Lat
variable {σ h:PHeap} {K:PV→PHeap→Prop} {O x y:List Int} {P:List (List Int)} {C:List (List (List Int))} {vO vP vC:PV} {sp N a b m t d:Nat}
theorem zDT {L:List Nat}:fitB O L d x (d+1)=(dep x == d && at_ x d == 1):=by
 have e:((List.range (d+1)).all fun e'=>!(decide (d<e')) || (!(dB O L e') || at_ x e' == 0))=true:=by
  rw [List.all_eq_true];intro e' he
  have:=List.mem_range.1 he
  rw [show decide (d<e')=false by simp;omega]
  rfl
 unfold fitB;rw [e,Bool.and_true]
set_option maxHeartbeats 3200000 in
theorem zGM (g:LG O P C) (hR:IsPr vO vP vC O P C) (hb:nEl O≤32) (hm:m<2 ^ nEl O) (hk:∀v,FII v (seqM O m)→K v σ):zA Tryz.prog 187 [.agg [vO,vP,vC],.int .i64 (m:Int)] σ K:=by
 have s:=g.s;have F:=g.F;have hn6:=s.le;have g0:=hR.O.one;have g1:=hR.P.one;have g2:=hR.C.one;obtain⟨hN,hN1⟩:=QM s;have b32:m<2 ^ 32:=Nat.lt_of_lt_of_le hm (Nat.pow_le_pow_right (by omega) hb)
 have hR0:=hR;obtain⟨⟨w0,a0,rfl⟩,_,_⟩:=hR;refine zA.gh ?_;have mk1:((O.length:Nat):Int)*((1:Nat):Int)≤140737488355328:=by omega
 refine zB mix Tryz.func187 ?_;simp only [pwA,seval,-iQ0,g1,g2];generalize hH:σ.new [.fz w0 a0 O.length (pis O),vP,vC]=H1;have kH:Keep σ H1:=by rw [←hH];exact zC _ _
 have nH:H1.next=σ.next+1:=by rw [←hH];rfl
 have oH:H1.obj σ.next=some [.fz w0 a0 O.length (pis O),vP,vC]:=by rw [←hH,zH,if_pos rfl]
 clear hH;have e0:(H1.new []).rd1 σ.next 0=some (.fz w0 a0 O.length (pis O)):=by rw [zF (by rw [zH,if_neg (by omega)];exact oH)];rfl
 simp only [pwA,seval,-iQ0,e0,mk1,mkL (n:=O.length) (by omega)]
 refine zD (fun r vs g=>∃(t:Nat) (vL:PV) (rows:List PV),1≤t∧t≤nEl O∧r=nEl O-t∧vs=[.int .i64 (m:Int),.ptr σ.next 0,vL,.sl (σ.next+2) 0 O.length (.known O.length),.int .i64 t]∧Keep H1 g∧PSl H1.next 1 g vL rows.length rows∧All2 FI rows ((tlN m t).map (el O))∧g.obj (σ.next+2)=some (dpL O (tlN m t))∧(∀off l c,vL≠.sl (σ.next+2) off l c)∧σ.next+2<g.next) (nEl O-1) ?_ ?_
 ·have e1:tlN m 1=[]:=rfl
  refine⟨1,.sl (σ.next+1) 0 0 (.known 0),[],Nat.le_refl _,hN1,rfl,rfl,(zC _ _).new _,by rw [←nH];exact(PSl.new H1.next 1 (h:=H1) (n:=0) (cs:=[]) rfl (Nat.le_refl _)).keep (zC _ _),by rw [e1];exact All2.nil _,?_,fun off l c e=>(by injection e with e2;omega),by show _<H1.next+1+1;omega⟩
  rw [e1,zQr,zH];exact if_pos (by show σ.next+2=H1.next+1;omega)
 rintro r vs g ⟨t,vL,rows,ht1,htN,rfl,rfl,kg,hL,hrows,hD,hne,hlt⟩
 have hrl:=hrows.1;have e3:g.rd σ.next 0 3=some [.fz w0 a0 O.length (pis O),vP,vC]:=by rw [ZB (by rw [kg.obj _ (by omega)];exact oH)];rfl
 have hll:rows.length≤t:=by
  rw [hrl,List.length_map];exact Nat.le_trans (List.length_filter_le _ _) (by simp)
 simp only [pwA,seval,-iQ0,e3,g1,g2];refine QH s hR0 ?_;rw [hN]
 by_cases htn:t<nEl O
 rotate_left
 ·obtain rfl:t=nEl O:=by omega
  simp only [pwA,seval,-iQ0,htn];obtain⟨L,eL⟩:∃L,L=tlN m (nEl O):=⟨_,rfl⟩
  rw [zLo s hm]at hk
  rw [←eL]at hk hrows hD
  have hLl:L.length≤32:=by
   rw [eL];exact Nat.le_trans (List.length_filter_le _ _) (by simp;omega)
  have hLt:∀t∈L,t<nEl O∧0<t:=fun t ht=>by
   rw [eL]at ht
   have:=zA5.1 ht
   exact⟨this.1,this.2.1⟩
  obtain⟨sL,cL,rfl,z1,oL,z3,z4,z5⟩:=hL;have hrl2:rows.length=L.length:=by rw [hrl,List.length_map,eL]
  rw [hrl2]at z1 z3 ⊢
  clear hne;refine zD (fun r vs h=>∃(d:Nat) (vo:PV) (os:List PV),d≤O.length∧r=O.length-d∧vs=[.sl sL 0 L.length cL,.sl (σ.next+2) 0 O.length (.known O.length),vo,.int .i64 d]∧Keep g h∧PSl g.next 1 h vo os.length os∧os.length≤32*d∧All2 FI os ((List.range d).flatMap fun d=>(L.map (el O)).filter fun x=>fitB O L d x O.length)) O.length ?_ ?_
  ·exact⟨0,_,[],by omega,rfl,rfl,zC _ _,PSl.new _ 1 rfl (Nat.le_refl _),by simp,by simpa using All2.nil _⟩
  rintro r vs h ⟨d,vo,os,hd,rfl,rfl,kh,ho,hol,hos⟩
  by_cases hdn:d<O.length
  rotate_left
  ·obtain rfl:d=O.length:=by omega
   simp only [pwA,seval,-iQ0,hdn];exact PAcc.fin (kg.trans kh |> kH.trans) (ho.acc.low (by omega)) (hos.bI 0) fun a=>hk _ ⟨true,a,os,by rw [hos.1],hos⟩
  have wd:IntKind.i64.wrap ((d:Int)+1)=((d+1:Nat):Int):=wrapS (show d<1000 by omega) (by omega)
  simp only [pwA,seval,-iQ0,hdn];refine zD (fun r vs h=>∃(k:Nat) (vo:PV) (os:List PV),k≤L.length∧r=L.length-k∧vs=[.sl sL 0 L.length cL,.sl (σ.next+2) 0 O.length (.known O.length),vo,.int .i64 d,.int .i64 k]∧Keep g h∧PSl g.next 1 h vo os.length os∧os.length≤32*d+k∧All2 FI os (((List.range d).flatMap fun d=>(L.map (el O)).filter fun x=>fitB O L d x O.length)++((L.take k).map (el O)).filter fun x=>fitB O L d x O.length)) L.length ?_ ?_
  ·exact⟨0,vo,os,by omega,rfl,rfl,kh,ho,by omega,by simpa using hos⟩
  clear kh ho hos hol
  rintro r vs h ⟨k,vo,os,hkL,rfl,rfl,kh,ho,hol,hos⟩
  by_cases hkn:k<L.length
  rotate_left
  ·obtain rfl:k=L.length:=by omega
   simp only [pwA,seval,-iQ0,hkn,wd];refine⟨_,by omega,d+1,vo,os,by omega,rfl,rfl,kh,ho,by omega,?_⟩
   rw [List.range_succ,List.flatMap_append];rw [List.take_length]at hos
   simpa using hos
  have wk:IntKind.i64.wrap ((k:Int)+1)=((k+1:Nat):Int):=wrapS (show k<1000 by omega) (by omega)
  have hkI:=inb hkn;obtain⟨tN,tp⟩:=hLt _ (List.getElem_mem hkn);obtain⟨w3,a3,h3⟩:=hrows.rowI (k:=k) (by rw [List.length_map];exact hkn)
  rw [List.getElem_map]at h3
  obtain⟨x,ex⟩:∃x,x=el O L[k]:=⟨_,rfl⟩
  rw [←ex]at h3
  have hxl:x.length=O.length:=by rw [ex];exact Zl _ _ _
  have fx:FI (.fz w3 a3 x.length (pis x)) x:=⟨w3,a3,rfl⟩;have r1:h.rd1 sL k=some (.fz w3 a3 x.length (pis x)):=by rw [zF (by rw [kh.obj _ z5];exact oL)];exact h3
  have etk:((L.take (k+1)).map (el O)).filter (fun x=>fitB O L d x O.length)=((L.take k).map (el O)).filter (fun x=>fitB O L d x O.length)++if fitB O L d x O.length=true then [x]else []:=by
   rw [List.take_succ_eq_append_getElem hkn,List.map_append,List.filter_append,List.map_singleton,←ex]
   congr 1
   rw [List.filter_cons,List.filter_nil]
  have hdx:d<x.length:=by omega
  have gx:(pis x)[d]? = some (.int .i64 (at_ x d)):=by rw [zL,gi hdx,at_eq hdx];rfl
  have hdI:(d:Int)<(x.length:Int):=by omega
  simp only [pwA,seval,-iQ0,hkn,hkI,r1];refine Qo (x:=x) rfl (by omega) ?_
  by_cases c1:dep x=d
  case' neg=>
   have c1i:¬((dep x:Nat):Int)=(d:Int):=by omega
   have hbase:fitB O L d x (d+1)=false:=by rw [zDT,show(dep x == d)=false by simpa using c1];rfl
   simp only [pwA,seval,-iQ0,c1,c1i,wd]
  case' pos=>
   have c1i:((dep x:Nat):Int)=(d:Int):=by omega
   by_cases c2:at_ x d=1
   case' neg=>
    have hbase:fitB O L d x (d+1)=false:=by rw [zDT,show(at_ x d == 1)=false by simpa using c2,Bool.and_false]
    simp only [pwA,seval,-iQ0,c1,c1i,hdx,hdI,gx,c2,wd]
   case' pos=>
    have hbase:fitB O L d x (d+1)=true:=by rw [zDT,c1,c2];simp
    simp only [pwA,seval,-iQ0,c1,c1i,hdx,hdI,gx,c2,wd]
  all_goals
   refine zD (fun r vs h'=>∃e:Nat,d+1≤e∧e≤O.length∧r=O.length-e∧vs=[.sl sL 0 L.length cL,.sl (σ.next+2) 0 O.length (.known O.length),vo,.int .i64 d,.int .i64 k,.fz w3 a3 x.length (pis x),.bool (fitB O L d x e),.int .i64 e]∧h'=h) (O.length-(d+1)) ⟨d+1,Nat.le_refl _,by omega,rfl,(by rw [hbase];rfl),rfl⟩ ?_
   rintro r vs h' ⟨e,he1,he2,rfl,rfl,rfl⟩
   by_cases hen:e<O.length
   case' neg=>
    obtain rfl:e=O.length:=by omega
    cases hq:fitB O L d x O.length with
    | false=>
     simp only [pwA,seval,-iQ0,hen,wk];exact⟨_,by omega,k+1,vo,os,by omega,rfl,rfl,kh,ho,by omega,by rw [etk,hq];simpa using hos⟩
    | true=>
     simp only [pwA,seval,-iQ0,hen];refine PSl.push (σb:=g) (bytes:=24) kh ho (by omega) (by omega) fun v' h2 k2 p2=>?_
     simp only [pwA,seval,-iQ0,wk];refine⟨_,by omega,k+1,v',os++[_],by omega,rfl,rfl,k2,by rw [List.length_append];exact p2,by rw [List.length_append];simp;omega,?_⟩
     rw [etk,hq,if_pos rfl,←List.append_assoc];exact hos.snoc fx
   case' pos=>
    have we:IntKind.i64.wrap ((e:Int)+1)=((e+1:Nat):Int):=wrapS (show e<1000 by omega) (by omega)
    have hex:e<x.length:=by omega
    have heI:=inb hen;have heX:(e:Int)<(x.length:Int):=by omega
    have ge:(pis x)[e]? = some (.int .i64 (at_ x e)):=by rw [zL,gi hex,at_eq hex];rfl
    have rD:h'.rd1 (σ.next+2) e=some (.bool (dB O L e)):=by rw [zF (by rw [kh.obj _ hlt];exact hD)];exact zDy hen
    have hsu:=zM9 (O:=O) (L:=L) (d:=d) (x:=x) (e:=e);rw [show decide (d<e)=true by simp;omega]at hsu
    cases hq:fitB O L d x e with
    | false=>
     rw [hq]at hsu
     simp only [pwA,seval,-iQ0,hen,we];exact⟨_,by omega,e+1,by omega,by omega,rfl,by rw [hsu];simp⟩
    | true=>
     cases hB:dB O L e with
     | false=>
      rw [hB]at rD
      rw [hq,hB]at hsu
      simp only [pwA,seval,-iQ0,hen,heI,rD,we];exact⟨_,by omega,e+1,by omega,by omega,rfl,by rw [hsu];simp⟩
     | true=>
      rw [hB]at rD
      rw [hq,hB]at hsu
      by_cases hz:at_ x e=0
      ·rw [hz]at ge
       simp only [pwA,seval,-iQ0,hen,heI,rD,we,hex,heX,ge];exact⟨_,by omega,e+1,by omega,by omega,rfl,by rw [hsu,hz];simp⟩
      ·simp only [pwA,seval,-iQ0,hen,heI,rD,we,hex,heX,ge,hz]
       exact⟨_,by omega,e+1,by omega,by omega,rfl,by rw [hsu,show(at_ x e == 0)=false by simpa using hz];simp⟩
 have htI:(t:Int)<(nEl O:Int):=by omega
 have wt:IntKind.i64.wrap ((t:Int)+1)=((t+1:Nat):Int):=wrapS (show t<1000 by omega) (by omega)
 have wu:=wrapV (c:=t) (by omega)
 have s1:=shr_i b32 (a:=t) (by omega)
 have s2:=zGC m t
 by_cases hbt:m.testBit t=true
 rotate_left
 ·have q:bt m t=0:=if_neg hbt
  rw [q]at s2
  have e1:tlN m (t+1)=tlN m t:=by rw [zHZ,if_neg (fun h=>hbt h.2),List.append_nil]
  simp only [pwA,seval,-iQ0,htn,htI,wu,s1,s2,wt];exact⟨_,by omega,t+1,vL,rows,by omega,by omega,rfl,rfl,kg,hL,by rw [e1];exact hrows,by rw [e1];exact hD,hne,hlt⟩
 have q:bt m t=1:=if_pos hbt;rw [q]at s2
 have e1:tlN m (t+1)=tlN m t++[t]:=by rw [zHZ,if_pos ⟨ht1,hbt⟩]
 simp only [pwA,seval,-iQ0,htn,htI,wu,s1,s2,e3,g1,g2];refine zDr s hR0 (by omega) fun v1 f1=>?_
 have q1:=f1.one;have f10:=f1;obtain⟨w3,a3,rfl⟩:=f1;have hxl:(el O t).length=O.length:=Zl _ _ _;simp only [pwA,seval,-iQ0];refine PAcc.pushS (σb:=H1) (bytes:=24) kg hL.acc rfl (by omega) (by omega) fun v' h2 k2 p2 r1 r2 r3=>?_
 simp only [pwA,seval,-iQ0];refine Qo (x:=el O t) rfl (by rw [hxl];omega) ?_
 have hdl:=zRv s htn ht1;have hdI:=inb hdl;have oD:h2.obj (σ.next+2)=some (dpL O (tlN m t)):=by rw [r1 _ hlt hne];exact hD
 have wD:h2.wr (σ.next+2) (dep (el O t)) [.bool true]=some (h2.set (σ.next+2) (dpL O (tlN m (t+1)))):=by
  rw [Zr oD,e1,←zQq];have hh:dep (el O t)+1≤(dpL O (tlN m t)).length:=by rw [zCD];exact hdl
  rw [if_pos ⟨hh,rfl⟩];exact congrArg (fun z=>some (h2.set (σ.next+2) z)) (zBB hh)
 simp only [pwA,seval,-iQ0,hdI,wD,wt];have hne':∀off l c,v'≠.sl (σ.next+2) off l c:=r2 _ hlt
 refine⟨_,by omega,t+1,v',rows++[_],by omega,by omega,rfl,rfl,k2.set (by omega) _,?_,by rw [e1,List.map_append];exact hrows.snoc f10,rfl,hne',?_⟩
 ·rw [List.length_append]
  obtain⟨sv,cv,rfl,z1,z2,z3,z4,z5⟩:=p2;exact⟨sv,cv,rfl,z1,by rw [zn,if_neg (fun e=>hne' 0 _ cv (by rw [e]))];exact z2,z3,z4,z5⟩
 ·show _<h2.next
  omega
end Go.Proofs
namespace Go.Grp
end Go.Grp
namespace Go.Lat
def lexC:List Int→List Int→Int
 | [],[]=>0
 | [],_::_=>-1
 | _::_,[]=>1
 | a::x,b::y=>if a<b then -1 else if b<a then 1 else lexC x y
theorem zDI:∀x,lexC x x=0
 | []=>rfl
 | a::x=>by rw [lexC,if_neg (by omega),if_neg (by omega)];exact zDI x
theorem zDq:∀{x y:List Int},lexC x y=0→x=y
 | [],[],_=>rfl
 | [],_::_,h=>by simp [lexC]at h
 | _::_,[],h=>by simp [lexC]at h
 | a::x,b::y,h=>by
  rw [lexC]at h
  split at h
  ·omega
  ·split at h
   ·omega
   ·rw [zDq h,show a=b by omega]
theorem zCZ:∀x y:List Int,lexC y x=- lexC x y
 | [],[]=>rfl
 | [],_::_=>rfl
 | _::_,[]=>rfl
 | a::x,b::y=>by
  rw [lexC,lexC]
  by_cases h1:a<b
  ·rw [if_neg (by omega),if_pos h1,if_pos h1];rfl
  ·by_cases h2:b<a
   ·rw [if_pos h2,if_neg h1,if_pos h2]
   ·rw [if_neg h2,if_neg h1,if_neg h1,if_neg h2];exact zCZ x y
theorem zAy:∀{x y z:List Int},lexC x y<0→lexC y z<0→lexC x z<0
 | [],_,[],h1,h2=>by
  rename_i y
  cases y with
  | nil=>simp [lexC]at h1
  | cons b y=>simp [lexC]at h2
 | [],_,_::_,_,_=>by simp [lexC]
 | _::_,[],_,h1,_=>by simp [lexC]at h1
 | a::x,b::y,[],_,h2=>by simp [lexC]at h2
 | a::x,b::y,c::z,h1,h2=>by
  rw [lexC]at h1 h2 ⊢
  by_cases p1:a<b
  ·by_cases q1:b<c
   ·rw [if_pos (by omega)];omega
   ·rw [if_neg q1]at h2
    by_cases q2:c<b
    ·rw [if_pos q2]at h2;omega
    ·rw [if_pos (by omega)];omega
  ·rw [if_neg p1]at h1
   by_cases p2:b<a
   ·rw [if_pos p2]at h1;omega
   ·rw [if_neg p2]at h1
    by_cases q1:b<c
    ·rw [if_pos (by omega)];omega
    ·rw [if_neg q1]at h2
     by_cases q2:c<b
     ·rw [if_pos q2]at h2;omega
     ·rw [if_neg q2]at h2
      rw [if_neg (by omega),if_neg (by omega)]
      exact zAy h1 h2
theorem zEt:∀(i:Nat) {x y:List Int},x.take i=y.take i→i≤x.length→i≤y.length→lexC x y=lexC (x.drop i) (y.drop i)
 | 0,_,_,_,_,_=>rfl
 | i+1,[],_,_,h,_=>by simp at h
 | i+1,_::_,[],_,_,h=>by simp at h
 | i+1,a::x,b::y,h,hx,hy=>by
  simp only [List.take_succ_cons,List.cons.injEq]at h
  simp only [List.length_cons]at hx hy
  rw [lexC,if_neg (by omega),if_neg (by omega)]
  exact zEt i h.2 (by omega) (by omega)
theorem zIW {n:Nat} (hn:0<n):∀{u v:List (List Int)},(∀x∈u,x.length=n)→(∀x∈v,x.length=n)→u.flatten=v.flatten→u=v
 | [],[],_,_,_=>rfl
 | [],b::v,_,hv,h=>by
  have:=congrArg List.length h
  have hb:=hv b (by simp)
  simp only [List.flatten_nil,List.length_nil,List.flatten_cons,List.length_append]at this
  omega
 | a::u,[],hu,_,h=>by
  have:=congrArg List.length h
  have hb:=hu a (by simp)
  simp only [List.flatten_nil,List.length_nil,List.flatten_cons,List.length_append]at this
  omega
 | a::u,b::v,hu,hv,h=>by
  rw [List.flatten_cons,List.flatten_cons]at h
  obtain⟨h1,h2⟩:=List.append_inj h ((hu a (by simp)).trans (hv b (by simp)).symm)
  rw [h1,zIW hn (fun x hx=>hu x (by simp [hx])) (fun x hx=>hv x (by simp [hx])) h2]
end Go.Lat
namespace Go.Proofs
open Go.Ab Go.Lie Go.Grp Go.Lat
variable {σ h:PHeap} {K:PV→PHeap→Prop} {O x y:List Int} {P:List (List Int)} {C:List (List (List Int))} {u v:List (List Int)} {vO vP vC va vb vU vV vx vy:PV} {sp N a b m t d:Nat} {H H':List Int→Prop}
theorem zNP {k l:Int} (hk:K (.int .i64 (lexC [k] [l])) σ):zA Tryz.prog 200 [.int .i64 k,.int .i64 l] σ K:=by
 refine zB mix Tryz.func200 ?_;simp only [pwA,seval,-iQ0];refine zCc ?_;simp only [pwA,seval,-iQ0];refine zCc ?_;rw [lexC]at hk
 by_cases h1:k<l
 ·rw [if_pos h1]at hk
  simp only [pwA,seval,-iQ0,h1];exact hk
 ·rw [if_neg h1]at hk
  by_cases h2:l<k
  ·rw [if_pos h2]at hk
   simp only [pwA,seval,-iQ0,h1,h2];exact hk
  ·rw [if_neg h2]at hk
   simp only [pwA,seval,-iQ0,h1,h2];exact hk
theorem zIE (a b:Int) (x y:List Int):lexC (a::x) (b::y)=if lexC [a] [b]=0 then lexC x y else lexC [a] [b]:=by
 rw [lexC,lexC]
 by_cases h1:a<b
 ·rw [if_pos h1,if_pos h1,if_neg (by decide)]
 ·rw [if_neg h1,if_neg h1]
  by_cases h2:b<a
  ·rw [if_pos h2,if_pos h2,if_neg (by decide)]
  ·rw [if_neg h2,if_neg h2,if_pos (zDI [])]
theorem zRx (ha:FI va x) (hb:FI vb y) (hx:x.length≤1000) (hy:y.length≤1000) (hk:K (.int .i64 (lexC x y)) σ):zA Tryz.prog 201 [va,vb] σ K:=by
 obtain⟨wa,aa,rfl⟩:=ha;obtain⟨wb,ab,rfl⟩:=hb;refine zB mix Tryz.func201 ?_;simp only [pwA,seval,-iQ0];refine zD (fun m vs h'=>∃i:Nat,i≤x.length∧i≤y.length∧x.take i=y.take i∧m=x.length-i∧vs=[.fz wa aa x.length (pis x),.fz wb ab y.length (pis y),.fz wa aa x.length (pis x),.int .i64 x.length,.int .i64 i]∧h'=σ) x.length ?_ ?_
 ·exact⟨0,by omega,by omega,rfl,by omega,rfl,rfl⟩
 rintro m vs h' ⟨i,hi,hiy,hpre,rfl,rfl,rfl⟩
 have hl:=zEt i hpre hi hiy
 by_cases hlt:i<x.length
 ·have wi:IntKind.i64.wrap ((i:Int)+1)=((i+1:Nat):Int):=wrapS hlt (by omega)
  have gx:(pis x)[i]? = some (.int .i64 x[i]):=by rw [zL,List.getElem?_eq_getElem hlt];rfl
  have hiI:=inb hlt
  by_cases hly:i<y.length
  rotate_left
  ·have hge:(y.length:Int)≤(i:Int):=by omega
   have e:lexC x y=1:=by
    rw [hl,List.drop_eq_nil_of_le (show y.length≤i by omega),List.drop_eq_getElem_cons hlt];rfl
   rw [e]at hk
   simp only [pwA,seval,-iQ0,gx,hlt,hiI,hge];exact hk
  have hnge:¬(y.length:Int)≤(i:Int):=by omega
  have gy:(pis y)[i]? = some (.int .i64 y[i]):=by rw [zL,List.getElem?_eq_getElem hly];rfl
  have hjI:=inb hly;rw [List.drop_eq_getElem_cons hlt,List.drop_eq_getElem_cons hly,zIE]at hl
  simp only [pwA,seval,-iQ0,gx,hlt,hiI,hnge,gy,hly,hjI];refine zNP ?_
  by_cases c:lexC [x[i]] [y[i]]=0
  ·have exy:x[i]=y[i]:=by have:=zDq c;simpa using this
   simp only [pwA,seval,-iQ0,c,wi];exact⟨_,by omega,i+1,by omega,by omega,by rw [List.take_succ_eq_append_getElem hlt,List.take_succ_eq_append_getElem hly,hpre,exy],rfl,rfl⟩
  ·rw [hl,if_neg c]at hk
   simp only [pwA,seval,-iQ0,c];exact hk
 ·obtain rfl:i=x.length:=by omega
  rw [List.drop_length]at hl
  by_cases hly:x.length<y.length
  ·have hlyI:(x.length:Int)<(y.length:Int):=by omega
   rw [hl,List.drop_eq_getElem_cons hly]at hk
   simp only [pwA,seval,-iQ0,hlt,hly,hlyI];exact hk
  ·have hlyI:¬(x.length:Int)<(y.length:Int):=by omega
   rw [hl,List.drop_eq_nil_of_le (show y.length≤x.length by omega)]at hk
   simp only [pwA,seval,-iQ0,hlt,hly,hlyI];exact hk
def cfS (O:List Int) (u v:List (List Int)):Int:=lexC (szU O u::u.flatten) (szU O v::v.flatten)
theorem zGa {aa:AV} (s:Shp O P C) (hO:FI vO O) (hU:FII vU u) (hu:CanG O H u) (hul:u.length≤6) (hk:K (.int .i64 (szU O u)) σ):zA Tryz.prog 138 [.fp aa [vO,vP,vC],vU] σ K:=by
 have hn6:=s.le;obtain⟨b1,b2⟩:=ZT s hu;obtain⟨w0,a0,rfl⟩:=hO;refine zB mix Tryz.func138 ?_;simp only [pwA,seval,-iQ0,hU.one];refine QX hU (fun v hv=>by have:=b2 v hv;omega) (by omega) fun o=>?_
 simp only [pwA,seval,-iQ0];have dl:(deps u).length=u.length:=by simp [deps]
 refine zD (fun m vs h=>∃(i:Nat),i≤u.length∧m=u.length-i∧vs=[.fp aa [.fz w0 a0 O.length (pis O),vP,vC],.int .i64 (szU O (u.take i)),.fz true o u.length (pis (deps u)),.int .i64 u.length,.int .i64 i]∧h=σ) u.length ?_ ?_
 ·exact⟨0,Nat.zero_le _,rfl,rfl,rfl⟩
 rintro m vs h ⟨i,hi,rfl,rfl,rfl⟩
 simp only [pwA,seval,-iQ0];refine iteI (fun hlt=>?_) fun hge=>?_
 rotate_left
 ·rw [List.take_of_length_le (by omega)]
  exact hk
 have hlt':(i:Int)<(u.length:Int):=by omega
 have mem:=List.getElem_mem hlt;have hd:=(b2 _ mem).2;have hd':((dep u[i]:Nat):Int)<(O.length:Int):=by omega
 have gd:(pis (deps u))[i]? = some (.int .i64 (dep u[i]:Nat)):=by
  rw [zL,gi (by rw [dl];exact hlt)]
  simp [deps]
 have gO:(pis O)[dep u[i]]? = some (.int .i64 O[dep u[i]]):=by rw [zL,gi hd];rfl
 obtain⟨c1,c2⟩:=Zp b1 i hi;obtain⟨c3,c4⟩:=Zp b1 (i+1) hlt;have p1:=pow7b (show i≤6 by omega)
 have p2:=pow7b (show i+1≤6 by omega)
 have es:szU O (u.take i)*O[dep u[i]]=szU O (u.take (i+1)):=by rw [List.take_succ_eq_append_getElem hlt,zAR,at_eq hd]
 have wm:IntKind.i64.wrap (szU O (u.take (i+1)))=szU O (u.take (i+1)):=wrap64 (by omega) (by omega)
 simp only [pwA,seval,-iQ0,hlt,hlt',gd,hd,hd',gO,es,wm,wrapS hlt (by omega:u.length≤4611686018427387904)]
 exact⟨_,by omega,i+1,by omega,rfl,rfl⟩
theorem zGn {n:Nat}:∀{u:List (List Int)},(∀x∈u,x.length=n)→u.flatten.length=u.length*n
 | [],_=>by simp
 | a::u,h=>by
  rw [List.flatten_cons,List.length_append,zGn fun x hx=>h x (by simp [hx]),h a (by simp),List.length_cons,Nat.add_mul]
  omega
theorem zCe {n:Nat} {u:List (List Int)} (h:∀x∈u,x.length=n) (hu:u.length≤6) (hn:n≤6):u.flatten.length≤36:=by
 rw [zGn h];exact Nat.mul_le_mul hu hn
theorem or_ok {k l:Int} {s:Nat} (hs:σ.obj s=some [.int .i64 k,.int .i64 l]) (hk:K (.int .i64 (if k=0 then l else k)) σ):zA Tryz.prog 199 [.sl s 0 2 (.known 2)] σ K:=by
 have r0:σ.rd1 s 0=some (.int .i64 k):=by rw [zF hs];rfl
 have r1:σ.rd1 s 1=some (.int .i64 l):=by rw [zF hs];rfl
 refine zB mix Tryz.func199 ?_;simp only [pwA,seval,-iQ0];refine zD (fun m vs h'=>∃i:Nat,i≤2∧m=2-i∧vs=[.int .i64 0,.sl s 0 2 (.known 2),.int .i64 2,.int .i64 i]∧h'=σ∧(0<i→k=0)∧(1<i→l=0)) 2 ⟨0,by omega,rfl,rfl,rfl,fun h=>by omega,fun h=>by omega⟩ ?_
 rintro m vs h' ⟨i,hi,rfl,rfl,rfl,h0,h1⟩
 have hi3:i=0∨i=1∨i=2:=by omega
 rcases hi3 with rfl|rfl|rfl
 ·have w1:IntKind.i64.wrap (((0:Nat):Int)+1)=((1:Nat):Int):=by decide
  by_cases hz:k=0
  ·rw [if_pos hz]at hk
   rw [hz]at r0
   simp only [pwA,seval,-iQ0,r0,w1];exact⟨1,by omega,1,by omega,rfl,rfl,fun _=>hz,fun h=>by omega⟩
  ·rw [if_neg hz]at hk
   simp only [pwA,seval,-iQ0,r0,hz];exact hk
 ·have w1:IntKind.i64.wrap (((1:Nat):Int)+1)=((2:Nat):Int):=by decide
  rw [if_pos (h0 (by omega))]at hk
  by_cases hz:l=0
  ·rw [hz]at r1
   simp only [pwA,seval,-iQ0,r1,w1];exact⟨0,by omega,2,by omega,rfl,rfl,fun _=>h0 (by omega),fun _=>hz⟩
  ·simp only [pwA,seval,-iQ0,r1,hz]
   exact hk
 ·rw [if_pos (h0 (by omega)),h1 (by omega)]at hk
  simp only [pwA,seval,-iQ0];exact hk
theorem zCw {aa:AV} (s:Shp O P C) (hO:FI vO O) (hU:FII vU u) (hu:CanG O H u) (hV:FII vV v) (hv:CanG O H' v) (hk:K (.int .i64 (cfS O u v)) σ):zA Tryz.prog 154 [.fp aa [vO,vP,vC],vU,vV] σ K:=by
 have hn6:=s.le;have hul:=hu.len;have hvl:=hv.len;have fu:u.flatten.length≤36:=zCe (fun x hx=>(hu.one x hx).1.len) (by omega) hn6
 have fv:v.flatten.length≤36:=zCe (fun x hx=>(hv.one x hx).1.len) (by omega) hn6
 refine zA.gh ?_;refine zB mix Tryz.func154 ?_;simp only [pwA,seval,-iQ0];refine zGa s hO hU hu (by omega) ?_
 simp only [pwA,seval,-iQ0];refine zGa s hO hV hv (by omega) ?_
 simp only [pwA,seval,-iQ0];refine zNP ?_;simp only [pwA,seval,-iQ0];refine zGr hU (by omega) (by omega) fun z1 f1=>?_
 simp only [pwA,seval,-iQ0];refine zGr hV (by omega) (by omega) fun z2 f2=>?_
 simp only [pwA,seval,-iQ0];refine zRx f1 f2 (by omega) (by omega) ?_
 simp only [pwA,seval,-iQ0];refine or_ok (k:=lexC [szU O u] [szU O v]) (l:=lexC u.flatten v.flatten) (by rw [zH];exact if_pos rfl) ?_
 simp only [pwA,seval,-iQ0];unfold cfS at hk
 rw [zIE]at hk
 exact Gh.fin0 (zC _ _) trivial hk
theorem zG7 {aa ab:AV} (s:Shp O P C) (hO:FI vO O) (hU:FII vU u) (hu:CanG O H u) (hV:FII vV v) (hv:CanG O H' v) (hk:K (.int .i64 (cfS O u v)) σ):zA Tryz.prog 153 [vU,vV,.fp ab [.fp aa [vO,vP,vC]]] σ K:=by
 refine zB mix Tryz.func153 ?_;simp only [pwA,seval,-iQ0];refine zCw s hO hU hu hV hv ?_;simp only [pwA,seval,-iQ0];exact hk
theorem zLG (ha:FI va x) (hb:FI vb y) (hx:x.length≤1000) (hy:y.length≤1000) (hk:K (.bool (decide (lexC x y<0))) σ):zA Tryz.prog 235 [va,vb] σ K:=by
 obtain⟨wa,aa,rfl⟩:=ha;obtain⟨wb,ab,rfl⟩:=hb;refine zB mix Tryz.func235 ?_;simp only [pwA,seval,-iQ0];refine zD (fun m vs h'=>∃i:Nat,i≤x.length∧i≤y.length∧x.take i=y.take i∧m=x.length-i∧vs=[.fz wa aa x.length (pis x),.fz wb ab y.length (pis y),.int .i64 i]∧h'=σ) x.length ?_ ?_
 ·exact⟨0,by omega,by omega,rfl,by omega,rfl,rfl⟩
 rintro m vs h' ⟨i,hi,hiy,hpre,rfl,rfl,rfl⟩
 have hl:=zEt i hpre hi hiy
 by_cases hlt:i<x.length
 ·have hiI:=inb hlt
  have gx:(pis x)[i]? = some (.int .i64 x[i]):=by rw [zL,List.getElem?_eq_getElem hlt];rfl
  by_cases hly:i<y.length
  rotate_left
  ·obtain rfl:i=y.length:=by omega
   have e:lexC x y=1:=by
    rw [hl,List.drop_eq_nil_of_le (show y.length≤y.length by omega),List.drop_eq_getElem_cons hlt];rfl
   rw [e]at hk
   have hxy:¬(x.length:Int)<(y.length:Int):=by omega
   simp only [pwA,seval,-iQ0,hlt,hiI,hly,hxy];exact hk
  have hjI:=inb hly;have gy:(pis y)[i]? = some (.int .i64 y[i]):=by rw [zL,List.getElem?_eq_getElem hly];rfl
  rw [List.drop_eq_getElem_cons hlt,List.drop_eq_getElem_cons hly,lexC]at hl
  have wi:IntKind.i64.wrap ((i:Int)+1)=((i+1:Nat):Int):=wrapS hlt (by omega)
  by_cases c:x[i]=y[i]
  ·rw [c]at gx
   simp only [pwA,seval,-iQ0,hlt,hiI,hly,hjI,gx,gy,wi];exact⟨_,by omega,i+1,by omega,by omega,by rw [List.take_succ_eq_append_getElem hlt,List.take_succ_eq_append_getElem hly,hpre,c],rfl,rfl⟩
  ·have e:decide (lexC x y<0)=decide (x[i] < y[i]):=by
    rw [hl]
    by_cases h1:x[i] < y[i]
    ·rw [if_pos h1];simp [h1]
    ·rw [if_neg h1,if_pos (by omega)];simp [h1]
   rw [e]at hk
   simp only [pwA,seval,-iQ0,hlt,hiI,hly,hjI,gx,gy,c];exact hk
 ·obtain rfl:i=x.length:=by omega
  rw [List.drop_length]at hl
  have e:decide (lexC x y<0)=decide ((x.length:Int)<(y.length:Int)):=by
   rw [hl]
   by_cases h1:x.length<y.length
   ·rw [List.drop_eq_getElem_cons h1]
    have:(x.length:Int)<(y.length:Int):=by omega
    simp [lexC,this]
   ·rw [List.drop_eq_nil_of_le (show y.length≤x.length by omega)]
    have:¬(x.length:Int)<(y.length:Int):=by omega
    simp [lexC,this]
  rw [e,show decide ((x.length:Int)<(y.length:Int))=decide (x.length<y.length) by simp only [decide_eq_decide];omega]at hk
  simp only [pwA,seval,-iQ0,hlt];exact hk
theorem zFi (hM:FII vU u) (hml:u.length≤1000) (hb:u.flatten.length≤1000) (hk:∀z,FI z u.flatten→K z σ):zA Tryz.prog 236 [vU] σ K:=by
 obtain⟨wU,aU,rU,rfl,hrU⟩:=hM;refine zA.gh ?_;refine zB mix Tryz.func236 ?_;simp only [pwA,seval,-iQ0];refine zD (fun m vs h=>∃(i:Nat) (vo:PV),i≤u.length∧m=u.length-i∧vs=[.fz wU aU u.length rU,vo,.int .i64 i]∧Keep σ h∧PSl σ.next 1 h vo (u.take i).flatten.length (pis (u.take i).flatten)) u.length ⟨0,_,by omega,by omega,rfl,zC _ _,PSl.new _ 1 rfl (Nat.le_refl _)⟩ ?_
 rintro m vs h ⟨i,vo,hi,rfl,rfl,kh,ho⟩
 by_cases hlt:i<u.length
 rotate_left
 ·obtain rfl:i=u.length:=by omega
  rw [List.take_length]at ho
  simp only [pwA,seval,-iQ0,hlt];exact PAcc.fin kh ho.acc (zo _ _) fun a=>hk _ ⟨true,a,rfl⟩
 have hiI:=inb hlt;have wi:IntKind.i64.wrap ((i:Int)+1)=((i+1:Nat):Int):=wrapS hlt (by omega)
 obtain⟨w5,a5,h5⟩:=hrU.rowI hlt;have e:(u.take (i+1)).flatten=(u.take i).flatten++u[i]:=by
  rw [List.take_succ_eq_append_getElem hlt,List.flatten_append];simp
 have hbl:(u.take i).flatten.length+u[i].length≤1000:=by
  have h1:u.flatten.length=(u.take (i+1)).flatten.length+(u.drop (i+1)).flatten.length:=by
   rw [←List.length_append,←List.flatten_append,List.take_append_drop]
  rw [e,List.length_append]at h1
  omega
 simp only [pwA,seval,-iQ0,hlt,hiI,h5];refine PSl.cat (bytes:=8) kh ho (by simp [pis]) (by omega) (by omega) fun v' h2 k2 p2=>?_
 simp only [pwA,seval,-iQ0,wi];refine⟨_,by omega,i+1,v',by omega,rfl,rfl,k2,?_⟩
 rw [e,List.length_append,←Qd];exact p2
theorem zII (s:Shp O P C) (hR:IsPr vO vP vC O P C) (hU:FII vU u) (hu:CanG O H u) (hV:FII vV v) (hv:CanG O H' v) (hk:K (.bool (decide (cfS O u v<0))) σ):zA Tryz.prog 217 [.agg [vO,vP,vC],vU,vV] σ K:=by
 have hn6:=s.le;have hul:=hu.len;have hvl:=hv.len;have fu:u.flatten.length≤36:=zCe (fun x hx=>(hu.one x hx).1.len) (by omega) hn6
 have fv:v.flatten.length≤36:=zCe (fun x hx=>(hv.one x hx).1.len) (by omega) hn6
 have g0:=hR.O.one;have g1:=hR.P.one;have g2:=hR.C.one;refine zA.gh ?_;refine zB mix Tryz.func217 ?_;simp only [pwA,seval,-iQ0,g0,g1,g2];generalize hH:σ.new [vO,vP,vC]=H1;have kH:Keep σ H1:=by rw [←hH];exact zC _ _
 have r3:H1.rd σ.next 0 3=some [vO,vP,vC]:=by rw [←hH];simp only [pwA,seval,-iQ0]
 clear hH;simp only [pwA,seval,-iQ0,r3,g0,g1,g2,hU.one,hV.one];refine Qn s hR hU hu (by omega) ?_
 simp only [pwA,seval,-iQ0,r3,g0,g1,g2,hU.one,hV.one];refine Qn s hR hV hv (by omega) ?_
 unfold cfS at hk
 rw [lexC]at hk
 by_cases c:szU O u=szU O v
 ·rw [if_neg (by omega),if_neg (by omega)]at hk
  simp only [pwA,seval,-iQ0,c];refine zFi hU (by omega) (by omega) fun z1 f1=>?_
  simp only [pwA,seval,-iQ0];refine zFi hV (by omega) (by omega) fun z2 f2=>?_
  simp only [pwA,seval,-iQ0];refine zLG f1 f2 (by omega) (by omega) ?_
  simp only [pwA,seval,-iQ0];exact Gh.fin0 kH trivial hk
 ·have e:decide ((if szU O u<szU O v then -1 else if szU O v<szU O u then 1 else lexC u.flatten v.flatten)<(0:Int))=decide (szU O u<szU O v):=by
   by_cases h1:szU O u<szU O v
   ·rw [if_pos h1];simp [h1]
   ·rw [if_neg h1,if_pos (by omega)];simp [h1]
  rw [e]at hk
  simp only [pwA,seval,-iQ0,c];exact Gh.fin0 kH trivial hk
end Go.Proofs
namespace Go.Grp
end Go.Grp
namespace Go.Ab
open Go.RowKit
variable {P:Program} {B:Nat} {w0 w w':World} {j:Inj} {h h':AHeap} {ι:Nat→Nat} {Z:Nat→Prop} {σ:PHeap} {n:Nat}
def PHeap.non:PHeap:=⟨0,0,fun _=>none⟩
def AHeap.roM (j:Inj) (h:AHeap):AHeap:=⟨h.next,fun o=>if (∃l,j o=some l∧l.mp=true)then none else(h.obj o).map fun ob=>⟨false,ob.cells⟩⟩
theorem zJ4 {o:Nat} (hz:∀l,j o=some l→l.mp=false):(h.roM j).obj o=(h.obj o).map fun ob=>⟨false,ob.cells⟩:=by
 unfold AHeap.roM;exact if_neg (by
  rintro ⟨l,h1,h2⟩
  rw [hz l h1]at h2;cases h2)
theorem MR.roM (m:MR B w0 j h w):MR w.heap.size w j (h.roM j) w:=by
 refine⟨Below.refl _ _,Nat.le_refl _,Nat.le_refl _,fun o ho=>?_,fun o ob l ho hl hp=>?_,fun o ob l ho hl hp=>?_,fun o o' ob ob' l l' hne ho ho' hl hl' hrw=>?_⟩
 ·have:=m.fresh o ho
  refine⟨?_,this.2⟩;unfold AHeap.roM;simp only
  split
  ·rfl
  ·rw [this.1];rfl
 ·rw [zJ4 (fun l' hl'=>by rw [hl]at hl';cases hl';exact hp),Option.map_eq_some_iff]at ho
  obtain⟨ob0,h0,rfl⟩:=ho;have q:=m.obj o ob0 l h0 hl hp;obtain⟨cur,ty,fz,r1,r2,r3,r4⟩:=q.row;have hb:l.blk<w.heap.size:=(Array.getElem?_eq_some_iff.1 r1).1;exact⟨q.one,cur,ty,fz,r1,r2,(fun x=>by cases x),(fun _=>hb)⟩
 ·unfold AHeap.roM at ho
  simp only at ho
  rw [if_pos ⟨l,hl,hp⟩]at ho
  cases ho
 ·unfold AHeap.roM at ho
  simp only at ho
  split at ho
  ·cases ho
  ·simp only [Option.map_eq_some_iff]at ho
   obtain⟨ob0,h0,rfl⟩:=ho;cases hrw
theorem MR.quietD (m:MR B w0 j h w) (hb:Below w.heap.size w w') (hd:w.drawn≤w'.drawn):MR B w0 j h w':=by
 refine⟨m.below.trans (hb.mono m.bnd),Nat.le_trans m.bnd hb.size,Nat.le_trans m.dr hd,m.fresh,fun o ob l ho hl hp=>?_,fun o ob l ho hl hp=>?_,m.apart⟩
 ·have q:=m.obj o ob l ho hl hp
  obtain⟨cur,ty,fz,r1,r2,r3,r4⟩:=q.row;have hlt:l.blk<w.heap.size:=(Array.getElem?_eq_some_iff.1 r1).1;exact⟨q.one,cur,ty,fz,by rw [hb.block _ hlt];exact r1,r2,r3,r4⟩
 ·have q:=m.maps o ob l ho hl hp
  obtain⟨es,clock,r1,r2⟩:=q.row;have hlt:l.blk<w.heap.size:=(Array.getElem?_eq_some_iff.1 r1).1;exact⟨q.rw,q.ge,es,clock,by rw [hb.block _ hlt];exact r1,r2⟩
mutual
def loose:PV→PV
 | .fz _ a n cs=>.fz false a n (Zf cs)
 | .fp a cs=>.fp a (Zf cs)
 | .clo f a b=>.clo f (Zf a) (Zf b)
 | .agg cs=>.agg (Zf cs)
 | .tup cs=>.tup (Zf cs)
 | .undef=>.undef
 | .bool b=>.bool b
 | .int k z=>.int k z
 | .str s=>.str s
 | .nilp=>.nilp
 | .ptr s i=>.ptr s i
 | .mref s=>.mref s
 | .sl s o n c=>.sl s o n c
 | .nilf=>.nilf
def Zf:List PV→List PV
 | []=>[]
 | c::cs=>loose c::Zf cs
end
mutual
theorem zOy (ι:Nat→Nat):∀v:PV,er ι (loose v)=er ι v
 | .fz _ a n cs=>rfl
 | .fp a cs=>rfl
 | .clo f a b=>by simp only [loose,er,Zd ι a,Zd ι b]
 | .agg cs=>by simp only [loose,er,Zd ι cs]
 | .tup cs=>by simp only [loose,er,Zd ι cs]
 | .undef | .bool _ | .int _ _ | .str _ | .nilp | .ptr _ _ | .mref _ | .sl _ _ _ _ | .nilf=>rfl
theorem Zd (ι:Nat→Nat):∀cs:List PV,ers ι (Zf cs)=ers ι cs
 | []=>rfl
 | c::cs=>by simp only [Zf,ers,zOy ι c,Zd ι cs]
end
def NoM (j:Inj) (Z:Nat→Prop) (o:Nat):Prop:=Z o∧∀l,j o=some l→l.mp=false
theorem zLt {o i n:Nat} (hz:∀l,j o=some l→l.mp=false):(h.roM j).rd o i n=h.rd o i n:=by
 unfold AHeap.rd;rw [zJ4 hz];cases h.obj o<;>rfl
theorem zGY (m:MR B w0 j h w) {o off:Nat} {l:Loc} {ws:List AV} (hl:j o=some l) (hp:l.mp=false) (hr:h.rd o off ws.length=some ws):∃cs,VIs j ws cs:=by
 obtain⟨ob,ho,hle,hws⟩:=AHeap.rd_some hr;obtain⟨cur,ty,fz,r1,r2,r3,r4⟩:=(m.obj _ _ _ ho hl hp).row;refine⟨(List.range ws.length).map fun i=>(cur[l.base+(off+i)]?).getD undef,VIs.of_get (by simp) fun i v hv=>?_⟩
 have hil:i<ws.length:=(List.getElem?_eq_some_iff.1 hv).1;have e:ob.cells[off+i]? = some v:=by
  rw [hws,List.getElem?_take,if_pos (by omega),List.getElem?_drop]at hv
  exact hv
 obtain⟨cv,h1,h2⟩:=r2 _ _ e;exact⟨cv,by rw [List.getElem?_map,List.getElem?_range hil,Option.map_some,h1];rfl,h2⟩
mutual
theorem VOK.roM (m:MR B w0 j h w):∀{v:PV} {cv:Value},VOK Z h 0 v→VI j (er idz v) cv→VOK (NoM j Z) (h.roM j) 0 (loose v)
 | .fz b a len cs,cv,hv,vi=>by
  have hv1:=hv.1;have hv2:=hv.2;rcases hv1 with ⟨rfl,rfl,hn⟩|⟨o,off,cap,rfl,hz,hr,hc,hb⟩
  ·refine⟨.inl ⟨rfl,rfl,by rw [Zd];exact hn⟩,?_⟩
   cases cs with
   | nil=>trivial
   | cons c cs=>simp [ers]at hn
  ·have hm:∀l,j o=some l→l.mp=false:=fun l hl=>by
    cases cap with
    | known c=>obtain⟨l',a',h1,_,_,h2⟩:=vi;rw [hl]at h1;cases h1;exact h2
    | grown e=>obtain⟨l',c,f,h1,_,_,_,_,h2⟩:=vi;rw [hl]at h1;cases h1;exact h2
   have hl:∃l,j o=some l:=by
    cases cap with
    | known c=>obtain⟨l',a',h1,_⟩:=vi;exact⟨l',h1⟩
    | grown e=>obtain⟨l',c,f,h1,_⟩:=vi;exact⟨l',h1⟩
   obtain⟨l,hl⟩:=hl;refine⟨.inr ⟨o,off,cap,rfl,⟨hz,hm⟩,by rw [Zd];exact hr.imp id fun hr=>by rw [zLt hm];exact hr,hc,fun x=>by cases x⟩,?_⟩
   rcases hr with hr|hr
   ·cases cs with
    | nil=>trivial
    | cons c cs=>simp [ers]at hr
   ·obtain⟨cvs,hcv⟩:=zGY m hl (hm l hl) hr
    exact VOKs.roM m hv2 hcv
 | .fp a cs,cv,hv,vi=>by
  have hv1:=hv.1;have hv2:=hv.2;obtain⟨h0,hr⟩:=hv1;rcases hr with hr|⟨o,i,rfl,hz,hr⟩
  ·refine⟨⟨h0,.inl (by rw [Zd];exact hr)⟩,?_⟩
   cases cs with
   | nil=>trivial
   | cons c cs=>simp [ers]at hr
  ·obtain⟨l,hl,_,hp⟩:=vi
   have hm:∀l,j o=some l→l.mp=false:=fun l' hl'=>by rw [hl]at hl';cases hl';exact hp
   obtain⟨cvs,hcv⟩:=zGY m hl hp hr;exact⟨⟨h0,.inr ⟨o,i,rfl,⟨hz,hm⟩,by rw [Zd,zLt hm];exact hr⟩⟩,VOKs.roM m hv2 hcv⟩
 | .clo _ a b,cv,hv,vi=>by
  obtain⟨vs,us,h1,h2,_⟩:=vi;exact⟨VOKs.roM m hv.1 h1,VOKs.roM m hv.2 h2⟩
 | .agg cs,cv,hv,vi=>by
  obtain⟨vs,h1,_⟩:=vi;exact VOKs.roM (cs:=cs) m hv h1
 | .tup cs,cv,hv,vi=>by
  obtain⟨vs,h1,_⟩:=vi;exact VOKs.roM (cs:=cs) m hv h1
 | .undef,_,_,_ | .bool _,_,_,_ | .int _ _,_,_,_ | .str _,_,_,_ | .nilp,_,_,_ | .nilf,_,_,_=>trivial
 | .ptr s _,_,hv,_=>absurd hv (Nat.not_lt_zero _)
 | .mref s,_,hv,_=>absurd hv (Nat.not_lt_zero _)
 | .sl s _ _ _,_,hv,_=>absurd hv (Nat.not_lt_zero _)
theorem VOKs.roM (m:MR B w0 j h w):∀{cs:List PV} {cvs:List Value},VOKs Z h 0 cs→VIs j (ers idz cs) cvs→VOKs (NoM j Z) (h.roM j) 0 (Zf cs)
 | [],_,_,_=>trivial
 | c::cs,cvs,hv,vi=>by
  obtain⟨v,r,rfl,h1,h2⟩:=vi;exact⟨VOK.roM m hv.1 h1,VOKs.roM m hv.2 h2⟩
end
theorem zPA {f:FuncId} {x y:PV} {cs:List PV} {sp sc:Nat} {z:Int} (m:MR B w0 j h w) (r:Rel ι Z σ h) (hsp:σ.obj sp=some cs) (hcs:Bels 0 cs) (hsc:σ.obj sc=some [.ptr sp 0])
  (hx:VOK Z h 0 x) (hy:VOK Z h 0 y) {cx cy cc:Value} (vx:VI j (er idz x) cx) (vy:VI j (er idz y) cy) (vc:VI j (.ptr (ι sc) 0) cc)
  (c:∀aa ab,zA P f [loose x,loose y,.fp ab [.fp aa (Zf cs)]] PHeap.non fun v _=>v=.int .i64 z):
  Calls P f #[cx,cy,cc] w fun e w'=>e=.returned (.int .i64 z)∧Below w.heap.size w w'∧w.drawn≤w'.drawn:=by
 obtain⟨o1,v1,n1⟩:=r.obj sp cs hsp;obtain⟨o2,v2,n2⟩:=r.obj sc _ hsc;have hcs0:VOKs Z h 0 cs:=VOKs.of_bel v1 hcs;have e1:ers ι cs=ers idz cs:=Qg hcs0;have Z2h:∀o,Z o→(Z o∨o=ι sp∨o=ι sc)∧h.obj o=h.obj o:=fun o ho=>⟨.inl ho,rfl⟩
 have k1:VOK (fun o=>Z o∨o=ι sp∨o=ι sc) h 0 (.fp (.ptr (ι sc) 0) [.fp (.ptr (ι sp) 0) cs]):=by
  refine⟨⟨rfl,.inr ⟨ι sc,0,rfl,.inr (.inr rfl),?_⟩⟩,⟨⟨rfl,.inr ⟨ι sp,0,rfl,.inr (.inl rfl),?_⟩⟩,hcs0.mono Z2h (Nat.le_refl _)⟩,trivial⟩
  ·exact Qw o2 rfl
  ·rw [e1]at o1;exact Qw o1 rfl
 have va:VOKs (fun o=>Z o∨o=ι sp∨o=ι sc) h 0 [x,y,.fp (.ptr (ι sc) 0) [.fp (.ptr (ι sp) 0) cs]]:=⟨hx.mono Z2h (Nat.le_refl _),hy.mono Z2h (Nat.le_refl _),k1,trivial⟩
 have vi:VIs j (ers idz [x,y,.fp (.ptr (ι sc) 0) [.fp (.ptr (ι sp) 0) cs]]) [cx,cy,cc]:=⟨_,_,rfl,vx,_,_,rfl,vy,_,_,rfl,vc,rfl⟩;have va2:=VOKs.roM m va vi;have hzl:∀o,NoM j (fun o=>Z o∨o=ι sp∨o=ι sc) o→o<(h.roM j).next:=by
  rintro o ⟨ho | rfl | rfl,_⟩
  ·exact r.zlt o ho
  ·exact r.hwf.lt o1
  ·exact r.hwf.lt o2
 have rel:Rel idz (NoM j (fun o=>Z o∨o=ι sp∨o=ι sc)) PHeap.non (h.roM j):=⟨m.roM.wf,hzl,Nat.zero_le _,fun _ _=>rfl,(fun s cs e=>by cases e),(fun s s' cs cs' e=>by cases e)⟩
 refine(c (.ptr (ι sp) 0) (.ptr (ι sc) 0) idz _ _ rel va2 w.heap.size w j w [cx,cy,cc] m.roM (by
  have:=vi
  rw [←Zd]at this
  exact this)).mono ?_
 rintro e w' ⟨v,h',j',cv,rfl,fr,mr,vi',pv,σ',ι',Z',_,_,_,rfl,rfl⟩
 exact⟨by rw [show cv=_ from vi'],mr.below,mr.dr⟩
theorem zHD {w w':World} (h:Below w.heap.size w w') (hd:w.drawn≤w'.drawn):∃q os,w'=Go.Sort.grow (w.drewN q) os:=by
 obtain⟨p,hp⟩:=regrown_of_below h;have e:w'.drawn=p.d:=by rw [hp];rfl
 refine⟨p.d-w.drawn,p.os,?_⟩;rw [hp]
 congr 1
 show({ w with drawn:=p.d }:World)={ w with drawn:=w.drawn+(p.d-w.drawn) }
 rw [show w.drawn+(p.d-w.drawn)=p.d by omega]
end Go.Ab
namespace Go.Proofs
open Go.RowKit Go.Ab Go.Lie Go.Grp Go.Lat Go.Sort
variable {σ:PHeap} {K:PV→PHeap→Prop}
theorem okL1:okF Tryz.prog 153=true:=by kernel_rfl
theorem zOx (ι:Nat→Nat) {rows:List PV} {i:Nat} {v:AV} (h:(ers ι rows)[i]? = some v):∃r,rows[i]? = some r∧v=er ι r:=by
 rw [Zo,List.getElem?_map,Option.map_eq_some_iff]at h
 obtain⟨r,h1,h2⟩:=h;exact⟨r,h1,h2.symm⟩
set_option maxHeartbeats 1600000 in
theorem zPY {rows cs:List PV} {n s sp sc:Nat} {cap:Cap} (hs:σ.obj s=some rows) (hn:n=rows.length) (h0:0<n) (h62:n<4611686018427387904) (hfr:Bels 0 rows) (hone:rows.all PV.one=true)
  (hsp:σ.obj sp=some cs) (hcs:Bels 0 cs) (hsc:σ.obj sc=some [.ptr sp 0]) (hne1:s≠sp) (hne2:s≠sc) (cf:Nat→Nat→Int) (hO:SWO (α:=Fin n) (ltOf fun i j=>cf i j))
  (c:∀i j,i<n→j<n→∀aa ab,zA Tryz.prog 153 [loose (rows.getD i .undef),loose (rows.getD j .undef),.fp ab [.fp aa (Zf cs)]] PHeap.non fun v _=>v=.int .i64 (cf i j))
  (hk:∀p:List Nat,p.Perm (List.range n)→p.Pairwise (fun i j=>¬cf j i<0)→K (.tup []) (σ.set s (p.map fun i=>rows.getD i .undef))):
  zA Tryz.prog 152 [.sl s 0 n cap,.clo 153 [] [.ptr sc 0]] σ K:=by
 subst hn;intro ι Z h r va B w0 j w cargs m vi;obtain⟨c1,r1,rfl,v1,c2,r2,rfl,v2,rfl⟩:=vi;simp only [er,ers]at v1 v2
 obtain⟨vs,us,hvs,⟨cc,u2,rfl,vcc,hu2⟩,rfl⟩:=v2;obtain rfl:vs=[]:=hvs;obtain rfl:u2=[]:=hu2;obtain⟨l,c0,hl,rfl,hmp⟩:∃l c0,j (ι s)=some l∧c1=.slice (some ⟨l.blk,l.base+0,none⟩) rows.length c0∧l.mp=false:=by
  cases cap with
  | known c=>
   obtain⟨l,a,q1,q2,q3,q4⟩:=v1;rcases q3 with rfl|⟨_,q3⟩
   ·exact⟨l,_,q1,q2,q4⟩
   ·omega
  | grown e=>
   obtain⟨l,c,f,q1,q2,q3,q4,q5,q6⟩:=v1;rcases q4 with rfl|⟨q4,_⟩
   ·exact⟨l,_,q1,q2,q6⟩
   ·omega
 obtain⟨o1,ov,on⟩:=r.obj s rows hs;obtain⟨_,cur,ty,fz,hrow,hcell,hrw,_⟩:=m.obj _ _ _ o1 hl hmp;obtain⟨rfl,hroom,hB⟩:=hrw rfl;have hblk:l.blk<w.heap.size:=(Array.getElem?_eq_some_iff.1 hrow).1;have ov0:VOKs Z h 0 rows:=VOKs.of_bel ov hfr;obtain⟨rg,hrg⟩:∃rg:Fin rows.length→PV,∀i,rg i=rows.getD i.val .undef:=⟨_,fun _=>rfl⟩
 have hg:∀i:Fin rows.length,rows[i.val]? = some (rg i):=fun i=>by
  rw [hrg,List.getD_eq_getElem?_getD,List.getElem?_eq_getElem i.isLt];rfl
 have hgm:∀i:Fin rows.length,rg i∈rows:=fun i=>List.mem_of_getElem? (hg i)
 obtain⟨enc,henc⟩:∃enc:Fin rows.length→Value,∀i:Fin rows.length,cur[l.base+i.val]? = some (enc i)∧VI j (er ι (rg i)) (enc i):=by
  refine⟨fun i=>(cur[l.base+i.val]?).getD undef,fun i=>?_⟩
  have e:(ers ι rows)[i.val]? = some (er ι (rg i)):=by rw [Zo,List.getElem?_map,hg];rfl
  obtain⟨cv,g1,g2⟩:=hcell _ _ e;show _=some ((cur[l.base+i.val]?).getD undef)∧VI j _ ((cur[l.base+i.val]?).getD undef);rw [g1];exact⟨rfl,g2⟩
 have onei:∀i:Fin rows.length,(er ι (rg i)).one=true:=fun i=>by
  have h1:=zA7 (ι:=ι) ov;have h2:(ers ι rows).all AV.one=true:=by rw [h1];exact hone
  refine List.all_eq_true.1 h2 _ ?_;rw [Zo];exact List.mem_map.2 ⟨_,hgm i,rfl⟩
 have H1:OneCell enc:=fun i=>(henc i).2.oneCell (onei i)
 haveI:Inhabited (Fin rows.length):=⟨⟨0,h0⟩⟩
 obtain⟨d,hd⟩:∃d:Array (Fin rows.length),d=Array.ofFn id:=⟨_,rfl⟩
 have hds:d.size=rows.length:=by rw [hd];simp
 have hH:Holds enc w l.blk l.base d:=fun i hi=>by
  refine⟨?_,?_⟩
  ·have ec:w.cell? ⟨l.blk,l.base+i,none⟩=cur[l.base+i]?:=by simp [World.cell?,hrow]
   rw [ec]
   have:d[i]! = ⟨i,by omega⟩:=by rw [getElem!_pos d i hi];subst hd;simp
   rw [this];exact(henc ⟨i,by omega⟩).1
  ·unfold World.frozen?
   rw [hrow]
   simp
 have put:∀(dk:Array (Fin rows.length)),dk.size=rows.length→VOKs Z h σ.next (dk.toList.map rg):=fun dk _=>ZW.2 fun v hv=>by
  obtain⟨i,_,rfl⟩:=List.mem_map.1 hv;exact ZW.1 ov _ (hgm i)
 have key:∀(mm:Nat) (os:Array Obj) (dk:Array (Fin rows.length)),dk.size=rows.length→MR B w0 j (h.set (ι s) (ers ι (dk.toList.map rg))) (sortWorld enc w l.blk l.base mm dk os):=by
  intro mm os dk hdk;have m1:=(m.setRow (cells:=ers ι (dk.toList.map rg)) (new:=putCells enc l.base dk cur) o1 hl hmp rfl hrow (by simp [putCells]) (by
   rw [zA7 (put dk hdk),List.all_eq_true];intro v hv;obtain⟨i,_,rfl⟩:=List.mem_map.1 hv;exact List.all_eq_true.1 hone _ (hgm i)) (fun i v hv=>by
   obtain⟨q,q1,rfl⟩:=zOx ι hv;rw [List.getElem?_map,Option.map_eq_some_iff]at q1
   obtain⟨k,q2,rfl⟩:=q1;rw [Array.getElem?_toList]at q2
   obtain⟨hik,rfl⟩:=Array.getElem?_eq_some_iff.1 q2;refine⟨enc dk[i],?_,(henc _).2⟩;have hc:=(henc ⟨i,by omega⟩).1
   simp only at hc
   simp only [putCells,Array.getElem?_mapIdx,hc,Option.map_some];rw [if_pos ⟨by omega,by omega⟩,show l.base+i-l.base=i by omega,getElem!_pos dk i hik])).1
  have hh:(putRow enc (Go.Sort.ahead w mm) l.blk l.base dk).heap=(w.setRow l.blk (putCells enc l.base dk cur)).heap:=by
   apply Array.ext_getElem?;intro k
   by_cases hk:k=l.blk
   ·subst hk
    rw [setRow_heap w _ _ _ _ _ hrow];simp [putRow,mapBlock,Go.Sort.ahead,Array.getElem?_modify,hrow,onCells]
   ·rw [setRow_other _ _ _ _ hk]
    simp [putRow,mapBlock,Go.Sort.ahead,Array.getElem?_modify,Ne.symm hk]
  refine m1.quietD ⟨rfl,rfl,rfl,?_,fun k hk=>?_⟩ ?_
  ·show _≤((putRow enc (Go.Sort.ahead w mm) l.blk l.base dk).heap++os).size
   rw [Array.size_append,hh];omega
  ·show((putRow enc (Go.Sort.ahead w mm) l.blk l.base dk).heap++os)[k]? = _
   rw [hh,Array.getElem?_append_left hk]
  ·show w.drawn≤w.drawn+mm
   omega
 have eg:=fun(args:Array Value) (w:World)=>zBU (P:=Tryz.prog) (w:=w) okL1 args
 have hcmp:CmpLays1 Tryz.prog 153 #[cc] enc (fun i j=>cf i j) l.blk l.base d.size w:=by
  intro mm os dk hdk x y;rw [hds]at hdk
  have mW:=key mm os dk hdk;obtain⟨r',a'⟩:=r.set hs (put dk hdk);have hz:∀o,Z o→Z o∧(h.set (ι s) (ers ι (dk.toList.map rg))).obj o=h.obj o:=a'.z
  have fx:∀i:Fin rows.length,VOK Z h 0 (rg i):=fun i=>ZW.1 ov0 _ (hgm i)
  have vx:∀i:Fin rows.length,VI j (er idz (rg i)) (enc i):=fun i=>by rw [←zDU (ι:=ι) (fx i)];exact(henc i).2
  refine(zPA mW r' (sp:=sp) (sc:=sc) (cs:=cs) (by rw [zn,if_neg (Ne.symm hne1)];exact hsp) hcs (by rw [zn,if_neg (Ne.symm hne2)];exact hsc) ((fx x).mono hz (Nat.le_refl _)) ((fx y).mono hz (Nat.le_refl _)) (vx x) (vx y) vcc (by rw [hrg,hrg];exact c x y x.isLt y.isLt)).mono ?_
  rintro e w' ⟨h1,h2,h3⟩
  exact⟨h1,zHD h2 h3⟩
 have S:=Tryz.slices_SortFunc_f152 enc H1 (fun i j=>cf i j) hO 153 #[cc] l.blk l.base c0 d w eg hcmp hH hblk (by rw [hds];exact h62)
 rw [hds]at S
 refine Calls.mono S ?_
 rintro e w' ⟨rfl,d',nn,os,hperm,hsort,rfl⟩
 have hds':d'.size=rows.length:=hperm.1.trans hds;have hp:(d'.toList.map Fin.val).Perm (List.range rows.length):=by
  have h1:=hperm.2.2;have ex:∀(a:Array (Fin rows.length)) (k:Nat),a.size=k→a.extract 0 k=a:=fun a k e=>by subst e;exact Array.extract_size
  rw [ex d' _ hds',ex d _ hds]at h1
  refine(h1.map Fin.val).trans (List.Perm.of_eq ?_);rw [hd];refine List.ext_getElem (by simp) fun i h1 h2=>?_
  simp
 have hso:(d'.toList.map Fin.val).Pairwise (fun i j=>¬cf j i<0):=by
  rw [List.pairwise_map,List.pairwise_iff_getElem];intro a b ha hb hab;have ha':a<d'.size:=by simpa using ha
  have hb':b<d'.size:=by simpa using hb
  have:=hsort a b (Nat.zero_le _) hab (by omega)
  unfold ltOf at this
  rw [decide_eq_false_iff_not,getElem!_pos d' a ha',getElem!_pos d' b hb']at this
  simpa using this
 obtain⟨r',a'⟩:=r.set hs (put d' hds');have hk':=hk _ hp hso;rw [List.map_map,show((fun i=>rows.getD i PV.undef) ∘ Fin.val:Fin rows.length→PV)=rg from funext fun i=>(hrg i).symm]at hk'
 refine⟨.tup [],h.set (ι s) (ers ι (d'.toList.map rg)),j,.tuple #[],rfl,⟨Nat.le_refl _,fun _ _=>rfl,fun p _ hn=>by simp only [AHeap.set];rw [if_neg (fun e=>by subst e;rw [hl]at hn;cases hn)]⟩,key nn os d' hds',⟨[],rfl,rfl⟩,.tup [],_,ι,Z,r',a',trivial,rfl,hk'⟩
end Go.Proofs
namespace Go.Grp
end Go.Grp
set_option linter.unusedSimpArgs false
set_option linter.unusedVariables false
set_option linter.unusedSectionVars false
namespace Go.Lat
theorem zCq {α:Type} {lt:α→α→Prop}:∀{L M:List α},L.Perm M→L.Pairwise (fun a b=>¬lt b a)→M.Pairwise (fun a b=>¬lt b a)→(∀a∈L,∀b∈L,¬lt a b→¬lt b a→a=b)→L=M
 | [],M,hp,_,_,_=>(List.nil_perm.1 hp).symm
 | a::L,[],hp,_,_,_=>by have:=hp.length_eq;simp at this
 | a::L,b::M,hp,h1,h2,ha=>by
  rw [List.pairwise_cons]at h1 h2
  have e:a=b:=by
   have hb:b∈a::L:=hp.mem_iff.2 (by simp)
   have haM:a∈b::M:=hp.mem_iff.1 (by simp)
   rcases List.mem_cons.1 hb with q|q
   ·exact q.symm
   ·rcases List.mem_cons.1 haM with p | p
    ·exact p
    ·exact ha a (by simp) b hb (h2.1 a p) (h1.1 b q)
  subst e;rw [zCq (List.perm_cons a |>.1 hp) h1.2 h2.2 fun x hx y hy=>ha x (by simp [hx]) y (by simp [hy])]
end Go.Lat
namespace Go.Proofs
open Go.Ab Go.Lie Go.Grp Go.Lat
variable {σ h:PHeap} {K:PV→PHeap→Prop} {O x y:List Int} {P:List (List Int)} {C:List (List (List Int))} {u v:List (List Int)} {vO vP vC va vb vU vV vx vy:PV} {sp N a b m t d:Nat} {F L:List Nat}
theorem zMy {h1 H:PHeap} {sb:Nat} {rb rb4:List PV} (k:Keep (h1.set sb rb) H):Keep (h1.set sb rb4) (H.set sb rb4):=
 ⟨k.next,k.top,fun t ht=>by
  rw [zn,zn]
  split
  ·rfl
  ·rename_i hne
   rw [k.obj t ht,zn,if_neg hne]⟩
def Byt8 (cells:List PV):Prop:=∀c∈cells,∃z:Int,c=.int .u8 z
theorem Byt8.bytes:∀{cells:List PV},Byt8 cells→∃q:List UInt8,zB1 cells=some q
 | [],_=>⟨[],rfl⟩
 | c::cells,a=>by
  obtain⟨z,rfl⟩:=a c (by simp)
  obtain⟨q,h1⟩:=Byt8.bytes (cells:=cells) fun c hc=>a c (by simp [hc])
  exact⟨UInt8.ofNat z.toNat::q,by simp only [zB1,h1,Option.map_some]⟩
theorem Byt8.snoc {cells:List PV} (a:Byt8 cells) {z:Int}:Byt8 (cells++[.int .u8 z]):=fun c hc=>by
 rcases List.mem_append.1 hc with hc|hc
 ·exact a c hc
 ·exact⟨z,List.mem_singleton.1 hc⟩
theorem PAcc.strs {cells:List PV} {b n:Nat} {v:PV} (a:PAcc b 1 h v n cells) (hb:Byt8 cells):∃q:List UInt8,zDA h v=some q:=by
 rcases a with ⟨rfl,rfl,rfl⟩|⟨s,cap,rfl,h1,h2,h3,h4,h5⟩
 ·exact⟨[],rfl⟩
 ·obtain⟨q,e1⟩:=hb.bytes
  refine⟨q,?_⟩;unfold zDA;rw [zJ8];simp only [Option.bind_some];rw [QE]
  by_cases h0:n=0
  ·have:cells=[]:=List.length_eq_zero_iff.1 (by omega)
   subst this;rw [if_pos h0];exact e1
  ·rw [if_neg h0,if_pos (Nat.le_refl _),Nat.mul_one,ZB h2,if_pos (by omega),List.drop_zero,List.take_of_length_le (by omega)]
   exact e1
theorem zIN (hU:FII vU u) (hul:u.length≤6) (hrl:∀x∈u,x.length≤6) (hk:∀q:List UInt8,K (.str q) σ):zA Tryz.prog 151 [vU] σ K:=by
 obtain⟨wU,aU,rU,rfl,hrU⟩:=hU;refine zA.gh ?_;refine zB mix Tryz.func151 ?_;simp only [pwA,seval,-iQ0];refine zD (fun r vs h=>∃(i:Nat) (vo:PV) (cells:List PV),i≤u.length∧r=u.length-i∧vs=[vo,.fz wU aU u.length rU,.int .i64 u.length,.int .i64 i]∧Keep σ h∧PAcc σ.next 1 h vo cells.length cells∧Byt8 cells∧cells.length≤7*i) u.length ⟨0,_,[],by omega,by omega,rfl,Keep.refl _,PAcc.nil _ _ _,fun c hc=>(by cases hc),by simp⟩ ?_
 rintro r vs h ⟨i,vo,cells,hi,rfl,rfl,kh,ha,hb,hl⟩
 by_cases hlt:i<u.length
 rotate_left
 ·obtain rfl:i=u.length:=by omega
  obtain⟨q,hq⟩:=PAcc.strs ha hb;simp only [pwA,seval,-iQ0,hlt,zO1,hq];exact Gh.fin0 kh trivial (hk q)
 have hiI:=inb hlt;have wi:IntKind.i64.wrap ((i:Int)+1)=((i+1:Nat):Int):=wrapS (show i<1000 by omega) (by omega)
 obtain⟨w5,a5,h5⟩:=hrU.rowI hlt;have hxl:=hrl _ (List.getElem_mem hlt);obtain⟨x,ex⟩:∃x,x=u[i]:=⟨_,rfl⟩
 rw [←ex]at h5 hxl
 simp only [pwA,seval,-iQ0,hlt,hiI,h5];refine zD (fun r vs h=>∃(k:Nat) (vo:PV) (cells:List PV),k≤x.length∧r=x.length-k∧vs=[vo,.fz wU aU u.length rU,.int .i64 u.length,.int .i64 i,.fz w5 a5 x.length (pis x),.int .i64 x.length,.int .i64 k]∧Keep σ h∧PAcc σ.next 1 h vo cells.length cells∧Byt8 cells∧cells.length≤7*i+k) x.length ⟨0,vo,cells,by omega,by omega,rfl,kh,ha,hb,by omega⟩ ?_
 clear kh ha hb hl
 rintro r vs h ⟨k,vo,cells,hk1,rfl,rfl,kh,ha,hb,hl⟩
 by_cases hlk:k<x.length
 rotate_left
 ·obtain rfl:k=x.length:=by omega
  simp only [pwA,seval,-iQ0,hlk];refine PAcc.push (σb:=σ) (bytes:=1) kh ha (by omega) (by omega) fun v' h2 k2 p2=>?_
  simp only [pwA,seval,-iQ0,wi];exact⟨_,by omega,i+1,v',cells++[_],by omega,rfl,rfl,k2,by rw [List.length_append];exact p2.acc,hb.snoc,by rw [List.length_append];simp;omega⟩
 have hkI:=inb hlk;have wk:IntKind.i64.wrap ((k:Int)+1)=((k+1:Nat):Int):=wrapS (show k<1000 by omega) (by omega)
 have gx:(pis x)[k]? = some (.int .i64 x[k]):=by rw [zL,List.getElem?_eq_getElem hlk];rfl
 simp only [pwA,seval,-iQ0,hlk,hkI,gx];refine PAcc.push (σb:=σ) (bytes:=1) kh ha (by omega) (by omega) fun v' h2 k2 p2=>?_
 simp only [pwA,seval,-iQ0,wk];exact⟨_,by omega,k+1,v',cells++[_],by omega,rfl,rfl,k2,by rw [List.length_append];exact p2.acc,hb.snoc,by rw [List.length_append];simp;omega⟩
def mapC:List Nat→List PV
 | []=>[]
 | m::L=>.int .u64 (m:Int)::.bool true::mapC L
theorem zEs (e:Nat):∀L:List Nat,pmget (.int .u64) (.int .u64 (e:Int)) (mapC L)=some (if e∈L then some (.bool true)else none)
 | []=>rfl
 | m::L=>by
  rw [mapC,pmget,if_pos (by rfl)]
  by_cases h:e=m
  ·subst h
   rw [if_pos (by simp [PV.keq]),if_pos (by simp)]
  ·rw [if_neg (by simp [PV.keq];omega),zEs e L]
   simp [h]
theorem zEr (e:Nat):∀L:List Nat,e∉L→pmset (.int .u64) (.int .u64 (e:Int)) (.bool true) (mapC L)=some (mapC (L++[e]))
 | [],_=>rfl
 | m::L,h=>by
  simp only [List.mem_cons,not_or]at h
  rw [mapC,pmset,if_pos (by rfl),if_neg (by simp [PV.keq];omega),zEr e L h.2]
  rfl
def mapS:List (List UInt8×Int)→List PV
 | []=>[]
 | p::L=>.str p.1::.int .u64 p.2::mapS L
theorem zIC (q:List UInt8):∀L,∃r:Option PV,pmget .str (.str q) (mapS L)=some r∧∃z:Int,r.getD (.int .u64 0)=.int .u64 z
 | []=>⟨none,rfl,0,rfl⟩
 | p::L=>by
  rw [mapS,pmget,if_pos (by rfl)]
  by_cases h:q=p.1
  ·rw [if_pos (by simp [PV.keq,h])]
   exact⟨_,rfl,p.2,rfl⟩
  ·rw [if_neg (by simp [PV.keq,h])]
   exact zIC q L
theorem zIB (q:List UInt8) (z:Int):∀L,∃L',pmset .str (.str q) (.int .u64 z) (mapS L)=some (mapS L')
 | []=>⟨[(q,z)],rfl⟩
 | p::L=>by
  rw [mapS,pmset,if_pos (by rfl)]
  by_cases h:q=p.1
  ·rw [if_pos (by simp [PV.keq,h])]
   exact⟨(p.1,z)::L,rfl⟩
  ·obtain⟨L',hL⟩:=zIB q z L
   rw [if_neg (by simp [PV.keq,h]),hL]
   exact⟨p::L',rfl⟩
def u64s (L:List Nat):List PV:=L.map fun(m:Nat)=>.int .u64 (m:Int)
theorem zHV {i:Nat} (hi:i<L.length):(u64s L)[i]? = some (.int .u64 ((L[i]:Nat):Int)):=by
 unfold u64s;rw [List.getElem?_map,List.getElem?_eq_getElem hi];rfl
theorem zLk (L:List Nat) (m:Nat):u64s (L++[m])=u64s L++[.int .u64 (m:Int)]:=by simp [u64s]
def ltS (O:List Int) (u v:List (List Int)):Prop:=cfS O u v<0
theorem zOg (g:LG O P C) {H H':List Int→Prop} (hu:CanG O H u) (hv:CanG O H' v) (h1:¬ltS O u v) (h2:¬ltS O v u):u=v:=by
 unfold ltS cfS at h1 h2
 rw [zCZ (szU O u::u.flatten) (szU O v::v.flatten)]at h2
 have h0:lexC (szU O u::u.flatten) (szU O v::v.flatten)=0:=by omega
 have e:=zDq h0;rw [List.cons.injEq]at e
 rcases Nat.eq_zero_or_pos O.length with q|q
 ·have e1:∀{w:List (List Int)} {H'':List Int→Prop},CanG O H'' w→w=[]:=fun {w H''} hw=>by
   have:=hw.len
   exact List.eq_nil_of_length_eq_zero (by omega)
  rw [e1 hu,e1 hv]
 ·exact zIW q (fun x hx=>(hu.one x hx).1.len) (fun x hx=>(hv.one x hx).1.len) e.2
theorem zQt (O:List Int) (f:Fin N→List (List Int)):Go.Sort.SWO (α:=Fin N) (ltOf fun i j=>cfS O (f i) (f j)):=by
 have e:∀i j,(ltOf (fun i j=>cfS O (f i) (f j)) i j=true)↔cfS O (f i) (f j)<0:=fun i j=>⟨fun h=>of_decide_eq_true h,fun h=>decide_eq_true h⟩
 have e':∀i j,(ltOf (fun i j=>cfS O (f i) (f j)) i j=false)↔¬cfS O (f i) (f j)<0:=fun i j=>⟨fun h=>of_decide_eq_false h,fun h=>decide_eq_false h⟩
 refine⟨fun i=>?_,fun i j k h1 h2=>?_,fun i j k h1 h2=>?_⟩
 ·rw [e']
  unfold cfS;rw [zDI];decide
 ·rw [e]at h1 h2 ⊢
  exact zAy h1 h2
 ·rw [e']at h1 h2 ⊢
  intro h3;unfold cfS at h1 h2 h3
  rcases Int.lt_trichotomy (lexC (szU O (f i)::(f i).flatten) (szU O (f j)::(f j).flatten)) 0 with q|q|q
  ·exact h1 q
  ·have:=zDq q
   rw [this]at h3
   exact h2 h3
  ·have e:=zCZ (szU O (f i)::(f i).flatten) (szU O (f j)::(f j).flatten)
   exact h2 (zAy (by omega) h3)
end Go.Proofs
namespace Go.Grp
end Go.Grp
set_option linter.unusedSimpArgs false
set_option linter.unusedVariables false
set_option linter.unusedSectionVars false
namespace Go.Proofs
open Go.Ab Go.Lie Go.Grp Go.Lat
variable {σ h:PHeap} {K:PV→PHeap→Prop} {O x y:List Int} {P:List (List Int)} {C:List (List (List Int))} {u v:List (List Int)} {vO vP vC va vb vU vV vx vy:PV} {sp N a b m t d:Nat} {F L:List Nat}
theorem zGe:∀f i (L:List Nat) (T:Nat→Nat→Nat),L <+:outer N T f i L
 | 0,_,L,_=>List.prefix_refl _
 | f+1,i,L,T=>by
  unfold outer
  split
  ·exact List.prefix_refl _
  ·exact(zGl _ _ _ _).trans (zGe f (i+1) _ T)
theorem zPD (N:Nat) (T:Nat→Nat→Nat):0<(allM N T).length:=by
 have:=(zGe (N:=N) (2 ^ N) 0 [1] T).length_le
 unfold allM;simp only [List.length_singleton]at this
 omega
theorem zCm {b e n s:Nat} {h:PHeap} {v:PV} {cs ds:List PV} (a:PAcc b e h v n cs) (hne:∀off l c,v≠.sl s off l c):PAcc b e (h.set s ds) v n cs:=by
 rcases a with a|⟨t,cap,rfl,h1,h2,h3,h4,h5⟩
 ·exact .inl a
 ·exact .inr ⟨t,cap,rfl,h1,by rw [zn,if_neg (fun e=>hne 0 n cap (by rw [e]))];exact h2,h3,h4,h5⟩
theorem zFe:∀x:List Int,Zf (pis x)=pis x
 | []=>rfl
 | a::x=>by rw [zEm,Zf,zFe x];rfl
theorem FI.loose {v:PV} (h:FI v x):FI (loose v) x:=by
 obtain⟨w,a,rfl⟩:=h;exact⟨false,a,by rw [Go.Ab.loose,zFe]⟩
theorem zFf:∀L:List PV,Zf L=L.map loose
 | []=>rfl
 | c::L=>by rw [Zf,zFf L];rfl
theorem FII.loose {v:PV} (h:FII v u):FII (loose v) u:=by
 obtain⟨w,a,rows,rfl,hr⟩:=h;refine⟨false,a,Zf rows,by rw [Go.Ab.loose],?_⟩
 rw [zFf];refine⟨by rw [List.length_map];exact hr.1,fun k p q hp hq=>?_⟩
 rw [List.getElem?_map,Option.map_eq_some_iff]at hp
 obtain⟨p0,h1,rfl⟩:=hp;exact FI.loose (hr.2 k p0 q h1 hq)
theorem zNp (g:LG O P C) {m N:Nat} {D:List (Option (List Int))} (eN:N=nEl O) (hsub:SubM N (tbM O P C) m) (hD:OkD O D) (hQ:QI O P C D []) (cd:CanD O P C D u) (hI:∀H,gB O P C H→(InD H D↔∀j,j<N→m.testBit j=true→H (el O j))):u=seqM O m:=by
 subst eN;have s:=g.s;have hc:=cd.can s g.F g.cent hD hQ (L:=((List.range (nEl O)).filter fun j=>m.testBit j).map (el O)) (fun H hH=>(hI H hH).trans ⟨fun q l hl=>by
  obtain⟨j,hj,rfl⟩:=List.mem_map.1 hl;obtain⟨h1,h2⟩:=List.mem_filter.1 hj;exact q j (List.mem_range.1 h1) h2,fun q j hj hb=>q _ (List.mem_map.2 ⟨j,List.mem_filter.2 ⟨List.mem_range.2 hj,hb⟩,rfl⟩)⟩)
 refine zPr g hsub (hc.congr fun y=>⟨fun h=>?_,fun h=>?_⟩)
 ·refine h _ (HM.gB g hsub) fun l hl=>?_
  obtain⟨j,hj,rfl⟩:=List.mem_map.1 hl;obtain⟨h1,h2⟩:=List.mem_filter.1 hj;exact⟨Qa s j,by rw [nu_el s (List.mem_range.1 h1)];exact h2⟩
 ·refine GC.mem (List.mem_map.2 ⟨nu O y,List.mem_filter.2 ⟨List.mem_range.2 (nu_lt s h.1),h.2⟩,el_nu s h.1⟩)
set_option maxHeartbeats 6400000 in
theorem zIG (g:LG O P C) (hs:PtrG σ sp vO vP vC) (hR:IsPr vO vP vC O P C) (sz:SzP O P C) (hk1:32<nEl O→K (.tup [.nilp,.int .i64 3]) σ)
  (hk2:nEl O≤32→∀sl sL h' cap rows vM M,Keep σ h'→σ.next≤sl→sl<h'.next→h'.obj sl=some [.ptr sp 0,.sl sL 0 rows.length cap,vM]→h'.obj sL=some rows→sL<h'.next→(∀r∈rows,Own σ.top h'.top r)→All2 FII rows M→M.Perm ((allM (nEl O) (tbM O P C)).map (seqM O))→M.Pairwise (fun u v=>¬ltS O v u)→K (.tup [.ptr sl 0,.int .i64 0]) h'):
  zA Tryz.prog 91 [.ptr sp 0] σ K:=by
 have s:=g.s;have F:=g.F;have hn6:=s.le;obtain⟨hN,hN1⟩:=QM s;have g0:=hR.O.one;have g1:=hR.P.one;have g2:=hR.C.one;have t:=tb g;have g0c:=g.cent;have gg:=g;have g0p:=g.pr;refine zA.gh ?_;have hsn:¬sp=σ.next:=by have:=hs.lt;omega
 have r3:σ.rd sp 0 3=some [vO,vP,vC]:=by rw [ZB hs.obj];rfl
 refine zB mix Tryz.func91 ?_;simp only [pwA,seval,-iQ0,hsn,r3,g0,g1,g2];generalize hH:σ.new [.ptr sp 0]=H1;have kH:Keep σ H1:=by rw [←hH];exact zC _ _
 have nH:H1.next=σ.next+1:=by rw [←hH];rfl
 have oH:H1.obj σ.next=some [.ptr sp 0]:=by rw [←hH,zH,if_pos rfl]
 clear hH;have e0:∀{g:PHeap},Keep H1 g→g.rd1 σ.next 0=some (.ptr sp 0):=fun k=>by rw [zF ((k.obj _ (by omega)).trans oH)];rfl
 have hs1:=hs.keep kH;clear r3 hsn;refine zBq hR sz fun tt ht=>?_
 obtain rfl:tt=true:=ht.2 ⟨g.pr,g.co⟩;simp only [pwA,seval,-iQ0,e0 (Keep.refl H1)];refine zDC s hs1 hR.O ?_;rw [hN]
 by_cases hb:nEl O≤32
 rotate_left
 ·have hgt:(32:Int)<(nEl O:Int):=by omega
  simp only [pwA,seval,-iQ0,hgt];exact Gh.fin0 kH ⟨trivial,trivial,trivial⟩ (hk1 (by omega))
 have hgt:¬(32:Int)<(nEl O:Int):=by omega
 have hk2:=hk2 hb;clear hk1;simp only [pwA,seval,-iQ0,hgt,e0 (Keep.refl H1)];refine zBt g hs1 hR hb fun vT hT=>?_
 obtain⟨N,eN⟩:∃N,N=nEl O:=⟨_,rfl⟩
 obtain⟨T,eT⟩:∃T,T=tbM O P C:=⟨_,rfl⟩
 rw [←eN,←eT]at hk2 t hT
 rw [←eN]at hb hN1 hN
 have hTl:=hT;obtain⟨wT,aT,rT,rfl,hrT⟩:=hT;rw [zBC]at hTl ⊢
 simp only [pwA,seval,-iQ0,zFx,zDX];refine zHz rfl (cs:=[]) (by rw [zH];exact if_pos rfl) (zEr 1 [] (by simp)) ?_
 simp only [pwA,seval,-iQ0];have p32:∀{m:Nat},m<2 ^ N→m<2 ^ 32:=fun h=>Nat.lt_of_lt_of_le h (Nat.pow_le_pow_right (by omega) hb)
 have c32:(2:Nat) ^ 32=4294967296:=by decide
 have cN:(2:Nat) ^ N≤2 ^ 32:=Nat.pow_le_pow_right (by omega) hb
 have h63:∀{m a:Nat},a<N→a≤64:=fun h=>by omega
 refine zD (fun r vs g=>∃(i:Nat) (L:List Nat) (vm:PV),i≤L.length∧r=2 ^ N-i∧vs=[.ptr σ.next 0,.fz wT aT N rT,vm,.mref (H1.next+1),.int .i64 i]∧Keep H1 g∧PSl H1.next 1 g vm L.length (u64s L)∧g.obj (H1.next+1)=some (mapC L)∧(∀off l c,vm≠.sl (H1.next+1) off l c)∧H1.next+1<g.next∧LOK N T L∧outer N T (2 ^ N-i) i L=allM N T) (2 ^ N) ?_ ?_
 ·refine⟨0,[1],.sl H1.next 0 1 (.known 1),by simp,rfl,rfl,?_,?_,?_,fun off l c e=>by injection e with e2;omega,?_,zGH t,rfl⟩
  ·exact(zC _ _).new _
  ·refine⟨H1.next,.known 1,rfl,.inr rfl,?_,rfl,Nat.le_refl _,by show _<H1.next+1+1;omega⟩
   rw [zH,if_neg (by show ¬H1.next=H1.next+1;omega),zH,if_pos rfl]
   rfl
  ·rw [zH];exact if_pos rfl
  ·show _<H1.next+1+1
   omega
 rintro r vs g ⟨i,L,vm,hiL,rfl,rfl,kg,hm,hM,hne,hlt,hL,hout⟩
 have hLl:=hL.len;have pl:=hm.pLen
 by_cases hil:i<L.length
 rotate_left
 ·obtain rfl:i=L.length:=by omega
  rw [zFX _ (Nat.le_refl _)]at hout
  rw [←hout]at hk2
  simp only [pwA,seval,-iQ0,pl,hil,e0 kg,zFx];have hLp:0<L.length:=by rw [hout];exact zPD N T
  clear hout hil pl;have kσ:Keep σ g:=kH.trans kg;have hsg:=hs1.keep kg;obtain⟨sm,cm,rfl,fm,om,lm,bm,nm⟩:=hm;have mk2:(L.length:Int)*((24:Nat):Int)≤140737488355328:=by omega
  refine zD (fun r vs h=>∃(k:Nat) (vL:PV) (rows:List PV) (mc:List (List UInt8×Int)),k≤L.length∧r=L.length-k∧vs=[.ptr σ.next 0,.fz wT aT N rT,.ptr g.next 0,.mref (g.next+1),.sl sm 0 L.length cm,.int .i64 L.length,.int .i64 k]∧Keep g h∧g.next+1<h.next∧h.obj g.next=some [.ptr sp 0,vL,.fz true .nils 0 []]∧h.obj (g.next+1)=some (mapS mc)∧PAcc g.next 1 h vL k rows∧(∀off l c,vL≠.sl g.next off l c)∧(∀off l c,vL≠.sl (g.next+1) off l c)∧All2 FII rows ((L.take k).map (seqM O))∧(∀r∈rows,Own σ.top h.top r)) L.length ?_ ?_
  ·refine⟨0,_,[],[],by omega,rfl,rfl,(zC _ _).new _,by show _<g.next+1+1;omega,?_,?_,PAcc.nil _ _ _,fun off l c e=>(by cases e),fun off l c e=>(by cases e),(by simpa using All2.nil _),fun r hr=>(by cases hr)⟩
   ·rw [zH,if_neg (by show ¬g.next=g.next+1;omega),zH,if_pos rfl]
   ·rw [zH];exact if_pos rfl
  clear hM hne
  rintro r vs h ⟨k,vL,rows,mc,hk,rfl,rfl,kh,hgn,ol,oM,hA,hne1,hne2,hrows,hown⟩
  by_cases hkn:k<L.length
  rotate_left
  ·obtain rfl:k=L.length:=by omega
   rw [List.take_length]at hrows
   obtain⟨sX,capX,rfl,hfX,oX,lX,gX,ltX⟩:=hA.pos hLp;have hrl:rows.length=L.length:=by rw [hrows.1,List.length_map]
   have rl:h.rd1 g.next 1=some (.sl sX 0 L.length capX):=by rw [zF ol];rfl
   have hX1:sX≠g.next:=fun e=>hne1 0 L.length capX (by rw [e])
   have hX2:sX≠g.next+1:=fun e=>hne2 0 L.length capX (by rw [e])
   have nσ:σ.next<g.next:=by have:=kg.next;omega
   have hspg:=hsg.lt;have osp:=(hsg.keep kh).obj;have osc:h.obj σ.next=some [.ptr sp 0]:=by rw [kh.obj _ nσ,kg.obj _ (by omega)];exact oH
   simp only [pwA,seval,-iQ0,hkn,rl];refine zPY (n:=L.length) (rows:=rows) (sp:=sp) (sc:=σ.next) (cs:=[vO,vP,vC]) oX hrl.symm hLp (by omega) (hrows.bels fun v x hv=>hv.bel 0) (hrows.ones fun v x hv=>hv.one) osp ⟨hR.O.bel 0,hR.P.bel 0,hR.C.bel 0,trivial⟩ osc (by omega) (by omega) (fun i j=>cfS O ((L.map (seqM O)).getD i []) ((L.map (seqM O)).getD j [])) (zQt O fun i=>(L.map (seqM O)).getD i.val []) (fun i j hi hj aa ab=>?_) fun p hp hso=>?_
   ·have gi:∀{i:Nat},i<L.length→FII (rows.getD i .undef) ((L.map (seqM O)).getD i [])∧CanG O (HM O (L.getD i 0)) ((L.map (seqM O)).getD i []):=fun {i} hi=>by
     obtain⟨c,h1,h2⟩:=hrows.at (k:=i) (by rw [List.length_map];exact hi)
     rw [List.getElem_map]at h2
     rw [List.getD_eq_getElem?_getD,h1,List.getD_eq_getElem?_getD,List.getElem?_map,List.getElem?_eq_getElem hi,List.getD_eq_getElem?_getD,List.getElem?_eq_getElem hi];refine⟨h2,?_⟩;have hsu:=hL.sub _ (List.getElem_mem hi);rw [eT,eN]at hsu
     exact zAS gg hsu
    exact zG7 s (FI.loose hR.O) (FII.loose (gi hi).1) (gi hi).2 (FII.loose (gi hj).1) (gi hj).2 rfl
   obtain⟨rows',er⟩:∃rows':List PV,rows'=p.map fun i=>rows.getD i .undef:=⟨_,rfl⟩
   obtain⟨M,eM⟩:∃M:List (List (List Int)),M=p.map fun i=>(L.map (seqM O)).getD i []:=⟨_,rfl⟩
   have hpl:p.length=L.length:=by rw [hp.length_eq,List.length_range]
   have hrM:All2 FII rows' M:=by
    refine⟨by rw [er,eM];simp,fun k c w hc hw=>?_⟩
    rw [er,List.getElem?_map,Option.map_eq_some_iff]at hc
    rw [eM,List.getElem?_map,Option.map_eq_some_iff]at hw
    obtain⟨i,hi,rfl⟩:=hc;obtain⟨i',hi',rfl⟩:=hw;rw [hi]at hi'
    cases hi';have hil:i<L.length:=List.mem_range.1 (hp.mem_iff.1 (List.mem_of_getElem? hi));obtain⟨c,h1,h2⟩:=hrows.at (k:=i) (by rw [List.length_map];exact hil)
    rw [List.getElem_map]at h2
    rw [List.getD_eq_getElem?_getD,h1,List.getD_eq_getElem?_getD,List.getElem?_map,List.getElem?_eq_getElem hil];exact h2
   have hMp:M.Perm (L.map (seqM O)):=by
    rw [eM];refine(hp.map _).trans (List.Perm.of_eq ?_);refine List.ext_getElem (by simp) fun i h1 h2=>?_
    rw [List.getElem_map,List.getElem_range,List.getD_eq_getElem?_getD,List.getElem?_eq_getElem h2]
    rfl
   have hMs:M.Pairwise (fun u v=>¬ltS O v u):=by
    rw [eM,List.pairwise_map];exact hso
   have hown':∀r∈rows',Own σ.top h.top r:=fun r hr=>by
    rw [er]at hr
    obtain⟨i,hi,rfl⟩:=List.mem_map.1 hr;have hil:i<rows.length:=by rw [hrl];exact List.mem_range.1 (hp.mem_iff.1 hi)
    rw [List.getD_eq_getElem?_getD,List.getElem?_eq_getElem hil];exact hown _ (List.getElem_mem hil)
   rw [←er];have hrl':rows'.length=L.length:=by rw [er,List.length_map,hpl]
   have oX':(h.set sX rows').obj sX=some rows':=by rw [zn,if_pos rfl]
   have ol':(h.set sX rows').obj g.next=some [.ptr sp 0,.sl sX 0 L.length capX,.fz true .nils 0 []]:=by rw [zn,if_neg (Ne.symm hX1)];exact ol
   have oM':(h.set sX rows').obj (g.next+1)=some (mapS mc):=by rw [zn,if_neg (Ne.symm hX2)];exact oM
   have kh':Keep g (h.set sX rows'):=kh.set gX _;have nh':(h.set sX rows').next=h.next:=rfl;have th':(h.set sX rows').top=h.top:=rfl;rw [←th']at hown'
   clear oX ol oM hA hrows hso hp er eM hpl hrl rl;generalize h.set sX rows'=H5 at *
   have rl5:H5.rd1 g.next 1=some (.sl sX 0 L.length capX):=by rw [zF ol'];rfl
   simp only [pwA,seval,-iQ0,rl5];refine zD (fun r vs h=>∃(k:Nat) (vM:PV) (cells:List PV),k≤L.length∧r=L.length-k∧vs=[.ptr g.next 0,.mref (g.next+1),.sl sX 0 L.length capX,.int .i64 L.length,.int .i64 k]∧Keep g h∧H5.next≤h.next∧H5.top≤h.top∧h.obj g.next=some [.ptr sp 0,.sl sX 0 L.length capX,vM]∧h.obj (g.next+1)=some (mapS mc)∧h.obj sX=some rows'∧PAcc g.next 1 h vM k cells∧(∀t,t<H5.next→∀off l c,vM≠.sl t off l c)) L.length ⟨0,_,[],by omega,rfl,rfl,kh',Nat.le_refl _,Nat.le_refl _,ol',oM',oX',PAcc.nil _ _ _,fun t _ off l c e=>by cases e⟩ ?_
   rintro r vs h6 ⟨k,vM,cells,hk,rfl,rfl,k6,n6,t6,ol6,oM6,oX6,hA6,hne6⟩
   by_cases hkn:k<L.length
   rotate_left
   ·simp only [pwA,seval,-iQ0,hkn]
    refine Gh.ret (hk2 g.next sX h6 capX rows' vM M (kσ.trans k6) (by omega) (by omega) (by rw [hrl'];exact ol6) oX6 (by omega) (fun r hr=>(hown' r hr).mono (Nat.le_refl _) t6) hrM hMp hMs)
   have hkI:=inb hkn;have wk:IntKind.i64.wrap ((k:Int)+1)=((k+1:Nat):Int):=wrapS (show k<4294967297 by omega) (by omega)
   have hML:M.length=L.length:=by rw [←hrM.1,hrl']
   obtain⟨c,h1,h2⟩:=hrM.at (k:=k) (by rw [hML];exact hkn)
   have rX:h6.rd1 sX k=some c:=by rw [zF oX6];exact h1
   have oc:=h2.one;have rM6:h6.rd1 g.next 2=some vM:=by rw [zF ol6];rfl
   have hcan:∃m,m∈L∧M[k]'(by rw [hML];exact hkn)=seqM O m:=by
    have:=hMp.mem_iff.1 (List.getElem_mem (l:=M) (n:=k) (by rw [hML];exact hkn))
    obtain⟨m,h1,h2⟩:=List.mem_map.1 this;exact⟨m,h1,h2.symm⟩
   obtain⟨m,hmL,em⟩:=hcan;rw [em]at h2
   have hsu:=hL.sub _ hmL;rw [eT,eN]at hsu
   have hca:=zAS gg hsu;have oM1:=hA6.one;simp only [pwA,seval,-iQ0,hkn,hkI,rX,oc,rM6,oM1];refine zIN h2 (by have:=hca.len;omega) (fun y hy=>by have:=(hca.one y hy).1.len;omega) fun q=>?_
   obtain⟨rr,hr1,z,hz⟩:=zIC q mc;have gn6:¬g.next=h6.next:=by omega
   simp only [pwA,seval,-iQ0,zDY,oM1,oc,rM6];refine zMa oM6 hr1 ?_;rw [show rr.getD (ofAV (.int .u64 0))=.int .u64 z from hz]
   simp only [pwA,seval,-iQ0,oM1,oc,rM6,gn6];refine zAU (PAcc.pushS (σb:=g) (bytes:=8) k6 hA6 rfl (by omega) (by omega) fun v' h4 k4 p4 r1 r2 r3 t4=>?_)
   have t4':h4.top=h6.top:=t4;have ol4:h4.obj g.next=some [.ptr sp 0,.sl sX 0 L.length capX,vM]:=by rw [r1 _ (by omega) (hne6 _ (by omega))];exact ol6
   have w4:h4.wr g.next 2 [v']=some (h4.set g.next [.ptr sp 0,.sl sX 0 L.length capX,v']):=by
    rw [Zr ol4]
    have:v'.one=true:=p4.one
    simp [this]
   have c4:=p4.cells;simp only [pwA,seval,-iQ0,w4,c4,wk];refine⟨_,by omega,k+1,v',_,by omega,rfl,rfl,k4.set (Nat.le_refl _) _,by show _≤h4.next;omega,by show _≤h4.top;omega,?_,?_,?_,zCm p4.acc (r2 _ (by omega)),fun t ht=>r2 _ (by omega)⟩
   ·rfl
   ·rw [r1 _ (by omega) (hne6 _ (by omega))];exact oM6
   ·rw [if_neg hX1,r1 _ (by omega) (hne6 _ (by omega))];exact oX6
  have hkI:=inb hkn;have wk:IntKind.i64.wrap ((k:Int)+1)=((k+1:Nat):Int):=wrapS (show k<4294967297 by omega) (by omega)
  have hsub:=hL.sub _ (List.getElem_mem hkn);obtain⟨m,em⟩:∃m,m=L[k]:=⟨_,rfl⟩
  rw [←em]at hsub
  have b32:=p32 hsub.lt;have rm:h.rd1 sm k=some (.int .u64 (m:Int)):=by rw [zF (by rw [kh.obj _ nm];exact om),zHV hkn,em]
  simp only [pwA,seval,-iQ0,hkn,hkI,rm,e0 (kg.trans kh)];refine zAV s (hsg.keep kh) hR fun qs qb h1 k1 n1 n2 q1=>?_
  simp only [pwA,seval,-iQ0];refine zD (fun r vs h2=>∃(x:Nat) (rb:List PV) (D:List (Option (List Int))),x≤N∧r=N-x∧vs=[.ptr σ.next 0,.fz wT aT N rT,.ptr g.next 0,.mref (g.next+1),.int .u64 (m:Int),.ptr qs 0,.sl sm 0 L.length cm,.int .i64 L.length,.int .i64 k,.int .i64 N,.int .i64 x]∧Keep (h1.set qb rb) h2∧All2 (DRow O.length) rb D∧OkD O D∧QI O P C D []∧(∀H,gB O P C H→(InD H D↔∀j,j<x→m.testBit j=true→H (el O j)))) N ?_ ?_
  ·refine⟨0,_,List.replicate O.length none,by omega,rfl,rfl,Keep.self q1.bobj (Keep.refl _),⟨by simp,fun k c r hc hr=>?_⟩,OkD.start O.length rfl,QI.start _,fun H _=>⟨fun _ j hj=>absurd hj (by omega),fun _=>InD.start _⟩⟩
   rw [List.getElem?_replicate]at hc hr
   split at hc
   ·rename_i h
    rw [if_pos h]at hr
    cases hc;cases hr;exact .inl ⟨rfl,rfl⟩
   ·cases hc
  rintro r vs h2 ⟨x,rb,D,hxN,rfl,rfl,k2,hrb,hD,hQ,hI⟩
  have q2:SeqG h2 qs qb sp O.length rb vO vP vC:=(q1.setB rb).keep k2;have k02:Keep h h2:=by
   refine⟨Nat.le_trans k1.next k2.next,Nat.le_trans k1.top k2.top,fun t ht=>?_⟩
   have ht1:t<h1.next:=Nat.lt_of_lt_of_le ht k1.next;rw [k2.obj t ht1,zn,if_neg (by omega)]
   exact k1.obj t ht
  by_cases hxn:x<N
  rotate_left
  ·obtain rfl:x=N:=by omega
   simp only [pwA,seval,-iQ0,hxn];refine zJt s F g0c q2 hR hD hrb fun vu u t1 fu cd ow ht1=>?_
   have k02':=k02;have k02:Keep h (h2.up t1):=k02.up ht1;have tt1:(h2.up t1).top=t1:=rfl;have ow':Own σ.top t1 vu:=ow.mono (Nat.le_trans (kH.trans kg).top (Nat.le_trans kh.top k02'.top)) (Nat.le_refl _);have hown':∀r∈rows++[vu],Own σ.top t1 r:=fun r hr=>by
    rcases List.mem_append.1 hr with hr|hr
    ·exact(hown r hr).mono (Nat.le_refl _) (tt1 ▸ k02.top)
    ·rw [List.mem_singleton.1 hr];exact ow'
   generalize h2.up t1=h2 at *
   rw [eT]at hsub
   have eu:=zNp gg eN hsub hD hQ cd hI;have ou:=fu.one;have kg2:=kh.trans k02;simp only [pwA,seval,-iQ0,ou];refine zIN fu (by have:=cd.len;omega) (fun y hy=>by have:=(cd.one y hy).1.len;omega) fun q=>?_
   obtain⟨mc2,hmc2⟩:=zIB q (m:Int) mc;simp only [pwA,seval,-iQ0,ou,zDX];refine zOZ rfl (by rw [k02.obj _ hgn];exact oM) hmc2 ?_
   have ol2:(h2.set (g.next+1) (mapS mc2)).obj g.next=some [.ptr sp 0,vL,.fz true .nils 0 []]:=by
    rw [zn,if_neg (by omega),k02.obj _ (by omega)];exact ol
   have rl:(h2.set (g.next+1) (mapS mc2)).rd1 g.next 1=some vL:=by rw [zF ol2];rfl
   have cu:=fu.cells;have oL:=hA.one;simp only [pwA,seval,-iQ0,rl,ou,cu];refine zAU (PAcc.pushS (σb:=g) (bytes:=24) (kg2.set (by omega) _) (zCm (hA.keep k02) hne2) rfl (by omega) (by omega) fun v' h4 k4 p4 r1 r2 r3 t4=>?_)
   have t4':h4.top=h2.top:=t4;have nx2:(h2.set (g.next+1) (mapS mc2)).next=h2.next:=rfl;have hgn2:g.next+1<h2.next:=Nat.lt_of_lt_of_le hgn k02.next;have ol4:h4.obj g.next=some [.ptr sp 0,vL,.fz true .nils 0 []]:=by rw [r1 _ (by omega) hne1];exact ol2
   have w4:h4.wr g.next 1 [v']=some (h4.set g.next [.ptr sp 0,v',.fz true .nils 0 []]):=by
    rw [Zr ol4]
    have:v'.one=true:=p4.one
    simp [this]
   have c4:=p4.cells;simp only [pwA,seval,-iQ0,w4,c4,wk];refine⟨_,by omega,k+1,v',rows++[vu],mc2,by omega,rfl,rfl,k4.set (Nat.le_refl _) _,by show _<h4.next;omega,rfl,?_,zCm p4.acc (r2 _ (by omega)),r2 _ (by omega),r2 _ (by omega),?_,fun r hr=>by rw [show(h4.set g.next [.ptr sp 0,v',.fz true .nils 0 []]).top=t1 from t4'.trans tt1];exact hown' r hr⟩
   ·rw [r1 _ (by omega) hne2,zn,if_pos rfl]
   ·rw [List.take_succ_eq_append_getElem hkn,List.map_append,List.map_singleton,←em,←eu]
    exact hrows.snoc fu
  have wx:IntKind.i64.wrap ((x:Int)+1)=((x+1:Nat):Int):=wrapS (show x<1000 by omega) (by omega)
  have s1:=shr_u m (a:=x) (by omega)
  have s2:=zD0 b32 x
  by_cases hbt:m.testBit x=true
  rotate_left
  ·rw [show bt m x=0 from if_neg hbt]at s2
   simp only [pwA,seval,-iQ0,hxn,s1,s2,wx];exact⟨_,by omega,x+1,rb,D,by omega,rfl,rfl,k2,hrb,hD,hQ,fun H hH=>(hI H hH).trans ⟨fun q j hj hb=>by
    rcases Nat.lt_or_ge j x with c|c
    ·exact q j c hb
    ·exact absurd hb (by rw [show j=x by omega];exact hbt),fun q j hj hb=>q j (by omega) hb⟩⟩
  rw [show bt m x=1 from if_pos hbt]at s2
  simp only [pwA,seval,-iQ0,hxn,s1,s2,e0 (kg.trans (kh.trans k02))];refine zNG s q2.pg hR.O (by omega) fun v1 f1 c1=>?_
  have o1:=f1.one;simp only [pwA,seval,-iQ0,o1,c1];refine zA.frz (s:=h2.next) (cs:=[v1]) (by rw [zH];exact if_pos rfl) ⟨f1.bel 0,trivial⟩ fun o3=>?_
  have k3:Keep h2 ((h2.new [v1]).kill h2.next):=(zC h2 _).kill (Nat.le_refl _);generalize (h2.new [v1]).kill h2.next=H3 at *
  have hne3:¬qs=h2.next:=by have:=q2.lt;omega
  simp only [sbs,sb,capOK,and_self,if_true,decide_true,Nat.le_refl,hne3,false_and,if_false];have q3:=q2.keep k3;refine zIs s F g0c (qi.isp g0p) q3 hR hD hrb hQ (L:=[el O x]) ⟨true,_,[v1],rfl,All2.cons (All2.nil _) f1⟩ (fun y hy=>by rw [List.mem_singleton.1 hy];exact Qa s x) (by simp) fun tt rb' D' hrb' hD' hQ' hN' _ _=>?_
  simp only [pwA,seval,-iQ0,wx];refine⟨_,by omega,x+1,rb',D',by omega,rfl,rfl,zMy (k2.trans k3),hrb',hD',hQ',fun H hH=>?_⟩
  rw [hN' H hH,hI H hH];constructor
  ·rintro ⟨z1,z2⟩ j hj hb
   rcases Nat.lt_or_ge j x with c|c
   ·exact z1 j c hb
   ·rw [show j=x by omega];exact z2 _ (by simp)
  ·intro z
   exact⟨fun j hj hb=>z j (by omega) hb,fun y hy=>by rw [List.mem_singleton.1 hy];exact z x (by omega) hbt⟩
 have hilI:=inb hil;have wi:IntKind.i64.wrap ((i:Int)+1)=((i+1:Nat):Int):=wrapS (show i<4294967297 by omega) (by omega)
 have hsub:=hL.sub _ (List.getElem_mem hil);have hst:=zFW (N:=N) (T:=T) (List.getElem?_eq_getElem hil) (show 0<2 ^ N-i by omega)
 rw [hst]at hout
 obtain⟨m,em⟩:∃m,m=L[i]:=⟨_,rfl⟩
 rw [←em]at hsub hout
 have hLm:L[i]? = some m:=by rw [em];exact List.getElem?_eq_getElem hil
 have b32:=p32 hsub.lt;simp only [pwA,seval,-iQ0,pl,hil,hilI];refine zD (fun r vs g=>∃(x:Nat) (L:List Nat) (vm:PV),x≤N∧L[i]? = some m∧r=N-x∧vs=[.ptr σ.next 0,.fz wT aT N rT,vm,.mref (H1.next+1),.int .i64 i,.int .i64 N,.int .i64 x]∧Keep H1 g∧PSl H1.next 1 g vm L.length (u64s L)∧g.obj (H1.next+1)=some (mapC L)∧(∀off l c,vm≠.sl (H1.next+1) off l c)∧H1.next+1<g.next∧LOK N T L∧outer N T (2 ^ N-i-1) (i+1) (inner N T m (N-x) x L)=allM N T) N ?_ ?_
 ·exact⟨0,L,vm,by omega,hLm,rfl,rfl,kg,hm,hM,hne,hlt,hL,hout⟩
 clear kg hm hM hne hlt hL hout hLm em hst hil hilI hLl pl hiL
 rintro r vs g ⟨x,L,vm,hxN,hLm,rfl,rfl,kg,hm,hM,hne,hlt,hL,hout⟩
 have hLl:=hL.len;obtain⟨hil,em⟩:=List.getElem?_eq_some_iff.1 hLm
 by_cases hxn:x<N
 rotate_left
 ·obtain rfl:x=N:=by omega
  rw [Nat.sub_self]at hout
  simp only [pwA,seval,-iQ0,hxn,wi];exact⟨2 ^ x-(i+1),by omega,i+1,L,vm,by omega,rfl,rfl,kg,hm,hM,hne,hlt,hL,by rw [←Nat.sub_sub];exact hout⟩
 have wx:IntKind.i64.wrap ((x:Int)+1)=((x+1:Nat):Int):=wrapS (show x<1000 by omega) (by omega)
 have hilI:=inb hil;have hm0:=hm;obtain⟨sm,cm,rfl,fm,om,lm,bm,nm⟩:=hm;have rm:g.rd1 sm i=some (.int .u64 (m:Int)):=by rw [zF om,zHV hil,em]
 have s1:=shr_u m (a:=x) (by omega)
 have s2:=zD0 b32 x;obtain⟨k,ek⟩:∃k,N-x=k+1:=⟨N-x-1,by omega⟩
 have ek2:N-(x+1)=k:=by omega
 rw [ek,inner]at hout
 by_cases hbt:m.testBit x=true
 ·rw [show bt m x=1 from if_pos hbt]at s2
  rw [show ins N T m L x=L by unfold ins;rw [if_pos hbt]]at hout
  simp only [pwA,seval,-iQ0,hxn,hil,hilI,rm,s1,s2,wx];exact⟨_,by omega,x+1,L,_,by omega,hLm,rfl,rfl,kg,hm0,hM,hne,hlt,hL,by rw [ek2];exact hout⟩
 rw [show bt m x=0 from if_neg hbt]at s2
 simp only [pwA,seval,-iQ0,hxn,hil,hilI,rm,s1,s2];refine zHF t hb hTl hsub.lt hsub.zero hxn ?_;have hLi:=hL.ins t hsub.lt hxn (x:=x);have e32:=p32 (zND (N:=N) (T:=T) m x)
 by_cases hin:ext N T m x∈L
 ·rw [show ins N T m L x=L by unfold ins;rw [if_neg hbt,if_pos hin]]at hout
  simp only [pwA,seval,-iQ0,zDY];refine zGd hM (zEs _ _) ?_;rw [if_pos hin];simp only [pwA,seval,-iQ0,Option.getD_some,wx];exact⟨_,by omega,x+1,L,_,by omega,hLm,rfl,rfl,kg,hm0,hM,hne,hlt,hL,by rw [ek2];exact hout⟩
 have ei:ins N T m L x=L++[ext N T m x]:=by unfold ins;rw [if_neg hbt,if_neg hin]
 rw [ei]at hout hLi
 simp only [pwA,seval,-iQ0,zDY];refine zGd hM (zEs _ _) ?_;rw [if_neg hin];simp only [pwA,seval,-iQ0,Option.getD_none,ofAV,zDX];refine zHz rfl hM (zEr _ _ hin) ?_;simp only [pwA,seval,-iQ0];have hLil:=hLi.len;rw [List.length_append,List.length_singleton]at hLil
 refine PAcc.pushS (σb:=H1) (bytes:=8) (h:=g.set (H1.next+1) (mapC (L++[ext N T m x]))) (kg.set (by omega) _) (PSl.acc ⟨sm,cm,rfl,fm,by rw [zn,if_neg (fun e=>hne 0 _ cm (by rw [e]))];exact om,lm,bm,nm⟩) rfl (by omega) (by omega) fun v' h2 k2 p2 r1 r2 r3=>?_
 simp only [pwA,seval,-iQ0,wx];refine⟨_,by omega,x+1,L++[ext N T m x],v',by omega,by rw [List.getElem?_append_left hil];exact hLm,rfl,rfl,k2,?_,?_,r2 _ hlt,?_,hLi,by rw [ek2];exact hout⟩
 ·rw [zLk,List.length_append]
  exact p2
 ·rw [r1 _ hlt hne,zn,if_pos rfl]
 ·have:(g.set (H1.next+1) (mapC (L++[ext N T m x]))).next=g.next:=rfl
  omega
end Go.Proofs
namespace Go.Grp
end Go.Grp
set_option linter.unusedSimpArgs false
set_option linter.unusedVariables false
set_option linter.unusedSectionVars false
namespace Go.Proofs
open Go.Ab Go.Lie Go.Grp Go.Lat
variable {σ h:PHeap} {K:PV→PHeap→Prop} {O x y:List Int} {P:List (List Int)} {C:List (List (List Int))} {u v w:List (List Int)} {vO vP vC vL vU vV vx vy:PV} {sp N a b m t d:Nat} {F L:List Nat} {M:List (List (List Int))}
theorem zMj {u v w:List (List Int)} (h1:ltS O u v) (h2:ltS O v w):ltS O u w:=zAy h1 h2
theorem zOf {u v:List (List Int)} (h1:ltS O u v):¬ltS O v u:=fun h2=>by
 unfold ltS cfS at h1 h2
 rw [zCZ (szU O u::u.flatten)]at h2
 omega
def insP (O:List Int) (u:List (List Int)):List (List (List Int))→List (List (List Int))
 | []=>[u]
 | w::M=>if cfS O u w<0 then u::w::M else w::insP O u M
theorem zDQ (O:List Int) (u:List (List Int)):∀M,(insP O u M).Perm (u::M)
 | []=>List.Perm.refl _
 | w::M=>by
  rw [insP]
  split
  ·exact List.Perm.refl _
  ·exact((zDQ O u M).cons w).trans (List.Perm.swap u w M)
theorem zEU:∀{M:List (List (List Int))},M.Pairwise (fun a b=>¬ltS O b a)→(insP O u M).Pairwise fun a b=>¬ltS O b a
 | [],_=>List.pairwise_singleton _ _
 | w::M,h=>by
  rw [insP];have h2:=List.pairwise_cons.1 h
  split
  ·rename_i hlt
   refine List.pairwise_cons.2 ⟨fun z hz=>?_,h⟩
   rcases List.mem_cons.1 hz with rfl|hz
   ·exact zOf hlt
   ·exact fun hzu=>h2.1 z hz (zMj hzu hlt)
  ·rename_i hge
   refine List.pairwise_cons.2 ⟨fun z hz=>?_,zEU h2.2⟩
   rcases List.mem_cons.1 ((zDQ O u M).mem_iff.1 hz)with rfl|hz
   ·exact hge
   ·exact h2.1 z hz
theorem zDP:∀(M:List (List (List Int))) (i:Nat),(∀w∈M.take i,¬cfS O u w<0)→insP O u M=M.take i++insP O u (M.drop i)
 | M,0,_=>rfl
 | [],i+1,_=>rfl
 | w::M,i+1,h=>by
  rw [insP,if_neg (h w (by simp)),zDP M i fun w hw=>h w (by simp [hw])]
  rfl
set_option maxHeartbeats 1600000 in
theorem zIH (s:Shp O P C) (hR:IsPr vO vP vC O P C) (hL:FIII vL M) (hM:∀w∈M,∃H,CanG O H w) (hMl:M.length≤4294967296) (hU:FII vU u) {H:List Int→Prop} (hu:CanG O H u) (hn:u∉M) (hk:∀v,FIII v (insP O u M)→K v σ):
  zA Tryz.prog 186 [.agg [vO,vP,vC],vL,vU] σ K:=by
 have hn6:=s.le;have g0:=hR.O.one;have g1:=hR.P.one;have g2:=hR.C.one;have oU:=hU.one;have cU:=hU.cells;obtain⟨wL,aL,rL,rfl,hrL⟩:=hL;refine zA.gh ?_;refine zB mix Tryz.func186 ?_;simp only [pwA,seval,-iQ0,g0,g1,g2];generalize hH:σ.new [vO,vP,vC]=H1;have kH:Keep σ H1:=by rw [←hH];exact zC _ _
 have nH:H1.next=σ.next+1:=by rw [←hH];rfl
 have oH:H1.obj σ.next=some [vO,vP,vC]:=by rw [←hH,zH,if_pos rfl]
 clear hH;have e3:∀{g:PHeap},Keep H1 g→g.rd σ.next 0 3=some [vO,vP,vC]:=fun k=>by rw [ZB ((k.obj _ (by omega)).trans oH)];rfl
 refine zD (fun r vs h=>∃(i:Nat) (p:Bool) (vo:PV) (os:List PV),i≤M.length∧r=M.length-i∧vs=[.fz wL aL M.length rL,vU,.ptr σ.next 0,vo,.bool p,.int .i64 i]∧Keep H1 h∧PSl H1.next 1 h vo os.length os∧os.length≤i+1∧
  ((p=false∧All2 FII os (M.take i)∧∀w∈M.take i,¬cfS O u w<0)∨(p=true∧All2 FII (os++rL.drop i) (insP O u M)))) M.length ?_ ?_
 ·refine⟨0,false,.sl (σ.next+1) 0 0 (.known 0),[],by omega,rfl,rfl,zC _ _,?_,by simp,.inl ⟨rfl,All2.nil _,fun w hw=>by simp at hw⟩⟩
  rw [←nH];exact PSl.new H1.next 1 (h:=H1) (n:=0) (cs:=[]) rfl (Nat.le_refl _)
 rintro r vs h ⟨i,p,vo,os,hi,rfl,rfl,kh,ho,hol,hor⟩
 by_cases hlt:i<M.length
 rotate_left
 ·obtain rfl:i=M.length:=by omega
  rcases hor with ⟨rfl,h1,h2⟩|⟨rfl,h1⟩
  ·rw [List.take_length]at h1 h2
   have e:=zDP (O:=O) (u:=u) M M.length (by rw [List.take_length];exact h2)
   rw [List.take_length,List.drop_length]at e
   simp only [pwA,seval,-iQ0,hlt,oU,cU];refine PSl.push (σb:=H1) (bytes:=24) kh ho (by omega) (by omega) fun v' h2 k2 p2=>?_
   simp only [pwA,seval,-iQ0];exact PAcc.fin (kH.trans k2) (p2.acc.low (by omega)) ((h1.snoc hU).bels fun v x hv=>hv.bel 0) fun a=>hk _ ⟨true,a,os++[vU],by rw [e];simp [insP,h1.1],by rw [e];exact h1.snoc hU⟩
  ·rw [List.drop_eq_nil_of_le (by rw [hrL.1];exact Nat.le_refl _),List.append_nil]at h1
   simp only [pwA,seval,-iQ0,hlt];exact PAcc.fin (kH.trans kh) (ho.acc.low (by omega)) (h1.bels fun v x hv=>hv.bel 0) fun a=>hk _ ⟨true,a,os,by rw [h1.1],h1⟩
 have hiI:=inb hlt;have wi:IntKind.i64.wrap ((i:Int)+1)=((i+1:Nat):Int):=wrapS hlt (by omega)
 obtain⟨c,h1,h2⟩:=hrL.at hlt;obtain⟨H',hw⟩:=hM _ (List.getElem_mem hlt);have oc:=h2.one;have cc:=h2.cells;simp only [pwA,seval,-iQ0,hlt,hiI,h1,oU,cU,oc,cc];refine zFj h2 hU (by have:=hw.len;omega) (fun x hx=>by have:=(hw.one x hx).1.len;omega) fun tt ht=>?_
 obtain rfl:tt=false:=by
  cases tt with
  | false=>rfl
  | true=>exact absurd (ht.1 rfl ▸ List.getElem_mem hlt) hn
 have et:M.take (i+1)=M.take i++[M[i]]:=List.take_succ_eq_append_getElem hlt;have ed:M.drop i=M[i]::M.drop (i+1):=List.drop_eq_getElem_cons hlt;have edr:rL.drop i=c::rL.drop (i+1):=by
  have hl:i<rL.length:=by rw [hrL.1];exact hlt
  rw [List.drop_eq_getElem_cons hl];rw [List.getElem?_eq_getElem hl]at h1
  cases h1;rfl
 rcases hor with ⟨rfl,q1,q2⟩|⟨rfl,q1⟩
 ·simp only [pwA,seval,-iQ0,hlt,hiI,h1,oU,cU,oc,cc,e3 kh,g0,g1,g2]
  refine zII s hR hU hu h2 hw ?_;have ei:=zDP (O:=O) (u:=u) M i q2;rw [ed]at ei
  by_cases hb:cfS O u M[i] < 0
  ·rw [decide_eq_true hb]
   rw [insP,if_pos hb]at ei
   simp only [pwA,seval,-iQ0,hlt,hiI,h1,oU,cU,oc,cc];refine PSl.push (σb:=H1) (bytes:=24) kh ho (by omega) (by omega) fun v' h2' k2 p2=>?_
   have ov:=p2.one;simp only [pwA,seval,-iQ0,hlt,hiI,h1,oc,cc,ov];have p2':PSl H1.next 1 h2' v' (os++[vU]).length (os++[vU]):=by rw [List.length_append];exact p2
   refine PSl.push (σb:=H1) (bytes:=24) k2 p2' (by rw [List.length_append];simp;omega) (by rw [List.length_append];simp;omega) fun v3 h3 k3 p3=>?_
   simp only [pwA,seval,-iQ0,wi];refine⟨_,by omega,i+1,true,v3,os++[vU]++[c],by omega,rfl,rfl,k3,(by rw [show(os++[vU]++[c]).length=(os++[vU]).length+1 from by simp];exact p3),(by have:=q1.1;rw [List.length_take]at this;simp;omega),.inr ⟨rfl,?_⟩⟩
   rw [ei];have hd:All2 FII (rL.drop i) (M.drop i):=hrL.drop i;rw [edr,ed]at hd
   have:=(q1.snoc hU).append hd
   simpa using this
  ·rw [decide_eq_false hb]
   simp only [pwA,seval,-iQ0,hlt,hiI,h1,oU,cU,oc,cc];refine PSl.push (σb:=H1) (bytes:=24) kh ho (by omega) (by omega) fun v' h2' k2 p2=>?_
   simp only [pwA,seval,-iQ0,wi];refine⟨_,by omega,i+1,false,v',os++[c],by omega,rfl,rfl,k2,by rw [List.length_append];exact p2,by simp;omega,.inl ⟨rfl,by rw [et];exact q1.snoc h2,fun w hw=>?_⟩⟩
   rw [et]at hw
   simp only [List.mem_append,List.mem_singleton]at hw
   rcases hw with hw|rfl
   ·exact q2 w hw
   ·exact hb
 ·simp only [pwA,seval,-iQ0,hlt,hiI,h1,oU,cU,oc,cc]
  refine PSl.push (σb:=H1) (bytes:=24) kh ho (by omega) (by omega) fun v' h2' k2 p2=>?_
  simp only [pwA,seval,-iQ0,wi];refine⟨_,by omega,i+1,true,v',os++[c],by omega,rfl,rfl,k2,by rw [List.length_append];exact p2,by simp;omega,.inr ⟨rfl,?_⟩⟩
  rw [edr]at q1
  simpa using q1
theorem zK7 (g:LG O P C) (hR:IsPr vO vP vC O P C) (hU:FII vU u) (hu:qJ O P C u) (hk:∀z:Int,K (.int .i64 z) σ):zA Tryz.prog 188 [.agg [vO,vP,vC],vU] σ K:=by
 have s:=g.s;have hn6:=s.le;have g0:=hR.O.one;have g1:=hR.P.one;have g2:=hR.C.one;have hS:=GC.sub g.F hu.1;refine zA.gh ?_;refine zB mix Tryz.func188 ?_;simp only [pwA,seval,-iQ0,g0,g1,g2];refine zB6 g hR hU hu fun vZ Z fZ hZ hZl=>?_
 obtain⟨wZ,aZ,rZ,rfl,hrZ⟩:=fZ;generalize hH:σ.new [vO,vP,vC]=H1;have kH:Keep σ H1:=by rw [←hH];exact zC _ _
 have r3:H1.rd σ.next 0 3=some [vO,vP,vC]:=by rw [←hH];simp only [pwA,seval,-iQ0]
 clear hH;simp only [pwA,seval,-iQ0];refine zD (fun r vs h=>∃(i:Nat) (z:Int),i≤Z.length∧r=Z.length-i∧vs=[.ptr σ.next 0,.fz wZ aZ Z.length rZ,.int .i64 z,.int .i64 i]∧h=H1) Z.length ⟨0,0,by omega,rfl,rfl,rfl⟩ ?_
 rintro r vs h ⟨i,z,hi,rfl,rfl,rfl⟩
 by_cases hlt:i<Z.length
 rotate_left
 ·simp only [pwA,seval,-iQ0,hlt]
  exact Gh.fin0 kH trivial (hk z)
 have hiI:=inb hlt;have wi:IntKind.i64.wrap ((i:Int)+1)=((i+1:Nat):Int):=wrapS hlt (by omega)
 obtain⟨w5,a5,h5⟩:=hrZ.rowI hlt;have hx:gS O Z[i]:=hS.inS ((hZ _).1 (List.getElem_mem hlt));obtain⟨n1,n2⟩:=zFY s hx;have hN:=QM s;have ho:=g.pr.ord;simp only [pwA,seval,-iQ0,hlt,hiI,h5,r3,g0,g1,g2];refine zBv s hR hx ⟨w5,a5,rfl⟩ ?_;rw [←n2];have wu:=wrapV (c:=(numF O Z[i] O.length).toNat) (by omega)
 obtain⟨q,hq⟩:∃q:Int,pbin .shl .other (.int .i64 1) (.int .u64 (((numF O Z[i] O.length).toNat:Nat):Int))=some (.int .i64 q):=by
  refine⟨IntKind.i64.wrap (1*2 ^ (min (((numF O Z[i] O.length).toNat:Nat):Int).toNat IntKind.i64.bits)),?_⟩;have e:ZY .shl .i64 1 (((numF O Z[i] O.length).toNat:Nat):Int)=some (.int .i64 (IntKind.i64.wrap (1*2 ^ (min (((numF O Z[i] O.length).toNat:Nat):Int).toNat IntKind.i64.bits)))):=by
   unfold ZY;rw [if_neg (by omega)]
  show(ZY .shl .i64 1 (((numF O Z[i] O.length).toNat:Nat):Int)).map ofAV=_
  rw [e];rfl
 simp only [pwA,seval,-iQ0,wu,hq,wi];exact⟨_,by omega,i+1,_,by omega,rfl,rfl⟩
end Go.Proofs
namespace Go.Grp
end Go.Grp
set_option linter.unusedSimpArgs false
set_option linter.unusedVariables false
set_option linter.unusedSectionVars false
namespace Go.Ab
open Go.RowKit
variable {P:Program} {σ:PHeap} {K:PV→PHeap→Prop}
def PHeap.bare (σ:PHeap):PHeap:=⟨σ.next,σ.top,fun _=>Option.none⟩
theorem zA.lendI {f:FuncId} {v:PV} {s n:Nat} {cap:Cap} {cs:List PV} (hs:σ.obj s=some cs) (hb:Bels 0 cs) (hn:cs.length=n) (hcap:∀c,cap=.known c→n≤c) (hv:Bel 0 v)
  (c:∀o,zA P f [v,.fz false (.sl o 0 n cap) n cs] σ.bare fun r _=>∃kd z,r=.int kd z∧K r σ):zA P f [v,.sl s 0 n cap] σ K:=by
 intro ι Z h r va;obtain⟨Z2,hZ2⟩:∃Z2:Nat→Prop,Z2=fun o=>Z o∨∃t ds,σ.obj t=some ds∧o=ι t:=⟨_,rfl⟩
 have hz2:∀o,Z2 o↔(Z o∨∃t ds,σ.obj t=some ds∧o=ι t):=fun o=>by rw [hZ2]
 clear hZ2;have r2:Rel ι Z2 σ.bare h:=by
  refine⟨r.hwf,fun o ho=>?_,r.top,fun t ht=>rfl,fun t ds ht=>(by cases ht),fun t t' ds ds' ht=>(by cases ht)⟩
  rcases(hz2 o).1 ho with ho|⟨t,ds,ht,rfl⟩
  ·exact r.zlt o ho
  ·exact r.hwf.lt (r.obj t ds ht).1
 have hzz:∀o,Z o→Z2 o∧h.obj o=h.obj o:=fun o ho=>⟨(hz2 o).2 (.inl ho),rfl⟩
 obtain⟨q1,q2,q3⟩:=r.obj s cs hs;have hcs0:VOKs Z h 0 cs:=VOKs.of_bel q2 hb;have e1:ers ι cs=ers idz cs:=Qg hcs0;have va2:VOKs Z2 h σ.next [v,.fz false (.sl (ι s) 0 n cap) n cs]:=by
  refine⟨(VOK.of_bel va.1 hv).mono hzz (Nat.zero_le _),⟨.inr ⟨ι s,0,cap,rfl,(hz2 _).2 (.inr ⟨s,cs,hs,rfl⟩),.inr ?_,hcap,fun x=>by cases x⟩,hcs0.mono hzz (Nat.le_refl _)⟩,trivial⟩
  rw [e1]at q1
  exact Qw q1 rfl
 have:=c (ι s) ι Z2 h r2 va2
 refine this.mono ?_
 rintro v' h' ⟨pv,σ',ι',Z',p1,p2,p3,rfl,kd,z,rfl,hk⟩
 have ob:∀t ds,σ.obj t=some ds→h'.obj (ι t)=h.obj (ι t):=fun t ds ht=>(p2.z _ ((hz2 _).2 (.inr ⟨t,ds,ht,rfl⟩))).2
 have hz3:∀o,Z o→Z o∧h'.obj o=h.obj o:=fun o ho=>⟨ho,(p2.z o ((hz2 o).2 (.inl ho))).2⟩
 exact⟨.int kd z,σ,ι,Z,⟨p1.hwf,fun o ho=>Nat.lt_of_lt_of_le (r.zlt o ho) p2.hnext,Nat.le_trans r.top p2.hnext,r.wf,fun t ds ht=>⟨by rw [ob t ds ht];exact(r.obj t ds ht).1,(r.obj t ds ht).2.1.mono hz3 (Nat.le_refl _),(r.obj t ds ht).2.2⟩,r.inj⟩,⟨Nat.le_refl _,p2.hnext,fun _ _=>rfl,hz3,fun _ _ h=>h,fun t ds ht hd=>absurd (r.none_lt hd) (by omega)⟩,trivial,rfl,hk⟩
end Go.Ab
namespace Go.Proofs
open Go.Ab Go.Lie Go.Grp Go.Lat
variable {σ h:PHeap} {K:PV→PHeap→Prop} {O x y:List Int} {P:List (List Int)} {C:List (List (List Int))} {u v w:List (List Int)} {vO vP vC vL vU vV vx vy:PV} {sp N a b m t d:Nat} {F L:List Nat} {M:List (List (List Int))} {T:Nat→Nat→Nat} {G:List (List Nat)}
theorem zOt (tt:Tb N T) {gs:List Nat} {m x m':Nat} (hg:GenM N T (fun j=>j∈gs) m) (hgs:∀g∈gs,g<N) (hx:x<N) (h':GenM N T (fun j=>j∈gs++[x]) m'):m'=ext N T m x:=by
 have h1:∀i,(i∈gs++[x])→i<N:=fun i hi=>by
  simp only [List.mem_append,List.mem_singleton]at hi
  rcases hi with hi|rfl
  ·exact hgs i hi
  ·exact hx
 have h2:∀i,(m.testBit i=true∨i=x)→i<N:=fun i hi=>by
  rcases hi with hi|rfl
  ·exact Zt hg.1 hi
  ·exact hx
 refine h'.unique ((zGR tt hg.1 hx).congr fun i=>⟨fun hi=>?_,fun hi=>?_⟩)
 ·refine hi.sub tt h1 fun j hj=>?_
  rcases hj with hj|rfl
  ·exact((hg.2 j).1 hj).mono fun k hk=>List.mem_append_left _ hk
  ·exact Cl.of tt h1 (by simp)
 ·refine hi.mono fun j hj=>?_
  simp only [List.mem_append,List.mem_singleton]at hj
  rcases hj with hj|rfl
  ·exact .inl ((hg.2 j).2 (Cl.of tt hgs hj))
  ·exact .inr rfl
structure GOK (N:Nat) (T:Nat→Nat→Nat) (L:List Nat) (G:List (List Nat)):Prop where
 len:G.length=L.length
 gen:∀(j:Nat) (gs:List Nat) (m:Nat),G[j]? = some gs→L[j]? = some m→GenM N T (fun i=>i∈gs) m∧(∀g∈gs,g<N)∧gs.length≤j
theorem GOK.snoc (h:GOK N T L G) {gs:List Nat} {m:Nat} (hg:GenM N T (fun i=>i∈gs) m) (h1:∀g∈gs,g<N) (h2:gs.length≤L.length):GOK N T (L++[m]) (G++[gs]):=by
 refine⟨by simp [h.len],fun j gs' m' hj hm=>?_⟩
 rcases Nat.lt_or_ge j L.length with q|q
 ·rw [List.getElem?_append_left (by rw [h.len];exact q)]at hj
  rw [List.getElem?_append_left q]at hm
  exact h.gen j gs' m' hj hm
 ·rw [List.getElem?_append_right (by rw [h.len];exact q)]at hj
  rw [List.getElem?_append_right q]at hm
  have e:j=L.length:=by
   have:=(List.getElem?_eq_some_iff.1 hm).1
   simp at this
   omega
  subst e;rw [h.len,Nat.sub_self]at hj
  rw [Nat.sub_self]at hm
  cases hj;cases hm;exact⟨hg,h1,h2⟩
theorem zQf (tt:Tb N T):GOK N T [1] [[]]:=by
 refine⟨rfl,fun j gs m hj hm=>?_⟩
 have e:j=0:=by
  have:=(List.getElem?_eq_some_iff.1 hm).1
  simp at this
  omega
 subst e;cases hj;cases hm;refine⟨⟨?_,fun i=>?_⟩,fun g hg=>(by cases hg),by simp⟩
 ·have:=Nat.pow_lt_pow_right (show 1<2 by omega) tt.pos
  simpa using this
 ·have h1:Nat.testBit 1 i=true↔i=0:=by simp [Nat.testBit_one_eq_true_iff_self_eq_zero]
  rw [h1];constructor
  ·rintro rfl;exact .one
  ·intro h
   cases h with
   | one=>rfl
   | mul _ hb=>cases hb
theorem zLz {q:Nat→Bool} {i:Nat}:((List.range (i+1)).any q)=(((List.range i).any q) || q i):=by
 rw [List.range_succ,List.any_append];simp
def kn (L:List Nat) (m i:Nat):Bool:=(List.range i).any fun j=>L.getD j 0 == m
theorem zQZ {i:Nat} (hi:i<L.length):kn L m (i+1)=(kn L m i || (L[i] == m)):=by
 unfold kn;rw [zLz,List.getD_eq_getElem?_getD,List.getElem?_eq_getElem hi];rfl
theorem zMw:kn L m L.length=true↔m∈L:=by
 unfold kn;rw [List.any_eq_true];constructor
 ·rintro ⟨j,hj,he⟩
  have hj:=List.mem_range.1 hj;rw [List.getD_eq_getElem?_getD,List.getElem?_eq_getElem hj]at he
  rw [←beq_iff_eq.1 he];exact List.getElem_mem hj
 ·intro h
  obtain⟨j,hj,e⟩:=List.mem_iff_getElem.1 h;exact⟨j,List.mem_range.2 hj,by rw [List.getD_eq_getElem?_getD,List.getElem?_eq_getElem hj];exact beq_iff_eq.2 e⟩
def RwG (s0:Nat) (c:PV) (gs:List Nat):Prop:=FI c (nl gs)∨(c=.sl s0 0 0 (.known 0)∧gs=[])
theorem RwG.one {s0:Nat} {c:PV} {gs:List Nat} (h:RwG s0 c gs):c.one=true:=by
 rcases h with h|⟨rfl,_⟩
 ·exact h.one
 ·rfl
structure FGs (H1 h:PHeap) (L:List Nat) (G:List (List Nat)) (vf vg:PV):Prop where
 f:PSl H1.next 1 h vf L.length (pis (nl L))
 g:∃rows,PSl H1.next 1 h vg G.length rows∧All2 (RwG (H1.next+1)) rows G
 ne:∀t off l c off' l' c',vf=.sl t off l c→vg≠.sl t off' l' c'
 n1:∀off l c,vf≠.sl (H1.next+1) off l c
 n2:∀off l c,vg≠.sl (H1.next+1) off l c
 o:h.obj (H1.next+1)=some []
 lt:H1.next+1<h.next
theorem FGs.keep {H1 h h':PHeap} {vf vg:PV} (a:FGs H1 h L G vf vg) (k:Keep h h'):FGs H1 h' L G vf vg:=
 ⟨a.f.keep k,by obtain⟨rows,h1,h2⟩:=a.g;exact⟨rows,h1.keep k,h2⟩,a.ne,a.n1,a.n2,by rw [k.obj _ a.lt];exact a.o,Nat.lt_of_lt_of_le a.lt k.next⟩
theorem zMs {cap:Cap} {s:Nat} {xs:List Int} (ho:σ.obj s=some (pis xs)) (hs:s<σ.next) (hb:xs.length≤1048576) (hk:∀cap,full 1 cap xs.length→K (.sl σ.next 0 xs.length cap) (σ.new (pis xs))):zA Tryz.prog 89 [.sl s 0 xs.length cap] σ K:=by
 refine zA.gh ?_;have hne:¬s=σ.next:=Nat.ne_of_lt hs;have hpl:(pis xs).length=xs.length:=by simp [pis]
 refine zB mix Tryz.func89 ?_;simp only [pwA,seval,-iQ0];refine PSl.app (b:=0) (news:=pis xs) (m:=xs.length) (zC σ _) (Nat.zero_le _) (PSl.new _ 1 rfl (Nat.le_refl _)) rfl (fun h0=>?_) (by rw [hpl,Nat.mul_one]) (by omega) (by omega) fun v' h' k1 k2=>?_
 ·rw [QE]
  simp only [h0,if_false,Nat.le_refl,if_true,Nat.mul_one,Q4,hne];rw [ZB ho,if_pos (by rw [hpl];omega),List.drop_zero,List.take_of_length_le (by rw [hpl];exact Nat.le_refl _)]
 ·simp only [pwA,seval,-iQ0]at k2 ⊢
  exact k2.out k1 (zo _ _) hk
theorem zQM {h:PHeap} {s0:Nat} {c:PV} {gs:List Nat} (hc:RwG s0 c gs) (ho:h.obj s0=some []) (hlt:s0<h.next) (hb:gs.length≤4294967296) {K:PV→PHeap→Prop} (hk:∀cap,full 1 cap gs.length→K (.sl h.next 0 gs.length cap) (h.new (pis (nl gs)))):zA Tryz.prog 89 [c] h K:=by
 have e:(nl gs).length=gs.length:=by simp
 rcases hc with ⟨w,a,rfl⟩|⟨rfl,rfl⟩
 ·refine Zx rfl (by omega) fun cap hf=>?_
  rw [e]at hf ⊢
  exact hk cap hf
 ·exact zMs (xs:=[]) ho hlt (by simp) fun cap hf=>hk cap hf
set_option maxHeartbeats 6400000 in
theorem zK6 (g:LG O P C) (hR:IsPr vO vP vC O P C) (hb:nEl O≤32)
  (hk:∀vS vM h' M,Keep σ h'→FIII vS M→M.Perm ((allM (nEl O) (tbM O P C)).map (seqM O))→M.Pairwise (fun u v=>¬ltS O v u)→K (.agg [vS,vM]) h'):
  zA Tryz.prog 144 [.agg [vO,vP,vC]] σ K:=by
 have gg:=g;have s:=g.s;have F:=g.F;have hn6:=s.le;obtain⟨hN,hN1⟩:=QM s;have g0:=hR.O.one;have g1:=hR.P.one;have g2:=hR.C.one;have tt:=tb g;refine zA.gh ?_;refine zB mix Tryz.func144 ?_;simp only [pwA,seval,-iQ0,g0,g1,g2];generalize hH:(σ.new [vO,vP,vC]).new [.fz true .nils 0 [],.fz true .nils 0 []]=H1;have kH:Keep σ H1:=by rw [←hH];exact(zC _ _).new _
 have nH:H1.next=σ.next+2:=by rw [←hH];rfl
 have oH:H1.obj σ.next=some [vO,vP,vC]:=by rw [←hH,zH,if_neg (by show ¬σ.next=σ.next+1;omega),zH,if_pos rfl]
 have oR:H1.obj (σ.next+1)=some [.fz true .nils 0 [],.fz true .nils 0 []]:=by rw [←hH,zH];exact if_pos rfl
 clear hH;have e3:∀{g:PHeap},Keep H1 g→g.rd σ.next 0 3=some [vO,vP,vC]:=fun k=>by rw [ZB ((k.obj _ (by omega)).trans oH)];rfl
 refine zJa g hR hb fun vT hT=>?_
 obtain⟨N,eN⟩:∃N,N=nEl O:=⟨_,rfl⟩
 obtain⟨T,eT⟩:∃T,T=tbM O P C:=⟨_,rfl⟩
 rw [←eN,←eT]at hk tt hT
 rw [←eN]at hb hN1 hN
 have oT:=hT.bel 0;have p32:∀{m:Nat},m<2 ^ N→m<2 ^ 32:=fun h=>Nat.lt_of_lt_of_le h (Nat.pow_le_pow_right (by omega) hb)
 have c32:(2:Nat) ^ 32=4294967296:=by decide
 have cN:(2:Nat) ^ N≤2 ^ 32:=Nat.pow_le_pow_right (by omega) hb
 simp only [pwA,seval,-iQ0];refine zD (fun r vs h=>∃(k:Nat) (L:List Nat) (G:List (List Nat)) (vf vg:PV),k≤L.length∧r=2 ^ N-k∧vs=[.ptr σ.next 0,.ptr (σ.next+1) 0,vT,vf,vg,.int .i64 k]∧Keep H1 h∧FGs H1 h L G vf vg∧LOK N T L∧GOK N T L G∧outer N T (2 ^ N-k) k L=allM N T) (2 ^ N) ?_ ?_
 ·refine⟨0,[1],[[]],.sl H1.next 0 1 (.known 1),.sl (H1.next+2) 0 1 (.known 1),by simp,rfl,rfl,((zC _ _).new _).new _,⟨?_,⟨[.sl (H1.next+1) 0 0 (.known 0)],?_,⟨rfl,fun k a b ha hb=>?_⟩⟩,fun t off l c off' l' c' e1 e2=>?_,fun off l c e=>?_,fun off l c e=>?_,?_,?_⟩,zGH tt,zQf tt,rfl⟩
  ·exact((PSl.new H1.next 1 (h:=H1) (n:=1) (cs:=[.int .i64 1]) rfl (Nat.le_refl _)).keep (zC _ _)).keep (zC _ _)
  ·exact⟨H1.next+2,.known 1,rfl,.inr rfl,by rw [zH];exact if_pos rfl,rfl,by omega,by show _<H1.next+1+1+1;omega⟩
  ·cases k with
   | zero=>cases ha;cases hb;exact .inr ⟨rfl,rfl⟩
   | succ k=>simp at ha
  ·injection e1 with e1
   injection e2 with e2
   omega
  ·injection e with e
   omega
  ·injection e with e
   omega
  ·rw [zH,if_neg (by show ¬H1.next+1=H1.next+1+1;omega),zH]
   exact if_pos rfl
  ·show _<H1.next+1+1+1
   omega
 rintro r vs h ⟨k,L,G,vf,vg,hkL,rfl,rfl,kh,hF,hL,hG,hout⟩
 have hLl:=hL.len;have pf:=hF.f.pLen
 by_cases hkl:k<L.length
 rotate_left
 ·obtain rfl:k=L.length:=by omega
  rw [zFX _ (Nat.le_refl _)]at hout
  rw [←hout]at hk
  simp only [pwA,seval,-iQ0,pf,hkl];clear hout pf hG;obtain⟨sf,cf,rfl,ff,of,lf,bf,nf⟩:=hF.f;clear hF;have kσ:Keep σ h:=kH.trans kh;have hnn:=kh.next;have i0:=inb (show 0<2 by omega)
  have dr:=e3 (kh.trans (zC h [.fz true .nils 0 [],.fz true .nils 0 []]));have ml:∀{M:List (List (List Int))} {k:Nat},M.Perm ((L.take k).map (seqM O))→∀w∈M,∃m∈L,w=seqM O m:=fun hp w hw=>by
   obtain⟨m,h1,h2⟩:=List.mem_map.1 (hp.mem_iff.1 hw);exact⟨m,List.mem_of_mem_take h1,h2.symm⟩
  have sqm:∀m∈L,SubM (nEl O) (tbM O P C) m:=fun m hm=>by
   have:=hL.sub m hm
   rw [eT,eN]at this
   exact this
  refine zD (fun r vs h'=>∃(k:Nat) (vS:PV) (M:List (List (List Int))),k≤L.length∧r=L.length-k∧vs=[.ptr σ.next 0,.ptr (σ.next+1) 0,.sl sf 0 L.length cf,.ptr h.next 0,.int .i64 k]∧h'=h.new [vS,.fz true .nils 0 []]∧FIII vS M∧M.Perm ((L.take k).map (seqM O))∧M.Pairwise (fun u v=>¬ltS O v u)) L.length ?_ ?_
  ·refine⟨0,_,[],by omega,rfl,rfl,rfl,⟨true,.nils,[],rfl,All2.nil _⟩,List.Perm.refl _,List.Pairwise.nil⟩
  rintro r vs h' ⟨k,vS,M,hk1,rfl,rfl,rfl,fS,hp,hpw⟩
  by_cases hkn:k<L.length
  rotate_left
  ·obtain rfl:k=L.length:=by omega
   rw [List.take_length]at hp
   simp only [pwA,seval,-iQ0,hkn];have hMl:M.length=L.length:=by rw [hp.length_eq,List.length_map]
   obtain⟨wS,aS,rS,rfl,hrS⟩:=fS;refine zD (fun r vs h'=>∃(k:Nat) (vM:PV) (cells:List PV),k≤M.length∧r=M.length-k∧vs=[.ptr σ.next 0,.ptr (σ.next+1) 0,.ptr h.next 0,.int .i64 k]∧Keep h h'∧h.next<h'.next∧h'.obj h.next=some [.fz wS aS M.length rS,vM]∧PAcc h.next 1 h' vM k cells∧(∀off l c,vM≠.sl h.next off l c)) M.length ⟨0,_,[],by omega,rfl,rfl,zC _ _,Nat.lt_succ_self _,by rw [zH,if_pos rfl],PAcc.nil _ _ _,fun off l c e=>by cases e⟩ ?_
   clear hkn hk1
   rintro r vs h' ⟨k,vM,cells,hk1,rfl,rfl,kh',hlt',oh,hA,hneM⟩
   have r0:h'.rd1 h.next 0=some (.fz wS aS M.length rS):=by rw [zF oh];rfl
   have r1:h'.rd1 h.next 1=some vM:=by rw [zF oh];rfl
   have r2:h'.rd h.next 0 2=some [.fz wS aS M.length rS,vM]:=by rw [ZB oh];rfl
   have oM:=hA.one
   by_cases hkn:k<M.length
   rotate_left
   ·have oR':h'.obj (σ.next+1)=some [.fz true .nils 0 [],.fz true .nils 0 []]:=by
     rw [kh'.obj _ (by omega),kh.obj _ (by omega)];exact oR
    have wR:h'.wr (σ.next+1) 0 [.fz wS aS M.length rS,vM]=some (h'.set (σ.next+1) [.fz wS aS M.length rS,vM]):=by
     rw [Zr oR'];have h1:(PV.fz wS aS M.length rS).one=true:=rfl;simp [h1,oM]
    simp only [pwA,seval,-iQ0,r0,hkn,r2,wR,oM];exact Gh.ret (hk _ vM _ M ((kσ.trans kh').set (by omega) _) ⟨wS,aS,rS,rfl,hrS⟩ hp hpw)
   have hkI:=inb hkn;have wk:IntKind.i64.wrap ((k:Int)+1)=((k+1:Nat):Int):=wrapS (show k<4294967297 by omega) (by omega)
   obtain⟨c,hc1,hc2⟩:=hrS.at hkn;have oc:=hc2.one;obtain⟨m,hm,em⟩:=ml (k:=L.length) (by rw [List.take_length];exact hp) _ (List.getElem_mem hkn)
   have hsu:=(zCL gg (sqm m hm)).1;rw [←em]at hsu
   simp only [pwA,seval,-iQ0,r0,hkn,hkI,hc1,r1,e3 (kh.trans kh'),g0,g1,g2,oc,oM];refine zK7 gg hR hc2 hsu fun z=>?_
   have nn1:¬h.next=h'.next:=by omega
   simp only [pwA,seval,-iQ0,r0,hkn,hkI,hc1,r1,oM,nn1];refine PAcc.pushS (σb:=h) (bytes:=8) kh' hA rfl (by omega) (by omega) fun v' h4 k4 p4 q1 q2 q3=>?_
   have oh4:h4.obj h.next=some [.fz wS aS M.length rS,vM]:=by rw [q1 _ hlt' hneM];exact oh
   have o4:=p4.one;have c4:=p4.cells;have w4:h4.wr h.next 1 [v']=some (h4.set h.next [.fz wS aS M.length rS,v']):=by
    rw [Zr oh4];simp [o4]
   simp only [pwA,seval,-iQ0,w4,c4,o4,wk];refine⟨_,by omega,k+1,v',cells++[.int .i64 z],by omega,rfl,rfl,k4.set (Nat.le_refl _) _,by show _<h4.next;omega,rfl,?_,q2 _ hlt'⟩
   obtain⟨sv,cv,rfl,z1,z2,z3,z4,z5⟩:=p4;exact .inr ⟨sv,cv,rfl,z1,by rw [zn,if_neg (fun e=>q2 _ hlt' 0 _ cv (by rw [e]))];exact z2,z3,z4,z5⟩
  have hkI:=inb hkn;have wk:IntKind.i64.wrap ((k:Int)+1)=((k+1:Nat):Int):=wrapS (show k<4294967297 by omega) (by omega)
  have hsub:=sqm _ (List.getElem_mem hkn);have kn0:=kh.trans (zC h [vS,.fz true .nils 0 []]);have rf:(h.new [vS,.fz true .nils 0 []]).rd1 sf k=some (.int .i64 ((L[k]:Nat):Int)):=by
   rw [zF (by rw [zH,if_neg (by omega)];exact of),zDF hkn]
  have oS:=fS.one;have cS:=fS.cells;simp only [pwA,seval,-iQ0,hkn,hkI,rf,e3 kn0,g0,g1,g2,oS];refine zGM gg hR (by omega) (by have:=hsub.lt;exact this) fun vu fu=>?_
  have ou:=fu.one;simp only [pwA,seval,-iQ0,hkn,hkI,rf,e3 kn0,g0,g1,g2,oS,ou];have hmem:=ml hp;refine zIH s hR fS (fun w hw=>by
   obtain⟨m,hm,rfl⟩:=hmem w hw;exact⟨_,zAS gg (sqm m hm)⟩) (by have:=hp.length_eq;rw [List.length_map,List.length_take]at this;omega) fu (zAS gg hsub) (fun hc=>?_) fun v' f'=>?_
  ·obtain⟨m,h1,h2⟩:=List.mem_map.1 (hp.mem_iff.1 hc)
   have h3:=zNq gg (sqm m (List.mem_of_mem_take h1)) hsub h2;obtain⟨j,hj,e⟩:=List.mem_iff_getElem.1 h1;rw [List.getElem_take]at e
   rw [List.length_take]at hj
   exact List.pairwise_iff_getElem.1 hL.nd j k (by omega) hkn (by omega) (e.trans h3)
  have o':=f'.one;have c':=f'.cells;simp only [pwA,seval,-iQ0,o',c',wk];refine⟨_,by omega,k+1,v',_,by omega,rfl,rfl,?_,f',?_,zEU hpw⟩
  ·rfl
  ·rw [List.take_succ_eq_append_getElem hkn,List.map_append,List.map_singleton]
   exact(zDQ O _ M).trans ((hp.cons _).trans (List.perm_append_singleton _ _).symm)
 have hkI:=inb hkl;have wk:IntKind.i64.wrap ((k:Int)+1)=((k+1:Nat):Int):=wrapS (show k<4294967297 by omega) (by omega)
 have hsub:=hL.sub _ (List.getElem_mem hkl);have hst:=zFW (N:=N) (T:=T) (List.getElem?_eq_getElem hkl) (show 0<2 ^ N-k by omega)
 rw [hst]at hout
 obtain⟨m,em⟩:∃m,m=L[k]:=⟨_,rfl⟩
 rw [←em]at hsub hout
 have hLm:L[k]? = some m:=by rw [em];exact List.getElem?_eq_getElem hkl
 obtain⟨gs,hGs⟩:∃gs,G[k]? = some gs:=⟨_,List.getElem?_eq_getElem (by rw [hG.len];exact hkl)⟩
 have b32:=p32 hsub.lt;have hin1:inner N T m N 0 L=inner N T m (N-1) 1 L:=by
  obtain⟨q,eq⟩:∃q,N=q+1:=⟨N-1,by omega⟩
  rw [eq,inner,Nat.add_sub_cancel];rw [←eq];rw [show ins N T m L 0=L by unfold ins;rw [if_pos hsub.zero]]
 rw [hin1]at hout
 obtain⟨gg1,gg2,gg3⟩:=hG.gen k gs m hGs hLm;simp only [pwA,seval,-iQ0,pf,hkl,hkI];refine zD (fun r vs h=>∃(t:Nat) (L:List Nat) (G:List (List Nat)) (vf vg:PV),1≤t∧t≤N∧L[k]? = some m∧G[k]? = some gs∧r=N-t∧vs=[.ptr σ.next 0,.ptr (σ.next+1) 0,vT,vf,vg,.int .i64 k,.int .i64 t]∧Keep H1 h∧FGs H1 h L G vf vg∧LOK N T L∧GOK N T L G∧outer N T (2 ^ N-k-1) (k+1) (inner N T m (N-t) t L)=allM N T) (N-1) ?_ ?_
 ·exact⟨1,L,G,vf,vg,Nat.le_refl _,hN1,hLm,hGs,rfl,rfl,kh,hF,hL,hG,hout⟩
 clear kh hF hL hG hout hLm hGs em hst hkl hkI hLl pf hkL hin1
 rintro r vs h ⟨t,L,G,vf,vg,ht1,htN,hLm,hGs,rfl,rfl,kh,hF,hL,hG,hout⟩
 have hLl:=hL.len;obtain⟨hkl,em⟩:=List.getElem?_eq_some_iff.1 hLm;simp only [pwA,seval,-iQ0,e3 kh,g0,g1,g2];refine QH s hR ?_;rw [hN]
 by_cases htn:t<N
 rotate_left
 ·obtain rfl:t=N:=by omega
  rw [Nat.sub_self]at hout
  simp only [pwA,seval,-iQ0,htn,wk];exact⟨2 ^ t-(k+1),by omega,k+1,L,G,vf,vg,by omega,rfl,rfl,kh,hF,hL,hG,by rw [←Nat.sub_sub];exact hout⟩
 have wt:IntKind.i64.wrap ((t:Int)+1)=((t+1:Nat):Int):=wrapS (show t<1000 by omega) (by omega)
 have htI:(t:Int)<(N:Int):=by omega
 have hkI:=inb hkl;have hF0:=hF;obtain⟨⟨sf,cf,rfl,ff,of,lf,bf,nf⟩,⟨rows,⟨sg,cg,rfl,fg,og,lg,bg,ng⟩,hrows⟩,hne,hn1,hn2,ho1,hlt1⟩:=hF;have rf:h.rd1 sf k=some (.int .i64 (m:Int)):=by rw [zF of,zDF hkl,em]
 have wu:=wrapV (c:=t) (by omega)
 have s1:=shr_i b32 (a:=t) (by omega)
 have s2:=zGC m t;obtain⟨q,ek⟩:∃q,N-t=q+1:=⟨N-t-1,by omega⟩
 have ek2:N-(t+1)=q:=by omega
 rw [ek,inner]at hout
 by_cases hbt:m.testBit t=true
 ·rw [show bt m t=1 from if_pos hbt]at s2
  rw [show ins N T m L t=L by unfold ins;rw [if_pos hbt]]at hout
  simp only [pwA,seval,-iQ0,htn,htI,hkl,hkI,rf,wu,s1,s2,wt];exact⟨_,by omega,t+1,L,G,_,_,by omega,by omega,hLm,hGs,rfl,rfl,kh,hF0,hL,hG,by rw [ek2];exact hout⟩
 rw [show bt m t=0 from if_neg hbt]at s2
 have hGl:=hG.len;have hkg:k<G.length:=by omega
 have hkgI:=inb hkg;obtain⟨c,hc1,hc2⟩:=hrows.at hkg;have eg:G[k]=gs:=by
  rw [List.getElem?_eq_getElem hkg]at hGs
  exact Option.some.inj hGs
 rw [eg]at hc2
 have rg:h.rd1 sg k=some c:=by rw [zF og];exact hc1
 have oc:=hc2.one;simp only [pwA,seval,-iQ0,htn,htI,hkl,hkI,rf,wu,s1,s2,hkg,hkgI,rg,oc];refine zQM hc2 ho1 hlt1 (by omega) fun cap hfull=>?_
 simp only [pwA,seval,-iQ0];refine PSl.push (σb:=h) (bytes:=8) (zC _ _) (PSl.own (b:=h.next) hfull (by rw [zH];exact if_pos rfl) (by simp [pis]) (Nat.le_refl _) (Nat.lt_succ_self _)) (by omega) (by omega) fun v8 h8 k8 p8=>?_
 have o8:=p8.one;simp only [pwA,seval,-iQ0,o8];obtain⟨s8,c8,rfl,f8,ob8,l8,b8,n8⟩:=p8;rw [←zGI]at ob8
 have hn8:gs.length+1=(nl (gs++[t])).length:=by simp
 rw [hn8]at f8 ⊢
 have hgs1:∀g∈gs++[t],g<N:=fun g hg=>by
  simp only [List.mem_append,List.mem_singleton]at hg
  rcases hg with hg|rfl
  ·exact gg2 g hg
  ·exact htn
 refine zA.lendI ob8 (zo _ _) (by simp [pis]) (fun c e=>by
  rcases f8 with f8|f8
  ·rw [f8]at e;cases e
  ·rw [f8]at e;cases e;exact Nat.le_refl _) oT fun o=>zK5 tt hb hT ⟨false,.sl o 0 _ c8,rfl⟩ hgs1 (by simp;omega) fun m' hm'=>⟨.i64,m',rfl,?_⟩
 have em':=zOt tt gg1 gg2 htn hm';subst em';have e32:=p32 (zND (N:=N) (T:=T) m t);simp only [pwA,seval,-iQ0];have z1:¬sf=s8:=by omega
 have z2:¬sg=s8:=by omega
 have z3:¬σ.next=s8:=by have:=kh.next;omega
 have z4:¬σ.next+1=s8:=by have:=kh.next;omega
 have z5:=hT.sb s8;have z6:capOK c8 (nl (gs++[t])).length=true:=f8.ok;refine Qt (fun r vs h9=>∃(o i:Nat),i≤L.length∧r=L.length-i∧vs=[.ptr σ.next 0,.ptr (σ.next+1) 0,vT,.sl sf 0 L.length cf,.sl sg 0 G.length cg,.int .i64 k,.int .i64 t,.fz true (.sl o 0 (nl (gs++[t])).length c8) (nl (gs++[t])).length (pis (nl (gs++[t]))),.int .i64 (ext N T m t:Nat),.bool (kn L (ext N T m t) i),.int .i64 i]∧Keep h h9) L.length (.fz s8 _ ob8 (zo _ _) fun o=>.here ⟨o,0,Nat.zero_le _,rfl,?_,k8.kill b8⟩) ?_
 ·simp only [pwA,seval,-iQ0,sbs,sb,z1,z2,z3,z4,z5,z6,false_and,and_self,Nat.le_refl,true_and]
  rfl
 clear k8 f8 l8 b8 n8 ob8 o8 z1 z2 z3 z4 z5 z6;have hLi:=hL.ins tt hsub.lt htn (x:=t)
 rintro r vs h9 ⟨o,i,hi,rfl,rfl,k9⟩
 have hF9:=hF0.keep k9;have of9:h9.obj sf=some (pis (nl L)):=by rw [k9.obj _ nf];exact of
 by_cases hil:i<L.length
 ·have hiI:=inb hil
  have wi:IntKind.i64.wrap ((i:Int)+1)=((i+1:Nat):Int):=wrapS (show i<4294967297 by omega) (by omega)
  have rfi:h9.rd1 sf i=some (.int .i64 ((L[i]:Nat):Int)):=by rw [zF of9,zDF hil]
  have hks:=zQZ (m:=ext N T m t) hil;cases hq:kn L (ext N T m t) i with
  | true=>
   rw [hq,Bool.true_or]at hks
   simp only [pwA,seval,-iQ0,hil,hiI,wi];exact⟨_,by omega,.here ⟨o,i+1,by omega,rfl,by rw [hks],k9⟩⟩
  | false=>
   rw [hq,Bool.false_or]at hks
   by_cases he:L[i]=ext N T m t
   ·rw [he]at rfi
    rw [beq_iff_eq.2 he]at hks
    simp only [pwA,seval,-iQ0,hil,hiI,rfi,wi];exact⟨_,by omega,.here ⟨o,i+1,by omega,rfl,by rw [hks],k9⟩⟩
   ·have he2:¬((L[i]:Nat):Int)=((ext N T m t:Nat):Int):=by omega
    rw [show(L[i] == ext N T m t)=false by simpa using he]at hks
    simp only [pwA,seval,-iQ0,hil,hiI,rfi,wi,he2];exact⟨_,by omega,.here ⟨o,i+1,by omega,rfl,by rw [hks],k9⟩⟩
 obtain rfl:i=L.length:=by omega
 have kh9:=kh.trans k9
 by_cases hin:ext N T m t∈L
 ·rw [show ins N T m L t=L by unfold ins;rw [if_neg hbt,if_pos hin]]at hout
  rw [zMw.2 hin];simp only [pwA,seval,-iQ0,hil,wt];exact⟨_,by omega,t+1,L,G,_,_,by omega,by omega,hLm,hGs,rfl,rfl,kh9,hF9,hL,hG,by rw [ek2];exact hout⟩
 have ei:ins N T m L t=L++[ext N T m t]:=by unfold ins;rw [if_neg hbt,if_neg hin]
 rw [ei]at hout hLi
 have hLil:=hLi.len;rw [List.length_append,List.length_singleton]at hLil
 rw [show kn L (ext N T m t) L.length=false from Bool.eq_false_iff.2 fun h=>hin (zMw.1 h)]
 obtain⟨⟨_,_,e1,ff9,of9',lf9,bf9,nf9⟩,⟨rows9,⟨_,_,e2,fg9,og9,lg9,bg9,ng9⟩,hrows9⟩,hne9,hn19,hn29,ho9,hlt9⟩:=hF9;cases e1;cases e2;simp only [pwA,seval,-iQ0,hil];refine PAcc.pushS (σb:=H1) (bytes:=8) kh9 (PSl.acc ⟨sf,cf,rfl,ff9,of9',lf9,bf9,nf9⟩) rfl (by omega) (by omega) fun vf' h2 k2 p2 r1 r2 r3=>?_
 have of2:=p2.one;have og2:h2.obj sg=some rows9:=by rw [r1 sg ng9 fun off l c e=>hne9 sg off l c 0 _ cg (by rw [e]) rfl];exact og9
 have ng2:sg<h2.next:=by omega
 simp only [pwA,seval,-iQ0,of2];refine PAcc.pushS (σb:=H1) (bytes:=24) k2 (PSl.acc ⟨sg,cg,rfl,fg9,og2,lg9,bg9,ng2⟩) rfl (by omega) (by omega) fun vg' h3 k3 p3 q1 q2 q3=>?_
 have p2c:=p2;obtain⟨s2,c2,rfl,f2,o2,l2,b2,n2⟩:=p2;have hs2:∀(l:Nat) (c:Cap),PV.sl sg 0 l c≠PV.sl s2 0 l c:=fun l c e=>by
  injection e with e
  exact r2 sg ng9 0 _ c2 (by rw [e])
 have ne2:sg≠s2:=fun e=>r2 sg ng9 0 _ c2 (by rw [e])
 have o3:h3.obj s2=some (pis (nl L)++[.int .i64 ((ext N T m t:Nat):Int)]):=by
  rw [q1 s2 n2 fun off l c e=>by injection e with e;exact ne2 e];exact o2
 simp only [pwA,seval,-iQ0,wt];refine⟨_,by omega,t+1,L++[ext N T m t],G++[gs++[t]],.sl s2 0 (L.length+1) c2,vg',by omega,by omega,by rw [List.getElem?_append_left hkl];exact hLm,by rw [List.getElem?_append_left hkg];exact hGs,rfl,?_,k3,⟨?_,⟨rows9++[_],?_,hrows9.snoc (.inl ⟨true,.sl o 0 (nl (gs++[t])).length c8,rfl⟩)⟩,fun t0 off l c off' l' c' e1 e2=>?_,fun off l c e=>?_,?_,?_,?_⟩,hLi,?_,by rw [ek2];exact hout⟩
 ·rfl
 ·rw [zGI,List.length_append]
  exact⟨s2,c2,rfl,f2,o3,l2,b2,by omega⟩
 ·rw [List.length_append]
  exact p3
 ·injection e1 with e1
  rw [←e1]at e2
  exact q2 s2 n2 off' l' c' e2
 ·injection e with e
  exact r2 (H1.next+1) hlt9 0 _ c2 (by rw [e])
 ·exact fun off l c=>q2 (H1.next+1) (by omega) off l c
 ·rw [q1 _ (by omega) hn29,r1 _ hlt9 hn19];exact ho9
 ·omega
 ·exact hG.snoc hm' hgs1 (by simp;omega)
end Go.Proofs
