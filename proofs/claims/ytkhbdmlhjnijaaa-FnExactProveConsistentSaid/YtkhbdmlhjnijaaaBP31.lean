/- The compiled forms of the functions, each held against the program by the kernel. Written by program. -/
import Derived.Test.YtkhbdmlhjnijaaaBP26
import Derived.Test.YtkhbdmlhjnijaaaBP27
import Derived.Test.YtkhbdmlhjnijaaaBAbPz
import Derived.Test.YtkhbdmlhjnijaaaBAbPt
import Derived.Test.YtkhbdmlhjnijaaaRows
import Derived.Lib.SmallJoins
import Derived.WalkKit
import Derived.ProofKit
import Derived.Test.YtkhbdmlhjnijaaaChecked
open Int renaming reduceNatCast'→iQ0
set_option maxRecDepth 100000
set_option linter.unusedVariables false
set_option linter.unusedSectionVars false
set_option linter.unusedSimpArgs false
namespace Go.Grp
open Go.Ab Go.Lie
variable {O:List Int} {P:List (List Int)} {C:List (List (List Int))} {x y z:List Int} {A B:List Int→Prop}
abbrev gS (O:List Int):List Int→Prop:=TT O 0
abbrev gm (O:List Int) (P:List (List Int)) (C:List (List (List Int))):List Int→List Int→List Int:=mu O P C O.length
theorem Full.g (F:Full O P C O.length):Gp (gS O) (gm O P C) (zv O):=by
 have:=F.gp
 rwa [Nat.sub_self]at this
end Go.Grp
namespace Go.Grp
end Go.Grp
namespace Go.Proofs
open Go.Ab Go.Lie Go.Grp
variable {σ:PHeap} {K:PV→PHeap→Prop} {O:List Int} {P:List (List Int)} {C:List (List (List Int))} {vO vP vC vx vy vf va vb:PV} {x y f a b:List Int} {rP rC:List PV} {d j sp:Nat}
theorem zH7 (s:Shp O P C) (hR:IsPr vO vP vC O P C) (ha:gS O a) (hb:gS O b) (hva:FI va a) (hvb:FI vb b) (hk:∀v,FI v (gm O P C a b)→K v σ):zA Try.prog 71 [.agg [vO,vP,vC],va,vb] σ K:=by
 have h0:=hR.O.one;have h1:=hR.P.one;have h2:=hR.C.one;refine zA.gh ?_;refine zB mix Try.func71 ?_
 conv=>arg 2;cbv
 refine zC rfl ?_;simp only [pwA,seval,-iQ0,h0,h1,h2];refine zCT s (d:=O.length) (i:=0) (by omega) hR ha hb hva hvb fun v hv=>?_
 simp only [pwA,seval,-iQ0];exact Gh.fin0 (zF σ _) (hv.bel _) (hk v hv)
end Go.Proofs
namespace Go.Grp
end Go.Grp
namespace Go.Proofs
open Go.Ab Go.Lie Go.Grp
variable {σ:PHeap} {K:PV→PHeap→Prop} {O:List Int} {P:List (List Int)} {C:List (List (List Int))} {vO vP vC vx vy vL vU vV vB vg:PV} {x y z f a b g:List Int} {L u v z':List (List Int)} {rP rC rb:List PV} {d j sp ss sb n:Nat}
theorem Cons.full (s:Shp O P C) (hc:Cons O P C):Full O P C O.length:=full_of s (Nat.le_refl _) fun j _ h=>hc j h
end Go.Proofs
namespace Go.Proofs.Ytkhbdmlhjnijaaa
open Go.ChangeShapes Go.WideShapes Go.ChangeAt Go.RowKit Go.Ab Go.Joins Go.Lie Go.Proofs
theorem own:ownKnob Try.prog.godebug=none:=by kernel_rfl
theorem laidOut:laidOutB Try.prog=true:=by kernel_rfl
theorem zLv:Try.prog.cellsOf 23=1:=by kernel_rfl
theorem cell2:Try.prog.cellsOf 2=1:=by kernel_rfl
theorem zLw:Try.prog.cellsOf 22=1:=by kernel_rfl
variable {H:Type} {enc:TypeId×Value→H} {W w0:World} {j:Inj} {h:AHeap}
def LII (v:PV) (xs:List (List Int)):Prop:=FII v xs∧xs.length≤9223372036854775807∧∀x∈xs,x.length≤9223372036854775807
def LIII (v:PV) (xs:List (List (List Int))):Prop:=FIII v xs∧xs.length≤9223372036854775807∧∀q∈xs,q.length≤9223372036854775807∧∀x∈q,x.length≤9223372036854775807
theorem layI:Lay1 enc Try.prog W 22 (fun v (xs:List Int)=>FI v xs∧xs.length≤9223372036854775807):=zJW (e:=2) Try.underlying22 cell2 Try.underlying2
theorem layII:Lay1 enc Try.prog W 23 LII:=by
 intro w0 j h held fuel v x m hx;obtain⟨j',h',pv,a,g1,g2,g3,g4,g5,g6,g7,g8⟩:=zBQ Try.underlying23 zLw layI w0 j h held fuel v x m hx;exact⟨j',h',pv,a,g1,g2,g3,g4,g5,g6,g7.imp fun _ _ k=>k.1,g8,g7.all fun _ _ k=>k.2⟩
theorem zLr:Lay1 enc Try.prog W 24 LIII:=by
 intro w0 j h held fuel v x m hx;obtain⟨j',h',pv,a,g1,g2,g3,g4,g5,g6,g7,g8⟩:=zBQ Try.underlying24 zLv layII w0 j h held fuel v x m hx;exact⟨j',h',pv,a,g1,g2,g3,g4,g5,g6,g7.imp fun _ _ k=>k.1,g8,g7.all fun _ _ k=>k.2⟩
end Go.Proofs.Ytkhbdmlhjnijaaa
namespace Go.Proofs.Ytkhbdmlhjnijaaa
open Go.ChangeShapes Go.WideShapes Go.ChangeAt Go.RowKit Go.Ab Go.Joins Go.Lie Go.Proofs
theorem zLu:Try.prog.cellsOf 26=3:=by kernel_rfl
variable {H:Type} {enc:TypeId×Value→H} {W w0:World} {j:Inj} {h:AHeap}
set_option maxRecDepth 100000 in
theorem layPr {b0:Nat} {v:Value} {d:DataW H} {q:List MemPlace} (m:MR W.heap.size w0 j h W) (hv:Value.okWide Try.prog W .any b0 26 v) (ht:DataW.Trod enc Try.prog W 0 (fun _=>true) true 26 v d q):
  ∃(j':Inj) (h':AHeap) (vO vP vC:PV) (Os:List Int) (Ps:List (List Int)) (Cs:List (List (List Int))),MR W.heap.size w0 j' h' W∧j.le j'∧Ext h h'∧VI j' (er idz (.agg [vO,vP,vC])) v∧VOK (zlt h') h' 0 (.agg [vO,vP,vC])∧IsPr vO vP vC Os Ps Cs∧MxP Os Ps Cs:=by
 obtain⟨v0,v1,v2,y0,y1,y2,n,rfl,rfl,rfl,t0,t1,t2⟩:=open_agg3 Try.underlying26 (by kernel_rfl) zLu hv ht
 obtain⟨j0,h0,vO,Os,m0,l0,e0,i0,o0,_,r1,r2⟩:=layI w0 j h true n v0 _ m t0;obtain⟨j1,h1,vP,Ws,m1,l1,e1,i1,o1,_,p1,p2,p3⟩:=layII w0 j0 h0 true n v1 _ m0 t1;obtain⟨j2,h2,vB,Bs,m2,l2,e2,i2,o2,_,q1,q2,q3⟩:=zLr w0 j1 h1 true n v2 _ m1 t2;exact⟨j2,h2,vO,vP,vB,Os,Ws,Bs,m2,(l0.trans l1).trans l2,(e0.trans e1).trans e2,⟨_,⟨_,_,rfl,VI.mono (l1.trans l2) _ _ i0,_,_,rfl,VI.mono l2 _ _ i1,_,_,rfl,i2,rfl⟩,rfl⟩,⟨(e1.trans e2).vok o0,e2.vok o1,o2,trivial⟩,⟨r1,p1,q1⟩,⟨r2,p2,p3,q2,q3⟩⟩
end Go.Proofs.Ytkhbdmlhjnijaaa
namespace Go.Grp
end Go.Grp
namespace Go.Proofs
open Go.Ab Go.Lie Go.Grp
theorem zLy {a b:List Int} (j:Nat):at_ (a++b) j=if j<a.length then at_ a j else at_ b (j-a.length):=by
 by_cases h:j<a.length
 ·rw [if_pos h,at_eq h,at_eq (by rw [List.length_append];omega),List.getElem_append_left h]
 ·rw [if_neg h]
  by_cases h2:j-a.length<b.length
  ·rw [at_eq h2,at_eq (by rw [List.length_append];omega),List.getElem_append_right (by omega)]
  ·rw [at_ge (v:=a++b) (by rw [List.length_append];omega),at_ge (v:=b) (by omega)]
def ordF (O:List Int):Nat→Int
 | 0=>1
 | i+1=>ordF O i*at_ O i
def numF (O x:List Int):Nat→Int
 | 0=>0
 | i+1=>numF O x i*at_ O i+at_ x i
def dgs (O:List Int):Nat→Nat→List Int
 | 0,_=>[]
 | c+1,k=>dgs O c (k / (at_ O c).toNat)++[((k % (at_ O c).toNat:Nat):Int)]
theorem QE (O:List Int):∀c k,(dgs O c k).length=c
 | 0,_=>rfl
 | c+1,k=>by simp [dgs,QE O c]
theorem zIR {O:List Int} (h:∀j,j<O.length→2≤at_ O j∧at_ O j≤7):∀{c k:Nat},c≤O.length→∀j,j<c→0≤at_ (dgs O c k) j∧at_ (dgs O c k) j<at_ O j
 | 0,k,hc,j,hj=>by omega
 | c+1,k,hc,j,hj=>by
  have hb:=h c (by omega)
  rw [dgs,zLy,QE]
  by_cases e:j<c
  ·rw [if_pos e];exact zIR h (by omega) j e
  ·obtain rfl:j=c:=by omega
   rw [if_neg e,Nat.sub_self];show 0≤((k % (at_ O j).toNat:Nat):Int)∧((k % (at_ O j).toNat:Nat):Int)<at_ O j
   have:=Nat.mod_lt k (show 0<(at_ O j).toNat by omega)
   omega
theorem zDH {O:List Int} {P:List (List Int)} {C:List (List (List Int))} (s:Shp O P C) (k:Nat):gS O (dgs O O.length k):=
 ⟨QE _ _ _,fun j hj=>zIR s.pr (Nat.le_refl _) j hj,fun j hj=>by omega⟩
theorem ZX {O:List Int} (h:∀j,j<O.length→2≤at_ O j∧at_ O j≤7):∀{i:Nat},i≤O.length→1≤ordF O i∧ordF O i≤7 ^ i
 | 0,_=>by simp [ordF]
 | i+1,hi=>by
  obtain⟨h1,h2⟩:=ZX h (i:=i) (by omega)
  obtain⟨h3,h4⟩:=h i (by omega)
  have e1:=Int.mul_le_mul_of_nonneg_left (a:=1) (b:=at_ O i) (c:=ordF O i) (by omega) (by omega)
  have e2:=Int.mul_le_mul h2 h4 (by omega) (by omega)
  rw [ordF,Int.pow_succ];omega
theorem pow7 {i:Nat} (h:i≤6):(7:Int) ^ i≤117649:=by
 match i,h with
 | 0,_=>decide
 | 1,_=>decide
 | 2,_=>decide
 | 3,_=>decide
 | 4,_=>decide
 | 5,_=>decide
 | 6,_=>decide
theorem zAW {O x:List Int} (h:∀j,j<O.length→2≤at_ O j∧at_ O j≤7) (hx:∀j,j<O.length→0≤at_ x j∧at_ x j<at_ O j):∀{i:Nat},i≤O.length→0≤numF O x i∧numF O x i<ordF O i
 | 0,_=>by simp [ordF,numF]
 | i+1,hi=>by
  obtain⟨h1,h2⟩:=zAW h hx (i:=i) (by omega)
  obtain⟨h3,h4⟩:=h i (by omega)
  obtain⟨h5,h6⟩:=hx i (by omega)
  have e1:=Int.mul_nonneg h1 (show 0≤at_ O i by omega)
  have e2:=Int.mul_le_mul_of_nonneg_right (a:=numF O x i+1) (b:=ordF O i) (c:=at_ O i) (by omega) (by omega)
  rw [Int.add_mul,Int.one_mul]at e2
  rw [ordF,numF];omega
variable {σ:PHeap} {K:PV→PHeap→Prop} {O:List Int} {P:List (List Int)} {C:List (List (List Int))} {vO vP vC vx:PV} {x:List Int} {sp:Nat}
theorem zBN (s:Shp O P C) (hs:PtrG σ sp vO vP vC) (hO:FI vO O) (hk:K (.int .i64 (ordF O O.length)) σ):zA Try.prog 38 [.ptr sp 0] σ K:=by
 have hn6:=s.le;obtain⟨w0,a0,rfl⟩:=hO;have e0:σ.rd1 sp 0=some (.fz w0 a0 O.length (pis O)):=by rw [qV hs.obj];rfl
 refine zB mix Try.func38 ?_
 conv=>arg 2;cbv
 refine zC rfl ?_;simp only [pwA,seval,-iQ0,e0];refine zD (fun m vs h'=>∃i:Nat,i≤O.length∧m=O.length-i∧vs=[.int .i64 (ordF O i),.fz w0 a0 O.length (pis O),.int .i64 O.length,.int .i64 i]∧σ=h') O.length ⟨0,by omega,by omega,rfl,rfl⟩ ?_
 rintro m vs h' ⟨i,hi,rfl,rfl,rfl⟩
 simp only [pwA,seval,-iQ0];refine iteI (fun hlt=>?_) fun hge=>?_
 rotate_left
 ·have hie:i=O.length:=by omega
  subst hie;exact hk
 have hb:=ZX s.pr (i:=i+1) hlt;have h7:=pow7 (i:=i+1) (by omega)
 have ha:=at_eq hlt;have hm:ordF O i*O[i]=ordF O (i+1):=by rw [ordF,ha]
 have hw:IntKind.i64.wrap (ordF O i*O[i])=ordF O (i+1):=by rw [hm,wrap64 (by omega) (by omega)]
 simp only [pwA,seval,-iQ0,hlt,gi hlt,qY,hw,wrapS hlt (by omega:O.length≤4611686018427387904)]
 exact⟨_,by omega,i+1,by omega,rfl,rfl⟩
theorem zC2 (s:Shp O P C) (hR:IsPr vO vP vC O P C) (hk:K (.int .i64 (ordF O O.length)) σ):zA Try.prog 32 [.agg [vO,vP,vC]] σ K:=by
 have hn6:=s.le;have h0:=hR.O.one;have h1:=hR.P.one;have h2:=hR.C.one;obtain⟨⟨w0,a0,rfl⟩,hRP,hRC⟩:=hR;refine zA.gh ?_;refine zB mix Try.func32 ?_
 conv=>arg 2;cbv
 refine zC rfl ?_;simp only [pwA,seval,-iQ0,h1,h2];have e0:(σ.new [.fz w0 a0 O.length (pis O),vP,vC]).rd1 σ.next 0=some (.fz w0 a0 O.length (pis O)):=by simp only [pwA,seval,-iQ0]
 refine zD (fun m vs h'=>∃i:Nat,i≤O.length∧m=O.length-i∧vs=[.ptr σ.next 0,.int .i64 (ordF O i),.int .i64 i]∧h'=σ.new [.fz w0 a0 O.length (pis O),vP,vC]) O.length ⟨0,by omega,by omega,rfl,rfl⟩ ?_
 rintro m vs h' ⟨i,hi,rfl,rfl,rfl⟩
 simp only [pwA,seval,-iQ0,e0];refine iteI (fun hlt=>?_) fun hge=>?_
 rotate_left
 ·have hie:i=O.length:=by omega
  subst hie;exact Gh.fin0 (zF σ _) trivial hk
 have hb:=ZX s.pr (i:=i+1) hlt;have h7:=pow7 (i:=i+1) (by omega)
 have ha:=at_eq hlt;have hm:ordF O i*O[i]=ordF O (i+1):=by rw [ordF,ha]
 have hw:IntKind.i64.wrap (ordF O i*O[i])=ordF O (i+1):=by rw [hm,wrap64 (by omega) (by omega)]
 simp only [pwA,seval,-iQ0,e0,hlt,gi hlt,qY,hw,wrapS hlt (by omega:O.length≤4611686018427387904)]
 exact⟨_,by omega,i+1,by omega,rfl,rfl⟩
theorem zFj (s:Shp O P C) (hR:IsPr vO vP vC O P C) (hx:gS O x) (hvx:FI vx x) (hk:K (.int .i64 (numF O x O.length)) σ):zA Try.prog 70 [.agg [vO,vP,vC],vx] σ K:=by
 have hn6:=s.le;have hxl:=hx.len;have h0:=hR.O.one;have h1:=hR.P.one;have h2:=hR.C.one;obtain⟨⟨w0,a0,rfl⟩,hRP,hRC⟩:=hR;obtain⟨wx,ax,rfl⟩:=hvx;refine zA.gh ?_;refine zB mix Try.func70 ?_
 conv=>arg 2;cbv
 refine zC rfl ?_;simp only [pwA,seval,-iQ0,h1,h2];have e0:(σ.new [.fz w0 a0 O.length (pis O),vP,vC]).rd1 σ.next 0=some (.fz w0 a0 O.length (pis O)):=by simp only [pwA,seval,-iQ0]
 refine zD (fun m vs h'=>∃i:Nat,i≤O.length∧m=O.length-i∧vs=[.fz wx ax x.length (pis x),.ptr σ.next 0,.int .i64 (numF O x i),.int .i64 i]∧h'=σ.new [.fz w0 a0 O.length (pis O),vP,vC]) O.length ⟨0,by omega,by omega,rfl,rfl⟩ ?_
 rintro m vs h' ⟨i,hi,rfl,rfl,rfl⟩
 simp only [pwA,seval,-iQ0,e0];refine iteI (fun hlt=>?_) fun hge=>?_
 rotate_left
 ·have hie:i=O.length:=by omega
  subst hie;exact Gh.fin0 (zF σ _) trivial hk
 have hltO:i<O.length:=by omega
 have hb:=ZX s.pr (i:=i+1) hltO;have h7:=pow7 (i:=i+1) (by omega)
 have hnb:=zAW s.pr hx.bd (i:=i+1) hltO;have hb1:=ZX s.pr (i:=i) hi;have h71:=pow7 (i:=i) (by omega)
 have hnb1:=zAW s.pr hx.bd (i:=i) hi;have bx:=hx.bd i hltO;have ha:=at_eq hltO;have hax:=at_eq hlt;have hm:numF O x i*O[i] + x[i]=numF O x (i+1):=by rw [numF,ha,hax]
 rw [hax]at bx
 rw [ha]at bx
 have hm0:0≤numF O x i*O[i]:=by
  have:=(s.pr i hltO).1
  rw [ha]at this
  exact Int.mul_nonneg hnb1.1 (by omega)
 have hw0:IntKind.i64.wrap (numF O x i*O[i])=numF O x i*O[i]:=wrap64 (by omega) (by omega)
 have hw:IntKind.i64.wrap (numF O x i*O[i] + x[i])=numF O x (i+1):=by rw [hm,wrap64 (by omega) (by omega)]
 simp only [pwA,seval,-iQ0,e0,hlt,hltO,gi hlt,gi hltO,qY,hw0,hw,wrapS hltO (by omega:O.length≤4611686018427387904)]
 exact⟨_,by omega,i+1,by omega,rfl,rfl⟩
end Go.Proofs
namespace Go.Proofs
open Go.Ab
def if3:IFn:=⟨[0],[(.tmp 2)],(S0 (R0 [1] [eI 1 (.box (.t 0)),tI0 2 false])
 (S0 (R0 [1,3] [kI0 3 1048576])
 (S0 (R0 [1,3] [LI0 14 1,mI0 15 3,C2 16 6 14 15,mI0 3 16])
 (S0 (.seq (R0 [1,18] [mI0 17 3,cI0 18 .lss 17 0])
 (.cond (.t 18) (S0 (R0 [2] [tI0 2 true])
 .ret) .skip))
 (S0 (R0 [1,4,5] [LI0 20 1,C1 21 8 20,C1 22 7 21,mI0 19 22,eI0 23 19 0,eI0 24 19 1,eI 4 (.alloc [(.int .i64 0),.nils,.nils]),vI0 3 4 23,mI0 5 24])
 (S0 (R0 [1,4,5,6] [LI0 25 1,C1 26 8 25,eI 6 (.alloc [.nils,.nils,.nils]),vI0 3 6 26])
 (S0 (R0 [1,4,5,6,7,8] [LI0 28 6,C1 29 9 28,mI0 27 29,eI0 30 27 0,eI0 31 27 1,eI 7 (.alloc [(.int .i64 0),.nils,.nils]),vI0 3 7 30,mI0 8 31])
 (S0 (.seq (R0 [1,4,5,6,7,8,40] [LI0 32 7,LI0 33 4,C2 34 10 32 33,nI0 35 34,mI0 36 35,gm0 37 8 36 false,gm0 38 5 36 false,G0 39 (.bin .neq .other (.t 37) (.t 38)) true 36 false,oI0 40 36 39])
 (.cond (.t 40) (S0 (R0 [2] [tI0 2 false])
 .ret) .skip))
 (S0 (.seq (.draw [1,4,5,6,7,8,45] [] [qD 41 (.load true 3 (.t 6)) 0,qD 42 (.load true 3 (.t 1)) 1,eD 43 (.call 8 [(.t 42)]) 2 [0],eD 44 (.call 11 [(.t 41),(.t 43)]) 3 [],qD 45 (.un .not (.t 44)) 4])
 (.cond (.t 45) (S0 (R0 [2] [tI0 2 false])
 .ret) .skip))
 (S0 (R0 [1,4,5,6,7,8,9] [kI0 9 1])
 (S0 (R0 [1,4,5,7,8,9] [LI0 46 6,mI0 47 9,C2 48 12 46 47,mI0 9 48])
 (S0 (.seq (R0 [1,4,5,7,61] [mI0 49 9,cI0 50 .lss 49 0,mI0 51 50,G0 52 (.load true 3 (.t 7)) true 51 false,G0 53 (.load true 3 (.t 4)) true 51 false,G0 54 (.call 10 [(.t 52),(.t 53)]) false 51 false,G0 55 (.un .not (.t 54)) true 51 false,oI0 56 51 55,mI0 57 56,gm0 58 8 57 false,gm0 59 5 57 false,G0 60 (.bin .neq .other (.t 58) (.t 59)) true 57 false,oI0 61 57 60])
 (.cond (.t 61) (S0 (R0 [2] [tI0 2 false])
 .ret) .skip))
 (S0 (R0 [1,4,5,7,10] [kI0 10 1])
 (S0 (R0 [1,4,5,7,10] [LI0 62 7,mI0 63 10,C2 64 13 62 63,mI0 10 64])
 (S0 (R0 [1,4,5,7,10,11] [kI0 11 1])
 (S0 (R0 [1,4,5,7,10,11] [LI0 65 7,mI0 66 11,C2 67 14 65 66,mI0 11 67])
 (S0 (.seq (R0 [1,4,5,7,10,11,69] [mI0 68 11,cI0 69 .lss 68 0])
 (.cond (.t 69) (S0 (R0 [2] [tI0 2 false])
 .ret) .skip))
 (S0 (.seq (R0 [1,4,5,7,10,72] [mI0 70 11,mI0 71 10,bI0 72 .neq 70 71])
 (.cond (.t 72) (S0 (R0 [2] [tI0 2 false])
 .ret) .skip))
 (S0 (R0 [4,5,7,10,12,13] [LI0 74 1,C1 75 8 74,C1 76 9 75,mI0 73 76,eI0 77 73 0,eI0 78 73 1,eI 12 (.alloc [(.int .i64 0),.nils,.nils]),vI0 3 12 77,mI0 13 78])
 (S0 (.seq (R0 [7,10,87] [LI0 79 12,LI0 80 4,C2 81 10 79 80,nI0 82 81,mI0 83 82,gm0 84 13 83 false,gm0 85 5 83 false,G0 86 (.bin .neq .other (.t 84) (.t 85)) true 83 false,oI0 87 83 86])
 (.cond (.t 87) (S0 (R0 [2] [tI0 2 false])
 .ret) .skip))
 (S0 (R0 [7,10,11] [kI0 11 1])
 (S0 (R0 [10,11] [LI0 88 7,mI0 89 11,C2 90 14 88 89,mI0 11 90])
 (S0 (.seq (R0 [10,11,92] [mI0 91 11,cI0 92 .lss 91 0])
 (.cond (.t 92) (S0 (R0 [2] [tI0 2 false])
 .ret) .skip))
 (S0 (.seq (R0 [95] [mI0 93 11,mI0 94 10,bI0 95 .neq 93 94])
 (.cond (.t 95) (S0 (R0 [2] [tI0 2 false])
 .ret) .skip))
 (S0 (R0 [2] [tI0 2 true])
 .ret)))))))))))))))))))))))))⟩
theorem cf3:cF Try.prog Try.f3=some if3:=by kernel_rfl
end Go.Proofs
