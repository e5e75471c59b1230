/- Elements and subgroups whose list lies in a slot. -/
import Derived.Test.YtfoidnlodahfjaaGreatAP43
import Derived.Test.YtfoidnlodahfjaaGreatAP42
import Derived.Test.YtfoidnlodahfjaaGreatAP33
import Derived.Test.YtfoidnlodahfjaaGreatAP29
import Derived.Test.YtfoidnlodahfjaaGreatAP40
import Derived.Test.YtfoidnlodahfjaaGreatAP31
import Derived.Test.YtfoidnlodahfjaaGreatAAbPz
import Derived.Test.YtfoidnlodahfjaaGreatAP28
import Derived.Test.YtfoidnlodahfjaaGreatAAbPn
import Derived.Test.YtfoidnlodahfjaaGreatAP36
import Derived.Test.YtfoidnlodahfjaaGreatAAbPk
import Derived.Test.YtfoidnlodahfjaaGreatAAbPa
open Int renaming reduceNatCast'→iQ0
set_option maxRecDepth 100000
namespace Go.Grp
end Go.Grp
set_option linter.unusedSimpArgs false
set_option linter.unusedVariables false
set_option linter.unusedSectionVars false
namespace Go.Proofs
open Go.Ab Go.Lie Go.Grp
variable {σ σ0 h h':PHeap} {K:PV→PHeap→Prop} {b k nP nC r s0 i j n:Nat} {L L':Nat→Nat} {Q Q':Nat→Prop} {len:Nat→Nat} {v vO vP vC c vX vS vL vM:PV} {x O xs bs:List Int} {P M:List (List Int)} {C:List (List (List Int))} {cs:List PV}
def Two (b:Nat) (h:PHeap) (vO vP vC:PV):Prop:=∃(so sP sR sC t:Nat) (c1 c2 c3 c4 c5:Cap),vO=.sl so 0 1 c1∧vP=.sl sP 0 1 c2∧vC=.sl sC 0 1 c4∧(full 1 c1 1∧full 1 c2 1∧full 1 c3 1∧full 1 c4 1∧full 1 c5 0)∧
 (b≤so∧so<h.next∧b≤sP∧sP<h.next∧b≤sR∧sR<h.next∧b≤sC∧sC<h.next∧b≤t∧t<h.next)∧h.obj so=some (pis [2])∧h.obj sP=some [.sl sR 0 1 c3]∧h.obj sR=some (pis [0])∧h.obj sC=some [.sl t 0 0 c5]∧h.obj t=some []
theorem Two.set (a:Two b h vO vP vC) {s:Nat} (hs:s<b) (ds:List PV):Two b (h.set s ds) vO vP vC:=by
 obtain⟨so,sP,sR,sC,t,c1,c2,c3,c4,c5,e1,e2,e3,f,⟨b1,b2,b3,b4,b5,b6,b7,b8,b9,b10⟩,o1,o2,o3,o4,o5⟩:=a;have k:∀{u:Nat},b≤u→(h.set s ds).obj u=h.obj u:=fun hu=>by rw [zI,if_neg (by omega)]
 exact⟨so,sP,sR,sC,t,c1,c2,c3,c4,c5,e1,e2,e3,f,⟨b1,b2,b3,b4,b5,b6,b7,b8,b9,b10⟩,by rw [k b1];exact o1,by rw [k b3];exact o2,by rw [k b5];exact o3,by rw [k b7];exact o4,by rw [k b9];exact o5⟩
theorem Two.fin (a:Two b h vO vP vC) (kk:Keep σ h) (hb:σ.next≤b) (hk:∀wO wP wC,IsPr wO wP wC [2] [[0]] [[]]→K (.agg [wO,wP,wC]) σ):Gh σ K (.agg [vO,vP,vC]) h:=by
 obtain⟨so,sP,sR,sC,t,c1,c2,c3,c4,c5,rfl,rfl,rfl,⟨f1,f2,f3,f4,f5⟩,⟨b1,b2,b3,b4,b5,b6,b7,b8,b9,b10⟩,o1,o2,o3,o4,o5⟩:=a;have e:(TR.agg [TR.row so c1 [2],TR.lst sP c2 [TR.row sR c3 [0]],TR.lst sC c4 [TR.lst t c5 []]]).pv=.agg [.sl so 0 1 c1,.sl sP 0 1 c2,.sl sC 0 1 c4]:=by simp only [TR.pv,TR.pvs,TR.row_pv];rfl
 rw [←e];have ok:(TR.agg [TR.row so c1 [2],TR.lst sP c2 [TR.row sR c3 [0]],TR.lst sC c4 [TR.lst t c5 []]]).ok h σ.next:=by
  refine⟨TR.row_ok f1 o1 (by omega) b2,⟨⟨f2,?_,by omega,b4⟩,TR.row_ok f3 o3 (by omega) b6,trivial⟩,⟨⟨f4,?_,by omega,b8⟩,⟨⟨f5,o5,by omega,b10⟩,trivial⟩,trivial⟩,trivial⟩
  ·rw [o2];simp only [TR.pvs,TR.row_pv];rfl
  ·rw [o4];simp only [TR.pvs,TR.pv];rfl
 refine Gh.treeF kk (qy ok) fun a=>?_
 have:=hk ((TR.row so c1 [2]).fz a) ((TR.lst sP c2 [TR.row sR c3 [0]]).fz a) ((TR.lst sC c4 [TR.lst t c5 []]).fz a) ⟨TR.row_FI,⟨true,_,_,rfl,(All2.nil _).cons TR.row_FI⟩,⟨true,_,_,rfl,(All2.nil _).cons ⟨true,_,_,rfl,All2.nil _⟩⟩⟩
 simpa only [TR.fz,TR.fzs]using this
theorem zFD {s:Nat} {cap:Cap} (ho:σ.obj s=some (pis [2])) (hs:s<σ.next) (hk:∀wO wP wC,IsPr wO wP wC [2] [[0]] [[]]→K (.agg [wO,wP,wC]) σ):zA Tryz.prog 203 [.sl s 0 1 cap] σ K:=by
 refine zA.gh ?_;refine zC mix Tryz.func203 ?_
 conv=>arg 2;cbv
 refine zD rfl ?_;simp only [pwA,seval,-iQ0];refine zAn (xs:=[2]) (by rw [zG,if_neg (by omega)];exact ho) (by show s<σ.next+1;omega) (by decide) fun cap1 hc1=>?_
 simp only [pwA,seval,-iQ0];refine zF (fun m vs h=>(m=1∧vs=[.ptr σ.next 0,.int .i64 1,.ptr (σ.next+2) 0,.int .i64 0]∧Keep σ h∧h.obj σ.next=some nil3∧h.obj (σ.next+1)=some (pis [2])∧h.obj (σ.next+2)=some [.sl (σ.next+1) 0 1 cap1,.fz true .nils 0 [],.fz true .nils 0 []]∧h.next=σ.next+3)∨
   (m=0∧vs=[.ptr σ.next 0,.int .i64 1,.ptr (σ.next+2) 0,.int .i64 1]∧Keep σ h∧h.obj σ.next=some nil3∧∃uO uP uC:PV,h.obj (σ.next+2)=some [uO,uP,uC]∧Two (σ.next+1) h uO uP uC)) 1 ?_ ?_
 ·exact .inl ⟨rfl,rfl,((zB _ _).new _).new _,by simp only [pwA,seval,-iQ0],by simp only [pwA,seval,-iQ0],by simp only [pwA,seval,-iQ0],rfl⟩
 rintro m vs h (⟨rfl,rfl,kk,ob0,ob1,ob2,hn⟩ | ⟨rfl,rfl,kk,ob0,uO,uP,uC,ob2,tw⟩)
 ·have r1:h.rd1 (σ.next+2) 1=some (.fz true .nils 0 []):=by rw [zH ob2];rfl
  have r2:h.rd1 (σ.next+2) 2=some (.fz true .nils 0 []):=by rw [zH ob2];rfl
  have n1:¬σ.next+2=h.next:=by omega
  have n2:¬σ.next+2=h.next+1:=by omega
  have n3:¬σ.next+2=h.next+2:=by omega
  simp only [pwA,seval,-iQ0,r1,r2,n1,n2,n3,mk8 (n:=1) (by omega),Go.Ab.mkL (n:=1) (by omega),qd,Qk,zB9,qC]
  have w1:h.wr (σ.next+2) 1 [.sl (h.next+2) 0 1 (.grown 1)]=some (h.set (σ.next+2) [.sl (σ.next+1) 0 1 cap1,.sl (h.next+2) 0 1 (.grown 1),.fz true .nils 0 []]):=by rw [zR ob2,if_pos ⟨by simp,by simp;rfl⟩];rfl
  have ob2':(h.set (σ.next+2) [.sl (σ.next+1) 0 1 cap1,.sl (h.next+2) 0 1 (.grown 1),.fz true .nils 0 []]).obj (σ.next+2)=some [.sl (σ.next+1) 0 1 cap1,.sl (h.next+2) 0 1 (.grown 1),.fz true .nils 0 []]:=by rw [zI,if_pos rfl]
  have ob1':(h.set (σ.next+2) [.sl (σ.next+1) 0 1 cap1,.sl (h.next+2) 0 1 (.grown 1),.fz true .nils 0 []]).obj (σ.next+1)=some (pis [2]):=by rw [zI,if_neg (by omega)];exact ob1
  have ob0':(h.set (σ.next+2) [.sl (σ.next+1) 0 1 cap1,.sl (h.next+2) 0 1 (.grown 1),.fz true .nils 0 []]).obj σ.next=some nil3:=by rw [zI,if_neg (by omega)];exact ob0
  have kk':Keep σ (h.set (σ.next+2) [.sl (σ.next+1) 0 1 cap1,.sl (h.next+2) 0 1 (.grown 1),.fz true .nils 0 []]):=kk.set (by omega) _
  have hn':(h.set (σ.next+2) [.sl (σ.next+1) 0 1 cap1,.sl (h.next+2) 0 1 (.grown 1),.fz true .nils 0 []]).next=h.next:=rfl;refine⟨by decide,?_⟩
  simp only [pwA,seval,-iQ0,w1];generalize h.set (σ.next+2) [.sl (σ.next+1) 0 1 cap1,.sl (h.next+2) 0 1 (.grown 1),.fz true .nils 0 []]=g at *
  rw [←hn'];rw [←hn']at ob2'
  refine zF (fun m vs h'=>m=0∧vs=[.ptr σ.next 0,.int .i64 1,.ptr (σ.next+2) 0,.int .i64 0,.sl (g.next+3) 0 0 (.known 0),.int .i64 1]∧h'=(((g.new [PV.int .i64 0]).new [PV.sl g.next 0 1 (Cap.known 1)]).new [PV.sl g.next 0 1 (Cap.known 1)]).new []) 0 ?_ ?_
  ·exact⟨rfl,rfl,rfl⟩
  rintro m vs h' ⟨rfl,rfl,rfl⟩
  have r2':g.rd1 (σ.next+2) 2=some (.fz true .nils 0 []):=by rw [zH ob2'];rfl
  rw [←hn']at n1 n2 n3 hn
  have n4:¬σ.next+2=g.next+3:=by omega
  have n5:¬σ.next+2=g.next+4:=by omega
  have n6:¬σ.next+2=g.next+5:=by omega
  simp only [pwA,seval,-iQ0,r2',n1,n2,n3,n4,n5,n6,qd,Qk,zB9,qC];have w2:g.wr (σ.next+2) 2 [.sl (g.next+5) 0 1 (.grown 1)]=some (g.set (σ.next+2) [.sl (σ.next+1) 0 1 cap1,.sl (g.next+2) 0 1 (.grown 1),.sl (g.next+5) 0 1 (.grown 1)]):=by rw [zR ob2',if_pos ⟨by simp,by simp;rfl⟩];rfl
  have ob2'':(g.set (σ.next+2) [.sl (σ.next+1) 0 1 cap1,.sl (g.next+2) 0 1 (.grown 1),.sl (g.next+5) 0 1 (.grown 1)]).obj (σ.next+2)=some [.sl (σ.next+1) 0 1 cap1,.sl (g.next+2) 0 1 (.grown 1),.sl (g.next+5) 0 1 (.grown 1)]:=by rw [zI,if_pos rfl]
  have ob1'':(g.set (σ.next+2) [.sl (σ.next+1) 0 1 cap1,.sl (g.next+2) 0 1 (.grown 1),.sl (g.next+5) 0 1 (.grown 1)]).obj (σ.next+1)=some (pis [2]):=by rw [zI,if_neg (by omega)];exact ob1'
  have ob0'':(g.set (σ.next+2) [.sl (σ.next+1) 0 1 cap1,.sl (g.next+2) 0 1 (.grown 1),.sl (g.next+5) 0 1 (.grown 1)]).obj σ.next=some nil3:=by rw [zI,if_neg (by omega)];exact ob0'
  have kk'':Keep σ (g.set (σ.next+2) [.sl (σ.next+1) 0 1 cap1,.sl (g.next+2) 0 1 (.grown 1),.sl (g.next+5) 0 1 (.grown 1)]):=kk'.set (by omega) _
  have hn'':(g.set (σ.next+2) [.sl (σ.next+1) 0 1 cap1,.sl (g.next+2) 0 1 (.grown 1),.sl (g.next+5) 0 1 (.grown 1)]).next=g.next:=rfl;simp only [pwA,seval,-iQ0,w2];generalize g.set (σ.next+2) [.sl (σ.next+1) 0 1 cap1,.sl (g.next+2) 0 1 (.grown 1),.sl (g.next+5) 0 1 (.grown 1)]=G at *
  rw [←hn'']at ob2'' hn ⊢
  have m0:∀k:Nat,¬σ.next=G.next+k:=fun k=>by omega
  have m1:∀k:Nat,¬σ.next+1=G.next+k:=fun k=>by omega
  have m2:∀k:Nat,¬σ.next+2=G.next+k:=fun k=>by omega
  have m00:¬σ.next=G.next:=m0 0;have m10:¬σ.next+1=G.next:=m1 0;have m20:¬σ.next+2=G.next:=m2 0;have eN:((((((G.new [PV.int .i64 0]).new [PV.sl G.next 0 1 (Cap.known 1)]).new [PV.sl G.next 0 1 (Cap.known 1)]).new []).new [PV.sl (G.next+3) 0 0 (Cap.known 0)]).new [PV.sl (G.next+3) 0 0 (Cap.known 0)]).next=G.next+6:=rfl;refine⟨0,by decide,.inr ⟨rfl,rfl,(((((kk''.new _).new _).new _).new _).new _).new _,?_,_,_,_,?_,σ.next+1,G.next+2,G.next,G.next+5,G.next+3,cap1,.grown 1,.known 1,.grown 1,.known 0,rfl,rfl,rfl,⟨hc1,.inl rfl,.inr rfl,.inl rfl,.inr rfl⟩,⟨?_,?_,?_,?_,?_,?_,?_,?_,?_,?_⟩,?_,?_,?_,?_,?_⟩⟩
  all_goals first
   | omega
   | (simp only [pwA,seval,-iQ0,m0,m1,m2,m00,m10,m20];done)
   | (simp only [pwA,seval,-iQ0,m0,m1,m2,m00,m10,m20];first | exact ob0' | exact ob0'' | exact ob1'' | exact ob2'' | rfl)
 have r3:h.rd (σ.next+2) 0 3=some [uO,uP,uC]:=by rw [zT ob2];rfl
 obtain⟨f1,f2,f3⟩:uO.one=true∧uP.one=true∧uC.one=true:=by
  obtain⟨so,sP,sR,sC,t,c1,c2,c3,c4,c5,rfl,rfl,rfl,_⟩:=tw;exact⟨rfl,rfl,rfl⟩
 have w:h.wr σ.next 0 [uO,uP,uC]=some (h.set σ.next [uO,uP,uC]):=by rw [zR ob0,if_pos ⟨by simp [nil3],by simp [f1,f2,f3]⟩];rfl
 have r4:(h.set σ.next [uO,uP,uC]).rd σ.next 0 3=some [uO,uP,uC]:=by rw [qJ,if_pos rfl];rfl
 have tw':=tw.set (s:=σ.next) (by omega) [uO,uP,uC]
 have kk':Keep σ (h.set σ.next [uO,uP,uC]):=kk.set (Nat.le_refl _) _;generalize h.set σ.next [uO,uP,uC]=g at *
 simp only [pwA,seval,-iQ0,r3,w,r4,f1,f2,f3];exact tw'.fin kk' (by omega) hk
end Go.Proofs
namespace Go.Grp
end Go.Grp
namespace Go.Proofs
open Go.Ab Go.Lie Go.Grp
variable {σ σ0 h h':PHeap} {K:PV→PHeap→Prop} {b k nP nC r s0 i j n:Nat} {L L':Nat→Nat} {Q Q':Nat→Prop} {len:Nat→Nat} {v vO vP vC c vX vS vL vM:PV} {x O xs bs:List Int} {P M:List (List Int)} {C:List (List (List Int))} {cs:List PV}
theorem zJf:zW [2] [[0]] [[]]:=by
 refine⟨by decide,rfl,rfl,by decide,by decide,fun i hi=>?_⟩
 have e:i=0:=by simp only [List.length_cons,List.length_nil]at hi;omega
 subst e;refine⟨⟨⟨rfl,fun j hj=>?_⟩,by decide⟩,rfl,fun k hk=>by simp at hk⟩
 have e:j=0:=by simp at hj;omega
 subst e
 decide
theorem zGT {l:Int} (so:So σ s0 vS bs) (hk:∀wO wP wC O P C σ',IsPr wO wP wC O P C→zW O P C→Mv σ s0 σ'→So σ' s0 vS bs→K (.agg [wO,wP,wC]) σ'):zA Tryz.prog 150 [.ptr s0 0,.int .i64 l] σ K:=by
 have hs0:=so.lt;refine zA.gh ?_;refine zC mix Tryz.func150 ?_
 conv=>arg 2;cbv
 refine zD rfl ?_;simp only [pwA,seval,-iQ0];generalize hH:σ.new [PV.fz true AV.nils 0 [],PV.fz true AV.nils 0 [],PV.fz true AV.nils 0 []]=H;have hHn:H.next=σ.next+1:=by rw [←hH];rfl
 have hsH:s0<H.next:=by omega
 have ob0:H.obj σ.next=some nil3:=by rw [←hH];simp only [pwA,seval,-iQ0]
 have km0:KM σ s0 H:=by rw [←hH];exact so.kmK (zB _ _)
 have so0:So H s0 vS bs:=by rw [←hH];exact so.keep (zB _ _)
 clear hH;have fin2:∀{g:PHeap} {wO wP wC:PV} {O:List Int} {P:List (List Int)} {C:List (List (List Int))},KM σ s0 g→So g s0 vS bs→IsPr wO wP wC O P C→zW O P C→Gh σ K (.agg [wO,wP,wC]) g:=fun {g wO wP wC O P C} km so' hR fm=>
  Gh.km km so' hs0 fun σ' m' so'' kp=>Gh.fin0 kp ⟨hR.O.bel _,hR.P.bel _,hR.C.bel _,trivial⟩ (hk _ _ _ O P C σ' hR fm m' so'')
 have fin:∀{g:PHeap} {wO wP wC:PV} {O:List Int} {P:List (List Int)} {C:List (List (List Int))},KM H s0 g→So g s0 vS bs→IsPr wO wP wC O P C→zW O P C→
   g.wr σ.next 0 [wO,wP,wC]=some (g.set σ.next [wO,wP,wC])∧(g.set σ.next [wO,wP,wC]).rd σ.next 0 3=some [wO,wP,wC]∧Gh σ K (.agg [wO,wP,wC]) (g.set σ.next [wO,wP,wC]):=fun {g wO wP wC O P C} km so' hR fm=>by
  have o1:=hR.O.one;have o2:=hR.P.one;have o3:=hR.C.one;have ob:g.obj σ.next=some nil3:=by rw [km.obj (by omega) (by omega)];exact ob0
  exact⟨by rw [zR ob,if_pos ⟨by simp [nil3],by simp [o1,o2,o3]⟩];rfl,by rw [qJ,if_pos rfl];rfl,fin2 ((km0.trans hs0 km).set (Nat.le_refl _) _) (so'.set (by omega) _) hR fm⟩
 refine zF (fun m vs g=>∃i:Nat,i≤12∧m=12-i∧vs=[.ptr s0 0,.int .i64 l,.ptr σ.next 0,.int .i64 i]∧KM H s0 g∧So g s0 vS bs) 12 ?_ ?_
 ·exact⟨0,by decide,rfl,rfl,so0.km,so0⟩
 rintro m vs g ⟨i,hi,rfl,rfl,km,so1⟩
 simp only [pwA,seval,-iQ0];refine iteI (fun hlt=>?_) fun hge=>?_
 rotate_left
 ·refine zFD (s:=g.next) (by rw [zG,if_pos rfl];rfl) (Nat.lt_succ_self _) fun uO uP uC hR=>?_
  obtain⟨f1,f2,f3⟩:=fin (km.new [.int .i64 2]) (so1.keep (zB _ _)) hR zJf;have o1:=hR.O.one;have o2:=hR.P.one;have o3:=hR.C.one;generalize g.new [PV.int .i64 2]=g' at *
  simp only [pwA,seval,-iQ0,o1,o2,o3,f1,f2];exact f3
 have wi:IntKind.i64.wrap ((i:Int)+1)=((i+1:Nat):Int):=by rw [wrap64 (by omega) (by omega)];omega
 refine zBm so1 fun vO vP vC O5 P5 C5 g1 hR5 fm m1 so2=>?_
 have p1:=hR5.O.one;have p2:=hR5.P.one;have p3:=hR5.C.one;have km1:=(km.mv hsH m1).new [vO,vP,vC];have so2':=so2.keep (zB g1 [vO,vP,vC]);have hg1:=km.next;have hm1:=m1.next;simp only [pwA,seval,-iQ0,p1,p2,p3];have ht:H.next≤g1.next:=by omega
 have ob1:(g1.new [vO,vP,vC]).obj g1.next=some [vO,vP,vC]:=by rw [zG,if_pos rfl]
 generalize g1.new [vO,vP,vC]=g2 at *
 generalize g1.next=t at *
 refine zO (n:=3) so2' (by decide) fun x g5 hx m3 so5=>?_
 have km5:=km1.mv hsH m3;have ob5:g5.obj t=some [vO,vP,vC]:=by rw [m3.obj (by omega)];exact ob1
 have r5:g5.rd t 0 3=some [vO,vP,vC]:=by rw [zT ob5];rfl
 have fm5:Fm 36 O5 P5 C5:=fm.mono (by decide)
 by_cases hx0:x=0
 case' pos=>
  subst hx0;simp only [pwA,seval,-iQ0,r5];refine zBm so5 fun yO yP yC O' P' C' g4 hR' fm' m4 so4=>?_
  have km4:=km5.mv hsH m4;have ob4:g4.obj t=some [vO,vP,vC]:=by rw [m4.obj (by omega)];exact ob5
  have r4:g4.rd t 0 3=some [vO,vP,vC]:=by rw [zT ob4];rfl
  simp only [pwA,seval,-iQ0,r4];refine zHe hR5 fm hR' fm' fun vO vP vC O5 P5 C5 hR5 fm5=>?_
  have p1:=hR5.O.one;have p2:=hR5.P.one;have p3:=hR5.C.one;have w4:g4.wr t 0 [vO,vP,vC]=some (g4.set t [vO,vP,vC]):=by rw [zR ob4,if_pos ⟨by simp,by simp [p1,p2,p3]⟩];rfl
  have km5:=km4.set ht [vO,vP,vC];have so5:=so4.set (t:=t) (by omega) [vO,vP,vC]
  have ob5:(g4.set t [vO,vP,vC]).obj t=some [vO,vP,vC]:=by rw [zI,if_pos rfl]
  simp only [pwA,seval,-iQ0,r4,w4,p1,p2,p3];generalize g4.set t [vO,vP,vC]=g5 at *
  have r5:g5.rd t 0 3=some [vO,vP,vC]:=by rw [zT ob5];rfl
  simp only [pwA,seval,-iQ0,r5]
 case' neg=>
  simp only [pwA,seval,-iQ0,hx0,r5]
 all_goals
  refine ZI hR5 (fm5.sz (by decide)) fun tt htt=>?_
  cases tt
  ·simp only [pwA,seval,-iQ0,wi]
   exact⟨_,by omega,i+1,by omega,rfl,rfl,km5,so5⟩
  have hp:=htt.1 rfl;have hO:=hR5.O;have r50:g5.rd1 t 0=some vO:=by rw [zH ob5];rfl
  simp only [pwA,seval,-iQ0,r50];refine zBO hO hp.1 hp.2.2.2.1 fun r hr=>?_
  by_cases hl:r≤l
  ·obtain⟨f1,f2,f3⟩:=fin km5 so5 hR5 hp
   simp only [pwA,seval,-iQ0,hl,r5,p1,p2,p3,f1,f2];exact f3
  ·simp only [pwA,seval,-iQ0,hl,wi]
   exact⟨_,by omega,i+1,by omega,rfl,rfl,km5,so5⟩
end Go.Proofs
namespace Go.Grp
end Go.Grp
namespace Go.Proofs
open Go.Ab Go.Lie Go.Grp
variable {σ σ0 h h':PHeap} {K:PV→PHeap→Prop} {b k nP nC r s0 i j n:Nat} {L L':Nat→Nat} {Q Q':Nat→Prop} {len:Nat→Nat} {v vO vP vC c vX vS vL vM:PV} {x O xs bs:List Int} {P M:List (List Int)} {C:List (List (List Int))} {cs:List PV}
theorem SmP.sz (a:SmP O P C):SzP O P C:=
 ⟨by have:=a.o;omega,⟨by have:=a.p;omega,fun r hr=>by have:=a.pr r hr;omega⟩,⟨by have:=a.c;omega,fun q hq=>⟨by have:=a.q q hq;omega,fun r hr=>by have:=a.r q hq r hr;omega⟩⟩⟩
theorem zGl (hp:zW O P C):SmP O P C:=by
 have sh:=hp.shp;have l6:=sh.le;obtain⟨h1,h2⟩:=zD2 sh;refine⟨by omega,fun a ha=>?_,by rw [sh.pl];omega,fun r hr=>by rw [h2 r hr];omega,by rw [sh.cl];omega,fun q hq=>by have:=(h1 q hq).1;omega,fun q hq r hr=>by rw [(h1 q hq).2 r hr];omega⟩
 obtain⟨j,hj,rfl⟩:=List.mem_iff_getElem.1 ha
 have:=sh.pr j hj
 rw [at_eq hj]at this
 omega
theorem PQ3.smO (hp:zW O M C) {P':List (List Int)} {C':List (List (List Int))} (a:PQ3 (fun m=>m=O.length) P' C' O.length O.length (fun i=>O.length-1-i)):SmP O P' C':=
 have l6:=hp.shp.le
 PQ3.sm (N:=O.length) ⟨a.pl,a.cl,fun r hr=>Nat.le_of_eq (a.pq r hr),a.row,fun q hq r hr=>Nat.le_of_eq (a.cq q hq r hr)⟩ (by omega) (by omega) (zGl hp).ob (by omega) (by omega) fun i hi=>by omega
theorem zLh {R:List Int→List (List Int)→List (List (List Int))→Prop} (hs0:s0<σ.next) (hk:∀wO wP wC O P C σ',IsPr wO wP wC O P C→R O P C→Mv σ s0 σ'→So σ' s0 vS bs→K (.agg [wO,wP,wC]) σ')
  {g:PHeap} (km:KM σ s0 g) (so:So g s0 vS bs) (ob:g.obj σ.next=some nil3) {wO wP wC:PV} (hR:IsPr wO wP wC O P C) (fm:R O P C):
  wO.one=true∧wP.one=true∧wC.one=true∧g.wr σ.next 0 [wO,wP,wC]=some (g.set σ.next [wO,wP,wC])∧(g.set σ.next [wO,wP,wC]).rd σ.next 0 3=some [wO,wP,wC]∧Gh σ K (.agg [wO,wP,wC]) (g.set σ.next [wO,wP,wC]):=by
 have o1:=hR.O.one;have o2:=hR.P.one;have o3:=hR.C.one;refine⟨o1,o2,o3,by rw [zR ob,if_pos ⟨by simp [nil3],by simp [o1,o2,o3]⟩];rfl,by rw [qJ,if_pos rfl];rfl,?_⟩
 refine Gh.km (km.set (Nat.le_refl _) _) (so.set (by omega) _) hs0 fun σ' m' so' kp=>Gh.fin0 kp ⟨hR.O.bel _,hR.P.bel _,hR.C.bel _,trivial⟩ (hk _ _ _ O P C σ' hR fm m' so')
theorem zHd {l:Int} (so:So σ s0 vS bs) (hk:∀wO wP wC O P C σ',IsPr wO wP wC O P C→SmP O P C→Mv σ s0 σ'→So σ' s0 vS bs→K (.agg [wO,wP,wC]) σ'):zA Tryz.prog 82 [.ptr s0 0,.int .i64 l] σ K:=by
 have hs0:=so.lt;refine zA.gh ?_;refine zC mix Tryz.func82 ?_
 conv=>arg 2;cbv
 refine zD rfl ?_;simp only [pwA,seval,-iQ0];generalize hH:σ.new [PV.fz true AV.nils 0 [],PV.fz true AV.nils 0 [],PV.fz true AV.nils 0 []]=H;have hHn:H.next=σ.next+1:=by rw [←hH];rfl
 have hsH:s0<H.next:=by omega
 have ob0:H.obj σ.next=some nil3:=by rw [←hH];simp only [pwA,seval,-iQ0]
 have km0:KM σ s0 H:=by rw [←hH];exact so.kmK (zB _ _)
 have so0:So H s0 vS bs:=by rw [←hH];exact so.keep (zB _ _)
 clear hH;have fin:∀{g:PHeap} {wO wP wC:PV} {O:List Int} {P:List (List Int)} {C:List (List (List Int))},KM H s0 g→So g s0 vS bs→IsPr wO wP wC O P C→SmP O P C→
   wO.one=true∧wP.one=true∧wC.one=true∧g.wr σ.next 0 [wO,wP,wC]=some (g.set σ.next [wO,wP,wC])∧(g.set σ.next [wO,wP,wC]).rd σ.next 0 3=some [wO,wP,wC]∧Gh σ K (.agg [wO,wP,wC]) (g.set σ.next [wO,wP,wC]):=fun {g wO wP wC O P C} km so' hR fm=>
  zLh hs0 hk (km0.trans hs0 km) so' (by rw [km.obj (by omega) (by omega)];exact ob0) hR fm
 refine zGT so0 fun vO vP vC O P C g1 hR hp m1 so1=>?_
 have o1:=hR.O.one;have o2:=hR.P.one;have o3:=hR.C.one;have hm1:=m1.next;have km1:=(so0.km.mv hsH m1).new [vO,vP,vC];have so1':=so1.keep (zB g1 [vO,vP,vC]);have ob1:(g1.new [vO,vP,vC]).obj g1.next=some [vO,vP,vC]:=by rw [zG,if_pos rfl]
 simp only [pwA,seval,-iQ0,o1,o2,o3];generalize g1.new [vO,vP,vC]=g2 at *
 generalize g1.next=t at *
 refine zO (n:=24) so1' (by decide) fun x g3 hx m3 so3=>?_
 have km3:=km1.mv hsH m3;have ob3:g3.obj t=some [vO,vP,vC]:=by rw [m3.obj (by omega)];exact ob1
 have r3:g3.rd t 0 3=some [vO,vP,vC]:=by rw [zT ob3];rfl
 by_cases e0:x=0
 ·subst e0
  simp only [pwA,seval,-iQ0,r3];refine zHf so3 hR hp fun uO uP uC O' P' C' g4 hR' sm m4 so4=>?_
  obtain⟨f1,f2,f3,f4,f5,f6⟩:=fin (km3.mv hsH m4) so4 hR' sm;simp only [pwA,seval,-iQ0,f1,f2,f3,f4,f5];exact f6
 have turn:∀{K':PV→PHeap→Prop},(∀uO uP uC P' C' g4,IsPr uO uP uC O P' C'→SmP O P' C'→KM H s0 g4→So g4 s0 vS bs→K' (.agg [uO,uP,uC]) g4)→zA Tryz.prog 84 [.ptr s0 0,.agg [vO,vP,vC]] g3 K':=fun hk'=>
  zHc so3 hR hp fun uO uP uC P' C' g4 hR' hq m4 so4=>hk' uO uP uC P' C' g4 hR' (PQ3.smO hp hq) (km3.mv hsH m4) so4
 by_cases e1:x=1
 ·subst e1
  simp only [pwA,seval,-iQ0,r3];refine turn fun uO uP uC P' C' g4 hR' sm km4 so4=>?_
  obtain⟨f1,f2,f3,f4,f5,f6⟩:=fin km4 so4 hR' sm;simp only [pwA,seval,-iQ0,f1,f2,f3,f4,f5];exact f6
 by_cases e2:x=2
 ·subst e2
  simp only [pwA,seval,-iQ0,r3];refine turn fun uO uP uC P' C' g4 hR' sm km4 so4=>?_
  obtain⟨f1,f2,f3,f4,f5,f6⟩:=fin km4 so4 hR' sm;simp only [pwA,seval,-iQ0,f1,f2,f3,f4,f5];exact f6
 obtain⟨f1,f2,f3,f4,f5,f6⟩:=fin km3 so3 hR (zGl hp);simp only [pwA,seval,-iQ0,e0,e1,e2,r3,f1,f2,f3,f4,f5];exact f6
end Go.Proofs
namespace Go.Grp
end Go.Grp
namespace Go.Proofs
open Go.Ab Go.Lie Go.Grp
variable {σ σ0 h h':PHeap} {K:PV→PHeap→Prop} {b k nP nC r s0 i j n:Nat} {L L':Nat→Nat} {Q Q':Nat→Prop} {len:Nat→Nat} {v vO vP vC c vX vS vL vM:PV} {x O xs bs:List Int} {P M:List (List Int)} {C:List (List (List Int))} {cs:List PV}
theorem PSl.finKM (pa:PSl b 1 h v x.length (pis x)) (hb:σ.next≤b) (km:KM σ s0 h) (so:So h s0 vS bs) (hs0:s0<σ.next) (hk:∀u σ',FI u x→Mv σ s0 σ'→So σ' s0 vS bs→K u σ'):Gh σ K v h:=by
 refine Gh.km km so hs0 fun σ' m' so' kp=>?_
 have hn:=m'.next;obtain⟨s,cap,rfl,h1,h2,h3,h4,h5⟩:=pa;exact PSl.fin (σ:=σ') kp ⟨s,cap,rfl,h1,h2,h3,by omega,h5⟩ (zM _ _) fun o cap=>hk _ σ' ⟨true,_,rfl⟩ m' so'
theorem PSl.pushKM {H:PHeap} {y:Int} {KA:PV×PHeap→Prop} (pa:PSl H.next 1 h v x.length (pis x)) (hl:x.length≤100) (km:KM H s0 h) (so:So h s0 vS bs) (hs0:s0<H.next)
  (hk:∀v2 h2,KM H s0 h2→So h2 s0 vS bs→PSl H.next 1 h2 v2 (x++[y]).length (pis (x++[y]))→KA (v2,h2)):optK (zY 1 8 (h.new [.int .i64 y]) v (.sl h.next 0 1 (.known 1))) KA:=by
 obtain⟨σ',m',kp⟩:=km;have hn:=m'.next;refine PSl.push (σb:=σ') (bytes:=8) kp (by rw [hn];exact pa) (by omega) (by omega) fun v2 h2 k2 a2=>hk v2 h2 ⟨σ',m',k2⟩ ((zC8 kp so (by rw [hn];exact hs0)).keep k2) ?_
 have e:pis (x++[y])=pis x++[.int .i64 y]:=by simp [pis]
 rw [e,List.length_append,←hn];exact a2
theorem zBM (so:So σ s0 vS bs) (hR:IsPr vO vP vC O P C) (sm:SmP O P C) (hk:∀v x σ',FI v x→x.length≤65→Mv σ s0 σ'→So σ' s0 vS bs→K v σ'):zA Tryz.prog 109 [.ptr s0 0,.agg [vO,vP,vC]] σ K:=by
 have hs0:=so.lt;have g0:=hR.O.one;have g1:=hR.P.one;have g2:=hR.C.one;have so64:=sm.o;have sob:=sm.ob;obtain⟨⟨wO,aO,rfl⟩,_,_⟩:=hR;refine zA.gh ?_;refine zC mix Tryz.func109 ?_
 conv=>arg 2;cbv
 refine zD rfl ?_;simp only [pwA,seval,-iQ0,g0,g1,g2];generalize hH:σ.new [PV.fz wO aO O.length (pis O),vP,vC]=H;have hHn:H.next=σ.next+1:=by rw [←hH];rfl
 have hsH:s0<H.next:=by omega
 have ob0:H.obj σ.next=some [PV.fz wO aO O.length (pis O),vP,vC]:=by rw [←hH];simp only [pwA,seval,-iQ0]
 have km0:KM σ s0 H:=by rw [←hH];exact so.kmK (zB _ _)
 have so0:So H s0 vS bs:=by rw [←hH];exact so.keep (zB _ _)
 clear hH;have rO:∀{g:PHeap},KM H s0 g→g.rd1 σ.next 0=some (.fz wO aO O.length (pis O)):=fun {g} km=>by rw [zH (by rw [km.obj (by omega) (by omega)];exact ob0)];rfl
 refine zF (fun m vs h=>∃(i:Nat) (v:PV) (x:List Int),i≤O.length∧m=O.length-i∧vs=[.ptr s0 0,.ptr σ.next 0,v,.int .i64 i]∧x.length=i∧KM H s0 h∧So h s0 vS bs∧PSl H.next 1 h v x.length (pis x)) O.length ?_ ?_
 ·exact⟨0,_,[],Nat.zero_le _,rfl,rfl,rfl,so0.km.new _,so0.keep (zB _ _),PSl.own (n:=0) (.inr rfl) (by rw [zG,if_pos hHn.symm];rfl) rfl (by omega) (by show σ.next+1<H.next+1;omega)⟩
 rintro m vs h ⟨i,v,x,hi,rfl,rfl,hxl,km,so1,pa⟩
 have h1:=pa.one;simp only [pwA,seval,-iQ0,h1,rO km];refine iteI (fun hlt=>?_) fun hge=>?_
 ·have hlt':(i:Int)<(O.length:Int):=by omega
  have gx:(pis O)[i]? = some (.int .i64 O[i]):=by rw [zL,gi hlt];rfl
  have ob:=sob _ (List.getElem_mem hlt);have wi:=wrapS hlt (by omega:O.length≤4611686018427387904)
  simp only [pwA,seval,-iQ0,h1,rO km,hlt,hlt',gx];refine zO (n:=O[i]) so1 (by omega) fun y g hy m2 so2=>?_
  have km2:=km.mv hsH m2;have pa2:=PSl.mv' pa hsH m2;simp only [pwA,seval,-iQ0,h1];refine PSl.pushKM pa2 (by omega) km2 so2 hsH fun v2 h2 km3 so3 pa3=>?_
  have h3:=pa3.one;simp only [pwA,seval,-iQ0,h3,wi];exact⟨_,by omega,i+1,v2,x++[y],by omega,rfl,rfl,by rw [List.length_append,hxl];rfl,km3,so3,pa3⟩
 have hxO:x.length=O.length:=by omega
 have fin:∀{g:PHeap} {u:PV} {y:List Int},KM H s0 g→So g s0 vS bs→PSl H.next 1 g u y.length (pis y)→y.length≤65→Gh σ K u g:=fun {g u y} km so' pa hl=>
  PSl.finKM pa (by omega) (km0.trans hs0 km) so' hs0 fun w σ' hw m' so''=>hk w y σ' hw hl m' so''
 simp only [pwA,seval,-iQ0,h1];refine zO (n:=40) so1 (by decide) fun y g hy m2 so2=>?_
 have km2:=km.mv hsH m2;have pa2:=PSl.mv' pa hsH m2
 by_cases y0:y=0
 rotate_left
 ·simp only [pwA,seval,-iQ0,y0,h1]
  exact fin km2 so2 pa2 (by omega)
 subst y0;have hlv:pLen v=some (.int .i64 x.length):=by obtain⟨s,cap,rfl,_⟩:=pa;rfl
 have app:∀{g:PHeap} {KA:PV×PHeap→Prop},KM H s0 g→So g s0 vS bs→PSl H.next 1 g v x.length (pis x)→(∀v2 h2,KM H s0 h2→So h2 s0 vS bs→PSl H.next 1 h2 v2 (x++[0]).length (pis (x++[0]))→KA (v2,h2))→optK (zY 1 8 (g.new [.int .i64 0]) v (.sl g.next 0 1 (.known 1))) KA:=fun {g KA} km so' pa hk'=>PSl.pushKM pa (by omega) km so' hsH hk'
 by_cases hx0:x.length=0
 ·have d0:¬(0:Int)<((x.length:Nat):Int):=by omega
  simp only [pwA,seval,-iQ0,hlv,d0,h1];refine app km2 so2 pa2 fun v2 h2 km3 so3 pa3=>?_
  have h3:=pa3.one;simp only [pwA,seval,-iQ0,h3];exact fin km3 so3 pa3 (by rw [List.length_append,List.length_singleton];omega)
 have d0:(0:Int)<((x.length:Nat):Int):=by omega
 have d1:0<x.length:=by omega
 simp only [pwA,seval,-iQ0,hlv,d0,d1,h1];refine zO (n:=2) so2 (by decide) fun z g' hz m3 so3=>?_
 have km3:=km2.mv hsH m3;have pa3:=PSl.mv' pa2 hsH m3
 by_cases z0:z=0
 rotate_left
 ·simp only [pwA,seval,-iQ0,z0,hlv,d0,d1,h1]
  refine app km3 so3 pa3 fun v2 h2 km3 so3 pa3=>?_
  have h3:=pa3.one;simp only [pwA,seval,-iQ0,h3];exact fin km3 so3 pa3 (by rw [List.length_append,List.length_singleton];omega)
 have hO0:0<O.length:=by omega
 have hO0':(0:Int)<(O.length:Int):=by omega
 have gx:(pis O)[0]? = some (.int .i64 O[0]):=by rw [zL,gi hO0];rfl
 simp only [pwA,seval,-iQ0,z0,hlv,d0,d1,h1,rO km3,hO0,hO0',gx];have kG:=zB g' [PV.int .i64 O[0],PV.int .i64 (-1)];refine Zc (xs:=[O[0],-1]) (t:=g'.next) (so3.keep kG) (by have:=km3.next;omega) (by rw [zG,if_pos rfl];rfl) (by simp) fun y g2 hy m4 so4=>?_
 have km4:=(km3.keep kG).mv hsH m4;have pa4:=PSl.mv' (pa3.keep kG) hsH m4;obtain⟨s,cap,rfl,p1,p2,p3,p4,p5⟩:=pa4;have w:g2.wr s 0 [.int .i64 y]=some (g2.set s (pis (x.set 0 y))):=zBU p2 d1;have pa5:PSl H.next 1 (g2.set s (pis (x.set 0 y))) (.sl s 0 x.length cap) (x.set 0 y).length (pis (x.set 0 y)):=by
  rw [List.length_set];exact⟨s,cap,rfl,p1,by rw [zI,if_pos rfl],by rw [zK,List.length_set,Nat.mul_one],p4,p5⟩
 simp only [pwA,seval,-iQ0,d0,d1,w];exact fin (km4.set p4 _) (so4.set (by omega) _) pa5 (by rw [List.length_set];omega)
end Go.Proofs
namespace Go.Grp
end Go.Grp
namespace Go.Proofs
open Go.Ab Go.Lie Go.Grp
variable {σ h h':PHeap} {K:PV→PHeap→Prop} {O:List Int} {P:List (List Int)} {C:List (List (List Int))} {vO vP vC vx vy vL v c x:PV} {xs:List (List Int)} {b m t:Nat} {cs ds:List PV}
theorem _root_.Go.Ab.Keep.keepOf2 {σ T h:PHeap} {rr:List PV} (k:Keep (T.new rr) h) (kp:Keep σ T):Keep σ h:=(kp.new rr).trans k
def PT (b:Nat) (h:PHeap) (v:PV) (m:Nat) (cs:List PV):Prop:=
 (v=.fz true .nils 0 []∧m=0∧cs=[])∨∃s off cap row,v=.sl s off m cap∧(cap=.grown 1∨∃c,cap=.known c∧m≤c∧off+c≤row.length)∧h.obj s=some row∧(row.drop off).take m=cs∧off+m≤row.length∧b≤s∧s<h.next
theorem PT.len (a:PT b h v m cs):cs.length=m:=by
 rcases a with ⟨_,rfl,rfl⟩|⟨s,off,cap,row,rfl,h1,h2,h3,h4,h5,h6⟩
 ·rfl
 ·rw [←h3,List.length_take,List.length_drop];omega
theorem PT.of (a:PSl b 1 h v m cs):PT b h v m cs:=by
 obtain⟨s,cap,rfl,h1,h2,h3,h4,h5⟩:=a;refine .inr ⟨s,0,cap,cs,rfl,?_,h2,by rw [List.drop_zero,List.take_of_length_le (by omega)],by omega,h4,h5⟩
 rcases h1 with rfl|rfl
 ·exact .inl rfl
 ·exact .inr ⟨m,rfl,Nat.le_refl _,by omega⟩
theorem PT.set (a:PT b h v m cs) (ht:t<b) (ds:List PV):PT b (h.set t ds) v m cs:=by
 rcases a with a|⟨s,off,cap,row,rfl,h1,h2,h3,h4,h5,h6⟩
 ·exact .inl a
 ·exact .inr ⟨s,off,cap,row,rfl,h1,by rw [zI,if_neg (by omega)];exact h2,h3,h4,h5,h6⟩
theorem PT.pLen (a:PT b h v m cs):pLen v=some (.int .i64 m):=by
 rcases a with ⟨rfl,rfl,_⟩|⟨s,off,cap,row,rfl,_⟩<;>rfl
theorem PT.unsnoc (a:PT b h v (m+1) (cs++[c])):∃s off cap v',v=.sl s off (m+1) cap∧h.rd1 s (off+m)=some c∧Zo 1 v none (some (.int .i64 m)) none=some v'∧PT b h v' m cs:=by
 have hl:=a.len;rcases a with ⟨_,e,_⟩|⟨s,off,cap,row,rfl,h1,h2,h3,h4,h5,h6⟩
 ·cases e
 have hlen:cs.length=m:=by simpa using hl
 have e4:row[off+m]? = some c:=by
  have e:((row.drop off).take (m+1))[m]? = some c:=by
   rw [h3,List.getElem?_append_right (by omega),hlen,Nat.sub_self];rfl
  rw [List.getElem?_take_of_lt (by omega),List.getElem?_drop]at e
  exact e
 have e3:(row.drop off).take m=cs:=by
  have e:((row.drop off).take (m+1)).take m=cs:=by rw [h3,List.take_append_of_le_length (by omega),List.take_of_length_le (by omega)]
  rw [List.take_take,Nat.min_eq_left (by omega)]at e
  exact e
 have hz:(m:Int)≤((m+1:Nat):Int):=by omega
 rcases h1 with rfl|⟨k,rfl,hk1,hk2⟩
 ·refine⟨s,off,_,.sl s off m (.grown 1),rfl,by rw [zH h2];exact e4,?_,.inr ⟨s,off,_,row,rfl,.inl rfl,h2,e3,by omega,h5,h6⟩⟩
  simp only [pwA,seval,-iQ0,hz]
  rfl
 ·have hmk:(m:Int)≤(k:Int):=by omega
  refine⟨s,off,_,.sl s off m (.known k),rfl,by rw [zH h2];exact e4,?_,.inr ⟨s,off,_,row,rfl,.inr ⟨k,rfl,by omega,hk2⟩,h2,e3,by omega,h5,h6⟩⟩
  simp only [pwA,seval,-iQ0,hz,hmk];rw [if_pos (show m≤k by omega)]
  simp
theorem PT.push {σb:PHeap} {bytes:Nat} {K:PV×PHeap→Prop} (hx1:x.one=true) (hk:Keep σb h) (a:PT σb.next h v m cs)
  (h1:(m+1)*bytes≤140737488355328) (h2:m+1≤4611686018427387904) (k:∀v' h',Keep σb h'→PT σb.next h' v' (m+1) (cs++[x])→K (v',h')):optK (zY 1 bytes (h.new [x]) v (.sl h.next 0 1 (.known 1))) K:=by
 have hl:=a.len;rcases a with ⟨rfl,rfl,rfl⟩|⟨s,off,cap,row,rfl,q1,q2,q3,q4,q5,q6⟩
 ·exact PAcc.push hk (PAcc.nil _ _ _) h1 h2 fun v' h' k1 k2=>k v' h' k1 (.of k2)
 rw [qd];have hp:qW 1 (h.new [x]) (.sl h.next 0 1 (.known 1)) 1=some [x]:=by simp [qC,Zj]
 have hobj:(h.new [x]).obj s=some row:=by simp only [PHeap.new];rw [if_neg (by omega)];exact q2
 have hn:=hk.next;simp only [plen,Option.bind_some];rw [if_neg (by omega),hp]
 simp only [Option.bind_some];rcases q1 with rfl|⟨c,rfl,c1,c2⟩
 ·rw [QP,if_pos ⟨h1,h2,rfl⟩,hobj]
  simp only [Option.bind_some];rw [if_pos (by omega),Nat.mul_one,q3]
  refine qR rfl (k _ _ (((hk.new _).kill (by omega)).new _) (.inr ⟨(h.new [x]).next,0,_,cs++[x],rfl,.inl rfl,by simp [PHeap.new,PHeap.kill],?_,by simp [hl],by simp [PHeap.new];omega,by simp [PHeap.new,PHeap.kill]⟩))
  rw [List.drop_zero,List.take_of_length_le (by simp [hl])]
 ·rw [QO]
  by_cases hc:m+1≤c
  ·rw [if_pos hc,Nat.mul_one,zR hobj,if_pos ⟨by simp;omega,by simp [hx1]⟩]
   simp only [Option.map_some,List.length_singleton];refine qR rfl (k _ _ ((hk.new _).set q5 _) (.inr ⟨s,off,_,_,rfl,.inr ⟨c,rfl,hc,?_⟩,by rw [zI,if_pos rfl],?_,?_,q5,Nat.lt_succ_of_lt q6⟩))
   ·simp;omega
   ·have e1:(row.take (off+m)).length=off+m:=by simp;omega
    rw [List.append_assoc,List.drop_append_of_le_length (by omega),List.take_append,show((row.take (off+m)).drop off).length=m by simp;omega]
    have e2:(row.take (off+m)).drop off=cs:=by
     rw [←q3,List.drop_take];congr 1;omega
    rw [e2,List.take_of_length_le (by omega),show m+1-m=1 by omega]
    simp
   ·simp;omega
  ·rw [if_neg hc,if_pos ⟨h1,h2⟩,zT hobj,if_pos (by omega),Nat.mul_one,q3]
   simp only [Option.map_some];refine qR rfl (k _ _ ((hk.new _).new _) (.inr ⟨(h.new [x]).next,0,_,cs++[x],rfl,.inl rfl,by simp [PHeap.new],?_,by simp [hl],by simp [PHeap.new];omega,by simp [PHeap.new]⟩))
   rw [List.drop_zero,List.take_of_length_le (by simp [hl])]
theorem zJA (hL:FII vL xs) (sz:SzL xs) (hk:∀v h' rows,Keep σ h'→PT σ.next h' v xs.length rows→All2 FI rows xs→K v h'):zA Tryz.prog 64 [vL] σ K:=by
 have hb:=sz.l;obtain⟨wl,al,rl,rfl,hrl⟩:=hL;refine zC mix Tryz.func64 ?_
 conv=>arg 2;cbv
 refine zD rfl ?_;simp only [pwA,seval,-iQ0];refine zF (fun m vs h'=>∃i v rows,i≤xs.length∧m=xs.length-i∧vs=[.fz wl al xs.length rl,v,.int .i64 (i:Nat)]∧Keep σ h'∧PSl σ.next 1 h' v i rows∧All2 FI rows (xs.take i)) xs.length ?_ ?_
 ·exact⟨0,_,[],by omega,by omega,rfl,zB σ _,PSl.new σ.next 1 rfl (Nat.le_refl _),by simpa using All2.nil _⟩
 ·rintro m vs h' ⟨i,v,rows,hi,rfl,rfl,hkp,ha,hall⟩
  simp only [pwA,seval,-iQ0];refine iteI (fun hlt=>?_) fun hge=>?_
  ·obtain⟨w4,a4,hrk⟩:=hrl.rowI hlt
   simp only [pwA,seval,-iQ0,hlt,hrk];refine zA.fz (e:=1) (fun K'=>zq rfl (by have:=sz.r _ (List.getElem_mem hlt);omega)) (zM _ _) fun o cap=>?_
   simp only [pwA,seval,-iQ0];refine PSl.push (bytes:=24) (σb:=σ) hkp ha (by omega) (by omega) fun v2 h2 k2 a2=>?_
   simp only [pwA,seval,-iQ0,wrapS hlt (by omega:xs.length≤4611686018427387904)]
   refine⟨_,by omega,i+1,v2,_,by omega,rfl,rfl,k2,a2,?_⟩
   rw [List.take_succ_eq_append_getElem hlt];exact hall.snoc ⟨_,_,rfl⟩
  ·have hie:i=xs.length:=by omega
   subst hie;rw [List.take_length]at hall
   exact hk _ _ rows hkp (.of ha) hall
theorem zBB {x:List Int} {vx:PV} (g:LG O P C) (hR:IsPr vO vP vC O P C) (hx:gS O x) (hvx:FI vx x) {k:Int} (hk0:-1000≤k∧k<0) (hk:∀v,FI v (Grp.pw (gm O P C) (zv O) (ginv (gS O) (gm O P C) (zv O) x) (-k).toNat)→K v σ):
  zA Tryz.prog 117 [.agg [vO,vP,vC],vx,.int .i64 k] σ K:=by
 have h0:=hR.O.one;have h1:=hR.P.one;have h2:=hR.C.one;have M:=g.F.g.toMon;have hk1:k<0:=hk0.2;have hkw:IntKind.i64.wrap (0-k)=-k:=by rw [wrap64 (by omega) (by omega)];omega
 refine zA.gh ?_;refine zC mix Tryz.func117 ?_
 conv=>arg 2;cbv
 refine zD rfl ?_;simp only [pwA,seval,-iQ0,h0,h1,h2,hk1];refine zBi g.s g.co hR hx hvx fun v hv=>?_
 simp only [pwA,seval,-iQ0,h0,h1,h2,hkw];refine Q8 g.s (d:=O.length) (i:=0) (by omega) (QJ g.s (by omega)) M hR (g.F.g.inv_in hx).1 hv (by omega) fun v hv=>?_
 simp only [pwA,seval,-iQ0];exact Gh.fin0 (zB σ _) (hv.bel _) (hk v hv)
end Go.Proofs
namespace Go.Proofs
open Go.Ab Go.Lie
variable {σ σ0 h h':PHeap} {K:PV→PHeap→Prop} {vC:PV} {bs:List Int} {s b n r0:Nat} {p:Int} {sP sB:Nat} {capP capB:Cap} {cs:List PV} {ls:List LS} {W:List (List Int)} {B:List (List (List Int))} {R:PV→List Int→Prop} {F F':List (List Int)→List (List (List Int))→Prop}
variable {E:Nat→List Int→Prop}
theorem ownFI {v:PV} {xs:List Int} (hv:FI v xs) (hb:xs.length≤4294967296) (hk:∀v',FI v' xs→K v' σ):zA Tryz.prog 63 [v] σ K:=by
 obtain⟨w,a,rfl⟩:=hv;exact zAP rfl hb fun v=>hk _ ⟨_,_,rfl⟩
end Go.Proofs
namespace Go.Proofs
open Go.Ab Go.Lie
variable {σ σ0 h h':PHeap} {K:PV→PHeap→Prop} {vC vP vB:PV} {bs:List Int} {s b n r0:Nat} {p:Int} {W:List (List Int)} {B:List (List (List Int))}
theorem KM.keepOf (k:KM σ s h) (hk:Keep σ0 σ) (hs:σ0.next≤s):Keep σ0 h:=by
 obtain⟨σ',⟨c0,c1,h0,h1,rfl⟩,q⟩:=k;exact(hk.set hs _).trans q
end Go.Proofs
namespace Go.Proofs
open Go.Ab Go.Lie
variable {σ σ0 h h':PHeap} {K:PV→PHeap→Prop} {vC vP vB vx vy:PV} {bs x y:List Int} {s b n r0:Nat} {p:Int} {W:List (List Int)} {B:List (List (List Int))}
theorem zGI (hx:FI vx x) (hy:FI vy y) (hl:x.length≤1048576) (hk:∀t:Bool,(t=true↔x=y)→K (.bool t) σ):zA Tryz.prog 18 [vx,vy] σ K:=by
 obtain⟨wx,ax,rfl⟩:=hx;obtain⟨wy,ay,rfl⟩:=hy;refine zC mix Tryz.func18 ?_
 conv=>arg 2;cbv
 refine zD rfl ?_;simp only [pwA,seval,-iQ0]
 by_cases hxy:x.length=y.length
 rotate_left
 ·have hne:¬(x.length:Int)=(y.length:Int):=by omega
  simp only [pwA,seval,-iQ0,hne];exact hk false ⟨fun h=>(by cases h),fun h=>absurd (by rw [h]) hxy⟩
 have heq:(x.length:Int)=(y.length:Int):=by omega
 simp only [pwA,seval,-iQ0,heq];refine zF (fun m us g=>∃i:Nat,i≤y.length∧m=y.length-i∧us=[.fz wx ax x.length (pis x),.fz wy ay y.length (pis y),.int .i64 i]∧g=σ∧∀j,j<i→x[j]? = y[j]?) y.length ⟨0,by omega,by omega,rfl,rfl,fun j hj=>absurd hj (Nat.not_lt_zero _)⟩ ?_
 rintro m us g ⟨i,hi,rfl,rfl,rfl,he⟩
 simp only [pwA,seval,-iQ0,heq];refine iteI (fun hlt=>?_) fun hge=>?_
 rotate_left
 ·refine hk true ⟨fun _=>List.ext_getElem? fun j=>?_,fun _=>rfl⟩
  rcases Nat.lt_or_ge j i with e|e
  ·exact he j e
  ·rw [List.getElem?_eq_none (by omega),List.getElem?_eq_none (by omega)]
 have hltx:i<x.length:=by omega
 have hlty:i<y.length:=by omega
 have wi1:IntKind.i64.wrap ((i:Int)+1)=((i+1:Nat):Int):=wrapS hlty (by omega)
 simp only [pwA,seval,-iQ0,pisAt hltx,pisAt hlty,hltx,hlty,wi1];refine iteI (fun hv=>?_) fun hv=>?_
 ·refine⟨_,by omega,i+1,by omega,rfl,rfl,fun j hj=>?_⟩
  rcases Nat.lt_or_ge j i with e|e
  ·exact he j e
  ·obtain rfl:j=i:=by omega
   rw [List.getElem?_eq_getElem hltx,List.getElem?_eq_getElem hlty,←at_eq hltx,←at_eq hlty,hv]
 ·refine hk false ⟨fun h=>(by cases h),fun h=>absurd ?_ hv⟩
  rw [h]
theorem zL2 (hb:FB vC bs) (hk:∀t:Bool,(t=true↔4096<bs.length)→K (.bool t) σ):zA Tryz.prog 6 [vC] σ K:=by
 obtain⟨w,a,rfl⟩:=hb;refine zC mix Tryz.func6 ?_
 conv=>arg 2;cbv
 refine zD rfl ?_;simp only [pwA,seval,-iQ0];refine hk _ ?_;rw [decide_eq_true_eq];omega
end Go.Proofs
namespace Go.Grp
end Go.Grp
namespace Go.Proofs
open Go.Ab Go.Lie Go.Grp
variable {σ:PHeap} {K:PV→PHeap→Prop} {O:List Int} {P:List (List Int)} {C:List (List (List Int))} {vO vP vC vx vy vB:PV} {x y:List Int} {p:Int} {n:Nat} {W:List (List Int)} {B:List (List (List Int))} {sp s:Nat}
theorem zLt:isExp O x↔gS O x:=by
 constructor
 ·rintro ⟨h1,h2⟩
  exact⟨h1,fun j hj=>by have:=h2 j (by omega);omega,fun j hj=>by omega⟩
 ·intro h
  exact⟨h.len,fun j hj=>by have:=h.bd j (by rw [←h.len];exact hj);omega⟩
theorem zBj (hR:IsPr vO vP vC O P C) (szO:O.length≤1048576) (bO:∀o∈O,isP o) (hy:FI vy y) (hb:y.length≤1048576) (hk:∀t:Bool,(t=true↔isExp O y)→K (.bool t) σ):zA Tryz.prog 49 [.agg [vO,vP,vC],vy] σ K:=by
 have h0:=hR.O.one;have h1:=hR.P.one;have h2:=hR.C.one;refine zA.gh ?_;refine zC mix Tryz.func49 ?_
 conv=>arg 2;cbv
 refine zD rfl ?_;simp only [pwA,seval,-iQ0,h0,h1,h2];refine Z7 (t:=0) (by omega) (Nat.zero_le _) hR.O szO bO hy hb fun t ht=>?_
 simp only [pwA,seval,-iQ0];exact Gh.fin0 (zB σ _) trivial (hk _ (ht.trans ⟨fun h=>h.1,fun h=>⟨h,fun x hx=>by simp at hx⟩⟩))
end Go.Proofs
namespace Go.Grp
end Go.Grp
namespace Go.Proofs
open Go.Ab Go.Lie Go.Grp
variable {σ h h':PHeap} {K:PV→PHeap→Prop} {O x y:List Int} {P:List (List Int)} {C:List (List (List Int))} {vO vP vC vx vL:PV} {L:List (List Int)} {D R:List (Option (List Int))} {rb rr:List PV} {d n sT:Nat}
def DRf (n:Nat) (c:PV) (r:Option (List Int)):Prop:=(c=.fz true .nils 0 []∧r=none)∨∃w a y,c=.fz w a n (pis y)∧y.length=n∧r=some y
theorem DRf.bel {c:PV} {r:Option (List Int)} (h:DRf n c r):Bel 0 c:=by
 rcases h with ⟨rfl,_⟩|⟨w,a,y,rfl,_⟩
 ·trivial
 ·rename_i e2;obtain⟨hl,_⟩:=e2;subst hl;exact FI.bel ⟨w,a,rfl⟩ 0
theorem DRf.bels (h:All2 (DRf n) rb D) (m:Nat):Bels m rb:=by
 refine ZQ.2 fun c hc=>?_
 obtain⟨k,hk,rfl⟩:=List.mem_iff_getElem.1 hc;exact(DRf.bel (h.2 k _ _ (List.getElem?_eq_getElem hk) (List.getElem?_eq_getElem (by rw [←h.1];exact hk)))).up (Nat.zero_le _)
theorem DRf.get (h:All2 (DRf n) rb D) {d:Nat} (hd:d<D.length):(rb[d]? = some (.fz true .nils 0 [])∧D[d]? = some none)∨∃w a y,rb[d]? = some (.fz w a n (pis y))∧y.length=n∧D[d]? = some (some y):=by
 have hb:d<rb.length:=by rw [h.1];exact hd
 rw [List.getElem?_eq_getElem hb,List.getElem?_eq_getElem hd];rcases h.2 d _ _ (List.getElem?_eq_getElem hb) (List.getElem?_eq_getElem hd)with ⟨e1,e2⟩|⟨w,a,y,e1,e3,e2⟩
 ·exact .inl ⟨by rw [e1],by rw [e2]⟩
 ·exact .inr ⟨w,a,y,by rw [e1],e3,by rw [e2]⟩
theorem DRf.put (h:All2 (DRf n) rb D) {v:PV} (hv:FI v y) (hy:y.length=n):All2 (DRf n) (rb.set d v) (D.set d (some y)):=by
 obtain⟨w,a,rfl⟩:=hv;refine⟨by rw [List.length_set,List.length_set];exact h.1,fun k c r hc hr=>?_⟩
 rw [List.getElem?_set]at hc hr
 by_cases e:d=k
 ·rw [if_pos e]at hc hr
  split at hc
  ·split at hr
   ·cases hc;cases hr;exact .inr ⟨w,a,y,by rw [hy],hy,rfl⟩
   ·cases hr
  ·cases hc
 ·rw [if_neg e]at hc hr
  exact h.2 k c r hc hr
theorem DRf.start (n m:Nat):All2 (DRf n) (List.replicate m (.fz true .nils 0 [])) (List.replicate m none):=by
 refine⟨by simp,fun k c r hc hr=>?_⟩
 rw [List.getElem?_replicate]at hc hr
 split at hc
 ·rename_i h
  rw [if_pos h]at hr
  cases hc;cases hr;exact .inl ⟨rfl,rfl⟩
 ·cases hc
theorem zGK (g:LG O P C) (hR:IsPr vO vP vC O P C) (hT:σ.obj sT=some rb) (hTl:sT<σ.next) (hD:OkD O D) (hrb:All2 (DRf O.length) rb D) (hx:gS O x) (hvx:FI vx x)
  (hk:∀v z,FI v z→gS O z→(dep z<O.length→D[dep z]? = some none)→Rdu O P C D x z→K (.tup [.int .i64 (dep z),v]) σ):zA Tryz.prog 116 [.agg [vO,vP,vC],.sl sT 0 O.length (.known O.length),vx] σ K:=by
 have h0:=hR.O.one;have h1:=hR.P.one;have h2:=hR.C.one;have s:=g.s;have F:=g.F;have G:=F.g;have hn6:=s.le;have hxl:=hx.len;refine zA.gh ?_;have hne:¬sT=σ.next:=Nat.ne_of_lt hTl;refine zC mix Tryz.func116 ?_
 conv=>arg 2;cbv
 refine zD rfl ?_;simp only [pwA,seval,-iQ0,h0,h1,h2];refine ownFI hvx (by omega) fun v0 hv0=>?_
 simp only [pwA,seval,-iQ0];refine zF (fun m vs h'=>∃(d:Nat) (z:List Int) (v:PV),d≤O.length∧m=O.length-d∧vs=[.sl sT 0 O.length (.known O.length),.ptr σ.next 0,v,.int .i64 d]∧σ.new [vO,vP,vC]=h'∧TT O d z∧FI v z∧Rdu O P C D x z) O.length ⟨0,x,v0,by omega,by omega,rfl,rfl,hx,hv0,.refl _⟩ ?_
 rintro m vs h' ⟨d,z,v,hd,rfl,rfl,rfl,hz,hv,hr⟩
 have hzS:gS O z:=hz.mono (Nat.zero_le _);have hzl:=hz.len;simp only [pwA,seval,-iQ0];refine iteI (fun hlt=>?_) fun hge=>?_
 rotate_left
 ·have hde:d=O.length:=by omega
  subst hde;have hz0:z=zv O:=hz.ext (s.zv _) fun j h1 h2=>by omega
  have hdz:dep z=O.length:=by rw [hz0];exact zH3 s
  exact Gh.fin0 (zB σ _) ⟨trivial,hv.bel _,trivial⟩ (by rw [←hdz];exact hk v z hv hzS (fun h=>by omega) hr)
 have hlt':d<O.length:=by omega
 have hdz:d<z.length:=by omega
 obtain⟨wz,az,rfl⟩:=hv;have hvz:FI (.fz wz az z.length (pis z)) z:=⟨wz,az,rfl⟩;have w1:IntKind.i64.wrap ((d:Int)+1)=((d+1:Nat):Int):=by rw [wrap64 (by omega) (by omega)];omega
 have bz:=hzS.bd d hlt';have bO:=s.pr d hlt'
 by_cases hz0:at_ z d=0
 ·simp only [pwA,seval,-iQ0,hdz,pisAt hdz,hz0,w1]
  refine⟨_,by omega,d+1,z,_,by omega,rfl,rfl,⟨hz.len,hz.bd,fun j hj=>?_⟩,hvz,hr⟩
  rcases Nat.lt_or_ge j d with h|h
  ·exact hz.zero j h
  ·rw [show j=d by omega];exact hz0
 have hrd:=zH hT d;rcases DRf.get hrb (d:=d) (by rw [hD.len];exact hlt')with ⟨e1,e2⟩|⟨w,a,y,e1,e3,e2⟩
 ·rw [e1]at hrd
  have hdp:dep z=d:=zFT (fun j hj=>hz.zero j hj) hz0
  simp only [pwA,seval,-iQ0,hdz,pisAt hdz,hz0,hlt',hne,hrd];exact Gh.fin0 (zB σ _) ⟨trivial,hvz.bel _,trivial⟩ (by rw [←hdp];exact hk _ z hvz hzS (fun _=>by rw [hdp];exact e2) hr)
 ·rw [e1]at hrd
  obtain⟨y1,y2⟩:=hD.row _ _ e2;have yS:gS O y:=y1.mono (Nat.zero_le _);have hnn:¬((O.length:Int)=0):=by omega
  have hneg:IntKind.i64.wrap (0-at_ z d)=-at_ z d:=by rw [wrap64 (by omega) (by omega)];omega
  simp only [pwA,seval,-iQ0,hdz,pisAt hdz,hz0,hlt',hne,hrd,hnn,h0,h1,h2,hneg];refine zBB g hR yS ⟨w,a,by rw [e3]⟩ (k:=-at_ z d) (by omega) fun v1 f1=>?_
  rw [Int.neg_neg]at f1
  obtain⟨q1,q2,q3,q4⟩:=zAw s F g.cent hlt' hzS y1 y2;have q5:TT O (d+1) (gm O P C z (Grp.pw (gm O P C) (zv O) (ginv (gS O) (gm O P C) (zv O) y) (at_ z d).toNat)):=⟨q1.len,q1.bd,fun j hj=>by
   rcases Nat.lt_or_ge j d with h|h
   ·rw [q3 j h];exact hz.zero j h
   ·rw [show j=d by omega];exact q4⟩
  have hr2:=hr.trans (Rdu.stepR s F g.cent hD e2 hlt' hz hz0 q1 q2 q5);simp only [pwA,seval,-iQ0,h0,h1,h2];refine qz s hR hzS (G.pw (G.inv_in yS).1 _) hvz f1 fun v2 f2=>?_
  simp only [pwA,seval,-iQ0,w1];exact⟨_,by omega,d+1,_,v2,by omega,rfl,rfl,q5,f2,hr2⟩
structure FullI (O:List Int) (P:List (List Int)) (C:List (List (List Int))) (D R:List (Option (List Int))) (k:Nat):Prop where
 len:R.length=O.length
 dom:∀d,k≤d→d<O.length→((∃y,R[d]? = some (some y))↔∃y,D[d]? = some (some y))
 row:∀(d:Nat) (y:List Int),k≤d→R[d]? = some (some y)→TT O d y∧at_ y d=1
 red:∀(d e:Nat) (y z:List Int),k≤d→k≤e→d≠e→R[d]? = some (some y)→R[e]? = some (some z)→at_ y e=0
 iff:∀N,gB O P C N→((∀(d:Nat) (y:List Int),k≤d→R[d]? = some (some y)→N y)↔∀(d:Nat) (y:List Int),k≤d→D[d]? = some (some y)→N y)
theorem FullI.start (n:Nat) (hn:O.length=n) (hD:D.length=n):FullI O P C D (List.replicate n none) n:=by
 have no:∀{E:List (Option (List Int))} {d y},E.length=n→n≤d→E[d]? = some (some y)→False:=fun hE hd h=>by
  rw [List.getElem?_eq_none (by omega)]at h;cases h
 exact⟨by simp [hn],fun d h1 h2=>by omega,fun d y h1 h2=>(no (by simp) h1 h2).elim,fun d e y z h1 _ _ h2=>(no (by simp) h1 h2).elim,fun N _=>⟨fun _ d y h1 h2=>(no hD h1 h2).elim,fun _ d y h1 h2=>(no (by simp) h1 h2).elim⟩⟩
theorem FullI.skip {k:Nat} (f:FullI O P C D R (k+1)) (hk:k<O.length) (h1:D[k]? = some none) (h2:R[k]? = some none):FullI O P C D R k:=by
 have up:∀{d:Nat} {y:List Int},k≤d→(R[d]? = some (some y)∨D[d]? = some (some y))→k+1≤d:=fun {d y} hd h=>by
  rcases Nat.lt_or_ge k d with e|e
  ·exact e
  ·rw [show d=k by omega,h1,h2]at h
   rcases h with h|h<;>cases h
 refine⟨f.len,fun d a b=>?_,fun d y a b=>f.row d y (up a (.inl b)) b,fun d e y z a b c h h'=>f.red d e y z (up a (.inl h)) (up b (.inl h')) c h h',fun N hN=>?_⟩
 ·constructor
  ·rintro ⟨y,hy⟩;exact(f.dom d (up a (.inl hy)) b).1 ⟨y,hy⟩
  ·rintro ⟨y,hy⟩;exact(f.dom d (up a (.inr hy)) b).2 ⟨y,hy⟩
 ·constructor
  ·intro g d y a b
   exact(f.iff N hN).1 (fun d y a' b'=>g d y (by omega) b') d y (up a (.inr b)) b
  ·intro g d y a b
   exact(f.iff N hN).2 (fun d y a' b'=>g d y (by omega) b') d y (up a (.inl b)) b
theorem FullI.put {k:Nat} {x y:List Int} (f:FullI O P C D R (k+1)) (hk:k<O.length) (h1:D[k]? = some (some y)) (hx:TT O k x) (hx1:at_ x k=1) (hz:∀(e:Nat) (z:List Int),k<e→R[e]? = some (some z)→at_ x e=0)
  (hN:∀N,gB O P C N→(∀(d:Nat) (y:List Int),k+1≤d→R[d]? = some (some y)→N y)→(N y↔N x)):FullI O P C D (R.set k (some x)) k:=by
 have hl:k<R.length:=by rw [f.len];exact hk
 have ge:∀{d:Nat} {w:List Int},(R.set k (some x))[d]? = some (some w)→(d=k∧w=x)∨(d≠k∧R[d]? = some (some w)):=fun {d w} h=>by
  rw [List.getElem?_set]at h
  split at h
  ·rename_i e
   cases h;exact .inl ⟨e.symm,rfl⟩
  ·rename_i e;exact .inr ⟨fun h=>e h.symm,h⟩
 have at_k:(R.set k (some x))[k]? = some (some x):=by rw [List.getElem?_set,if_pos rfl,if_pos hl]
 have at_n:∀{d:Nat} {w:List Int},d≠k→R[d]? = some (some w)→(R.set k (some x))[d]? = some (some w):=fun {d w} h e=>by rw [List.getElem?_set,if_neg (fun h'=>h h'.symm)];exact e
 refine⟨by rw [List.length_set];exact f.len,fun d a b=>?_,fun d w a b=>?_,fun d e w z a b c h h'=>?_,fun N hN'=>?_⟩
 ·by_cases e:d=k
  ·subst e;exact⟨fun _=>⟨y,h1⟩,fun _=>⟨x,at_k⟩⟩
  ·constructor
   ·rintro ⟨w,hw⟩
    rcases ge hw with ⟨e',_⟩|⟨_,hw⟩
    ·exact absurd e' e
    ·exact(f.dom d (by omega) b).1 ⟨w,hw⟩
   ·rintro ⟨w,hw⟩
    obtain⟨z,hz'⟩:=(f.dom d (by omega) b).2 ⟨w,hw⟩
    exact⟨z,at_n e hz'⟩
 ·rcases ge b with ⟨rfl,rfl⟩ | ⟨e,hw⟩
  ·exact⟨hx,hx1⟩
  ·exact f.row d w (by omega) hw
 ·rcases ge h with ⟨e1,e2⟩ | ⟨e1,hw⟩
  ·rcases ge h' with ⟨e3,_⟩ | ⟨e3,hz'⟩
   ·omega
   ·rw [e2];exact hz e z (by omega) hz'
  ·rcases ge h' with ⟨e3,e4⟩ | ⟨e3,hz'⟩
   ·have:=(f.row d w (by omega) hw).1.zero
    rw [e3];exact this k (by omega)
   ·exact f.red d e w z (by omega) (by omega) c hw hz'
 ·have key:((∀(d:Nat) (w:List Int),k≤d→(R.set k (some x))[d]? = some (some w)→N w)↔(N x∧∀(d:Nat) (w:List Int),k+1≤d→R[d]? = some (some w)→N w)):=by
   constructor
   ·intro h
    exact⟨h k x (Nat.le_refl _) at_k,fun d w a b=>h d w (by omega) (at_n (by omega) b)⟩
   ·rintro ⟨h2,h3⟩ d w a b
    rcases ge b with ⟨_,rfl⟩|⟨e,hw⟩
    ·exact h2
    ·exact h3 d w (by omega) hw
  have key2:((∀(d:Nat) (w:List Int),k≤d→D[d]? = some (some w)→N w)↔(N y∧∀(d:Nat) (w:List Int),k+1≤d→D[d]? = some (some w)→N w)):=by
   constructor
   ·intro h
    exact⟨h k y (Nat.le_refl _) h1,fun d w a b=>h d w (by omega) b⟩
   ·rintro ⟨h2,h3⟩ d w a b
    by_cases e:d=k
    ·subst e;rw [h1]at b;cases b;exact h2
    ·exact h3 d w (by omega) b
  rw [key,key2,←f.iff N hN'];constructor
  ·rintro ⟨a,b⟩;exact⟨(hN N hN' b).2 a,b⟩
  ·rintro ⟨a,b⟩;exact⟨(hN N hN' b).1 a,b⟩
end Go.Proofs
namespace Go.Grp
end Go.Grp
namespace Go.Proofs
open Go.Ab Go.Lie Go.Grp
variable {σ h h':PHeap} {K:PV→PHeap→Prop} {O x y:List Int} {P:List (List Int)} {C:List (List (List Int))} {vO vP vC vx vL:PV} {L:List (List Int)} {D R:List (Option (List Int))} {rb rr:List PV} {d n sT:Nat}
def rowsD (R:List (Option (List Int))) (k:Nat):List (List Int):=(R.take k).filterMap id
theorem zA1 {k:Nat} (h:R[k]? = some none):rowsD R (k+1)=rowsD R k:=by
 unfold rowsD;have hl:k<R.length:=by
  rcases Nat.lt_or_ge k R.length with e|e
  ·exact e
  ·rw [List.getElem?_eq_none e]at h;cases h
 rw [List.getElem?_eq_getElem hl]at h
 rw [List.take_succ_eq_append_getElem hl,List.filterMap_append,Option.some.inj h]
 simp
theorem zA0 {k:Nat} (h:R[k]? = some (some y)):rowsD R (k+1)=rowsD R k++[y]:=by
 unfold rowsD;have hl:k<R.length:=by
  rcases Nat.lt_or_ge k R.length with e|e
  ·exact e
  ·rw [List.getElem?_eq_none e]at h;cases h
 rw [List.getElem?_eq_getElem hl]at h
 rw [List.take_succ_eq_append_getElem hl,List.filterMap_append,Option.some.inj h]
 simp
theorem zD0 (k:Nat):(rowsD R k).length≤k:=by
 unfold rowsD;refine Nat.le_trans (List.length_filterMap_le _ _) ?_;rw [List.length_take];omega
theorem QU {v:List Int} {k:Nat}:v∈rowsD R k↔∃d,d<k∧R[d]? = some (some v):=by
 unfold rowsD;rw [List.mem_filterMap];constructor
 ·rintro ⟨o,ho,rfl⟩
  obtain⟨d,hd,e⟩:=List.mem_iff_getElem.1 ho;rw [List.length_take]at hd
  refine⟨d,by omega,?_⟩
  rw [List.getElem_take]at e
  rw [List.getElem?_eq_getElem (by omega),e]
 ·rintro ⟨d,hd,e⟩
  have hl:d<R.length:=by
   rcases Nat.lt_or_ge d R.length with e' | e'
   ·exact e'
   ·rw [List.getElem?_eq_none e']at e;cases e
  refine⟨some v,?_,rfl⟩;rw [List.mem_take_iff_getElem];rw [List.getElem?_eq_getElem hl]at e
  exact⟨d,by omega,Option.some.inj e⟩
theorem zB8 (hy:TT O d y) (h1:at_ y d=1):dep y=d:=zFT (fun j hj=>hy.zero j hj) (by rw [h1];decide)
theorem zIC (f:FullI O P C D R 0) (hD:OkD O D):CanD O P C D (rowsD R O.length):=by
 have hR:∀{d:Nat} {y:List Int},R[d]? = some (some y)→d<O.length:=fun {d y} h=>by
  rw [←f.len];rcases Nat.lt_or_ge d R.length with e|e
  ·exact e
  ·rw [List.getElem?_eq_none e]at h;cases h
 have get:∀{v:List Int},v∈rowsD R O.length→∃d,d<O.length∧R[d]? = some (some v)∧TT O d v∧at_ v d=1∧dep v=d:=fun {v} hv=>by
  obtain⟨d,hd,e⟩:=QU.1 hv;obtain⟨h1,h2⟩:=f.row d v (Nat.zero_le _) e;exact⟨d,hd,e,h1,h2,zB8 h1 h2⟩
 refine⟨fun v hv=>?_,?_,fun v hv w hw hne=>?_,fun d y hy=>?_,zD0 _,fun N hN=>?_⟩
 ·obtain⟨d,hd,e,h1,h2,h3⟩:=get hv
  exact⟨h1.mono (Nat.zero_le _),by omega,by rw [h3];exact h2⟩
 ·have:∀k,k≤O.length→(rowsD R k).Pairwise fun a b=>dep a<dep b:=by
   intro k
   induction k with
   | zero=>intro _;simp [rowsD]
   | succ k ih=>
    intro hk;have hl:k<R.length:=by rw [f.len];omega
    rcases hc:R[k]? with _|_|y
    ·rw [List.getElem?_eq_getElem hl]at hc;cases hc
    ·rw [zA1 hc];exact ih (by omega)
    ·rw [zA0 hc,List.pairwise_append]
     obtain⟨h1,h2⟩:=f.row k y (Nat.zero_le _) hc;refine⟨ih (by omega),by simp,fun a ha b hb=>?_⟩
     rw [List.mem_singleton.1 hb,zB8 h1 h2];obtain⟨d,hd,e⟩:=QU.1 ha;obtain⟨h3,h4⟩:=f.row d a (Nat.zero_le _) e
     have:=zB8 h3 h4;omega
  exact this _ (Nat.le_refl _)
 ·obtain⟨d,hd,e,h1,h2,h3⟩:=get hv
  obtain⟨d',hd',e',h1',h2',h3'⟩:=get hw;rw [h3'];exact f.red d d' v w (Nat.zero_le _) (Nat.zero_le _) (by omega) e e'
 ·have hd:d<O.length:=by
   rw [←hD.len];rcases Nat.lt_or_ge d D.length with e|e
   ·exact e
   ·rw [List.getElem?_eq_none e]at hy;cases hy
  obtain⟨z,hz⟩:=(f.dom d (Nat.zero_le _) hd).2 ⟨y,hy⟩;obtain⟨h1,h2⟩:=f.row d z (Nat.zero_le _) hz;exact⟨z,QU.2 ⟨d,hd,hz⟩,zB8 h1 h2⟩
 ·constructor
  ·intro h
   exact fun d y hy=>(f.iff N hN).1 (fun d y _ hy=>h y (QU.2 ⟨d,hR hy,hy⟩)) d y (Nat.zero_le _) hy
  ·intro h v hv
   obtain⟨d,hd,e⟩:=QU.1 hv;exact(f.iff N hN).2 (fun d y _ hy=>h d y hy) d v (Nat.zero_le _) e
theorem zHY (g:LG O P C) (hR:IsPr vO vP vC O P C) (hT:σ.obj sT=some rb) (hTl:sT<σ.next) (hD:OkD O D) (hrb:All2 (DRf O.length) rb D)
  (hk:∀v u,FII v u→CanD O P C D u→K v σ):zA Tryz.prog 120 [.agg [vO,vP,vC],.sl sT 0 O.length (.known O.length)] σ K:=by
 have h0:=hR.O.one;have h1:=hR.P.one;have h2:=hR.C.one;have s:=g.s;have F:=g.F;have G:=F.g;have hn6:=s.le;refine zA.gh ?_;have hne:¬sT=σ.next:=Nat.ne_of_lt hTl;have hw0:IntKind.i64.wrap ((O.length:Int)-1)=(O.length:Int)-1:=wrap64 (by omega) (by omega)
 refine zC mix Tryz.func120 ?_
 conv=>arg 2;cbv
 refine zD rfl ?_;simp only [pwA,seval,-iQ0,h0,h1,h2,mk24 (n:=O.length) (by omega),mkL (n:=O.length) (by omega),hw0]
 have hb1:(σ.new [vO,vP,vC]).rd σ.next 0 3=some [vO,vP,vC]:=by simp only [pwA,seval,-iQ0]
 have hTp:(σ.new [vO,vP,vC]).obj sT=some rb:=by simp only [pwA,seval,-iQ0,hne];exact hT
 have hpn:(σ.new [vO,vP,vC]).next=σ.next+1:=rfl;have kp:Keep σ (σ.new [vO,vP,vC]):=zB σ _;generalize σ.new [vO,vP,vC]=T at *
 rw [←hpn];have hbel:Bel T.next vO∧Bel T.next vP∧Bel T.next vC:=⟨hR.O.bel _,hR.P.bel _,hR.C.bel _⟩;refine zF (fun m vs h'=>∃(k:Nat) (R:List (Option (List Int))) (rr:List PV),m=k∧k≤O.length∧vs=[.sl sT 0 O.length (.known O.length),.ptr σ.next 0,.sl T.next 0 O.length (.known O.length),.int .i64 ((k:Int)-1)]∧h'=T.new rr∧All2 (DRf O.length) rr R∧FullI O P C D R k∧(∀d,d<k→R[d]? = some none)) O.length ?_ ?_
 ·exact⟨O.length,List.replicate O.length none,_,rfl,Nat.le_refl _,rfl,rfl,DRf.start _ _,FullI.start _ rfl hD.len,fun d hd=>by rw [List.getElem?_replicate,if_pos hd]⟩
 rintro m vs h' ⟨k,R,rr,rfl,hkn,rfl,rfl,hrr,hf,hfree⟩
 have hobR:(T.new rr).obj T.next=some rr:=by rw [zG,if_pos rfl]
 have hobT:(T.new rr).obj sT=some rb:=by rw [zG,if_neg (by omega)];exact hTp
 have hld:(T.new rr).rd σ.next 0 3=some [vO,vP,vC]:=by rw [Zj,if_neg (by omega)];exact hb1
 have hlr:rr.length=O.length:=by rw [hrr.1];exact hf.len
 rcases Nat.eq_zero_or_pos m with rfl|hmp
 ·simp only [pwA,seval,-iQ0,show ¬((0:Int)≤((0:Nat):Int)-1) by omega]
  refine zF (fun m vs h'=>∃(i:Nat) (v:PV) (cs:List PV),i≤O.length∧m=O.length-i∧vs=[.sl T.next 0 O.length (.known O.length),v,.int .i64 i]∧Keep (T.new rr) h'∧PSl (T.new rr).next 1 h' v (rowsD R i).length cs∧All2 FI cs (rowsD R i)) O.length ?_ ?_
  ·exact⟨0,_,[],by omega,by omega,rfl,zB _ _,PSl.new (h:=T.new rr) (cs:=[]) (T.next+1) 1 rfl (Nat.le_refl _),All2.nil _⟩
  rintro m vs h' ⟨i,v,cs,hi,rfl,rfl,kk,ps,hall⟩
  have hrl:=zD0 (R:=R) i;have hrd:=zH (h:=h') (by rw [kk.obj _ (by show T.next<T.next+1;omega)];exact hobR) i
  simp only [pwA,seval,-iQ0];refine iteI (fun hlt=>?_) fun hge=>?_
  rotate_left
  ·have hie:i=O.length:=by omega
   subst hie;have hcd:=zIC hf hD;have kk2:=kk.keepOf2 kp;have hn1:σ.next≤(T.new rr).next:=by show σ.next≤T.next+1;omega
   have ps2:PSl σ.next 1 h' v (rowsD R O.length).length cs:=by
    obtain⟨s1,cap1,a1,a2,a3,a4,a5,a6⟩:=ps;exact⟨s1,cap1,a1,a2,a3,a4,by omega,a6⟩
   exact ps2.fin kk2 (hall.bI 0) fun o cap=>hk _ _ ⟨_,_,_,rfl,hall⟩ hcd
  have hlt':i<O.length:=by omega
  rcases DRf.get hrr (d:=i) (by rw [hf.len];exact hlt')with ⟨e1,e2⟩|⟨w,a,y,e1,e3,e2⟩
  ·rw [e1]at hrd
   simp only [pwA,seval,-iQ0,hlt',hrd,wrapS hlt' (by omega:O.length≤4611686018427387904)]
   exact⟨_,by omega,i+1,v,cs,by omega,rfl,rfl,kk,by rw [zA1 e2];exact ps,by rw [zA1 e2];exact hall⟩
  ·rw [e1]at hrd
   have hpos:(0:Int)<(O.length:Int):=by omega
   simp only [pwA,seval,-iQ0,hlt',hrd,hpos];refine PSl.push (bytes:=24) (σb:=T.new rr) kk ps (by omega) (by omega) fun v2 h2 k2 a2=>?_
   simp only [pwA,seval,-iQ0,wrapS hlt' (by omega:O.length≤4611686018427387904)]
   refine⟨_,by omega,i+1,v2,cs++[.fz w a O.length (pis y)],by omega,rfl,rfl,k2,?_,?_⟩
   ·rw [zA0 e2,List.length_append];exact a2
   ·rw [zA0 e2];exact hall.snoc ⟨w,a,by rw [e3]⟩
 obtain⟨k,rfl⟩:∃k,m=k+1:=⟨m-1,by omega⟩
 have e:((k+1:Nat):Int)-1=(k:Int):=by omega
 have hkn':k<O.length:=hkn;rw [e];have hrdT:=zH hobT k;have hrdR:=zH hobR k;have hw2:IntKind.i64.wrap ((k:Int)-1)=(k:Int)-1:=wrap64 (by omega) (by omega)
 rcases DRf.get hrb (d:=k) (by rw [hD.len];exact hkn')with ⟨e1,e2⟩|⟨w,a,y,e1,e3,e2⟩
 ·rw [e1]at hrdT
  simp only [pwA,seval,-iQ0,hkn',hrdT,hw2];exact⟨k,Nat.lt_succ_self k,k,R,rr,rfl,by omega,rfl,rfl,hrr,hf.skip hkn' e2 (hfree k (Nat.lt_succ_self k)),fun d hd=>hfree d (by omega)⟩
 rw [e1]at hrdT
 obtain⟨y1,y2⟩:=hD.row _ _ e2;have yS:gS O y:=y1.mono (Nat.zero_le _);have hnn:¬((O.length:Int)=0):=by omega
 have w1:IntKind.i64.wrap ((k:Int)+1)=((k+1:Nat):Int):=by rw [wrap64 (by omega) (by omega)];omega
 simp only [pwA,seval,-iQ0,hkn',hrdT,hnn,w1];refine zF (fun m vs h'=>∃(e:Nat) (x:List Int) (v:PV),k+1≤e∧e≤O.length∧m=O.length-e∧vs=[.sl sT 0 O.length (.known O.length),.ptr σ.next 0,.sl T.next 0 O.length (.known O.length),.int .i64 k,v,.int .i64 e]∧h'=T.new rr∧FI v x∧TT O k x∧at_ x k=1∧(∀(j:Nat) (z:List Int),k<j→j<e→R[j]? = some (some z)→at_ x j=0)∧(∀N,gB O P C N→(∀(d:Nat) (y:List Int),k+1≤d→R[d]? = some (some y)→N y)→(N y↔N x))) (O.length-(k+1)) ?_ ?_
 ·exact⟨k+1,y,.fz w a O.length (pis y),Nat.le_refl _,hkn,by omega,rfl,rfl,⟨w,a,by rw [e3]⟩,y1,y2,fun j z h1 h2=>by omega,fun _ _ _=>Iff.rfl⟩
 rintro m vs h' ⟨e,x,v,hke,heO,rfl,rfl,rfl,hv,hx,hx1,hx0,hN⟩
 have xS:gS O x:=hx.mono (Nat.zero_le _);have hxl:=hx.len;obtain⟨wx,ax,rfl⟩:=hv;have hvx:FI (.fz wx ax x.length (pis x)) x:=⟨wx,ax,rfl⟩;simp only [pwA,seval,-iQ0];refine iteI (fun hlt=>?_) fun hge=>?_
 rotate_left
 ·have hee:e=O.length:=by omega
  subst hee;have hwr:=zBV hobR (i:=k) (v:=.fz wx ax x.length (pis x)) (by omega) hvx.one
  rw [hxl]at hwr hvx
  have hss:(T.new rr).set T.next (rr.set k (.fz wx ax O.length (pis x)))=T.new (rr.set k (.fz wx ax O.length (pis x))):=zH9 T rr _;rw [hss]at hwr
  simp only [pwA,seval,-iQ0,hxl,hkn',hwr,hw2];refine⟨k,Nat.lt_succ_self k,k,R.set k (some x),rr.set k (.fz wx ax O.length (pis x)),rfl,by omega,rfl,rfl,DRf.put hrr (by rw [←hxl];exact⟨wx,ax,rfl⟩) hxl,hf.put hkn' e2 hx hx1 (fun j z h1 h2=>?_) hN,fun d hd=>?_⟩
  ·have hj:j<O.length:=by
    rw [←hf.len];rcases Nat.lt_or_ge j R.length with e|e
    ·exact e
    ·rw [List.getElem?_eq_none e]at h2;cases h2
   exact hx0 j z h1 hj h2
  ·rw [List.getElem?_set,if_neg (by omega)];exact hfree d (by omega)
 have hlt':e<O.length:=by omega
 have hrdE:=zH hobR e;have hex:e<x.length:=by omega
 have w2:IntKind.i64.wrap ((e:Int)+1)=((e+1:Nat):Int):=by rw [wrap64 (by omega) (by omega)];omega
 rcases DRf.get hrr (d:=e) (by rw [hf.len];exact hlt')with ⟨f1,f2⟩|⟨w',a',r,f1,f3,f2⟩
 ·rw [f1]at hrdE
  have natz:¬((0:Int)<((0:Nat):Int)):=by decide
  simp only [pwA,seval,-iQ0,hlt',hrdE,w2,natz,decide_false];refine⟨_,by omega,e+1,x,_,by omega,by omega,rfl,rfl,hvx,hx,hx1,fun j z h1 h2 h3=>?_,hN⟩
  rcases Nat.lt_or_ge j e with h|h
  ·exact hx0 j z h1 h h3
  ·rw [show j=e by omega,f2]at h3;cases h3
 rw [f1]at hrdE
 obtain⟨r1,r2⟩:=hf.row e r (by omega) f2
 have rS:gS O r:=r1.mono (Nat.zero_le _);have bx:=xS.bd e hlt';have bO:=s.pr e hlt';have hpos:(0:Int)<(O.length:Int):=by omega
 by_cases hz:at_ x e=0
 ·simp only [pwA,seval,-iQ0,hlt',hrdE,hpos,decide_true,hex,pisAt hex,hz,w2]
  refine⟨_,by omega,e+1,x,_,by omega,by omega,rfl,rfl,hvx,hx,hx1,fun j z h1 h2 h3=>?_,hN⟩
  rcases Nat.lt_or_ge j e with h|h
  ·exact hx0 j z h1 h h3
  ·rw [show j=e by omega];exact hz
 have hneg:IntKind.i64.wrap (0-at_ x e)=-at_ x e:=by rw [wrap64 (by omega) (by omega)];omega
 obtain⟨q1,q2,q3,q4⟩:=zAw s F g.cent hlt' xS r1 r2;simp only [pwA,seval,-iQ0,hlt',hrdE,hpos,decide_true,hex,pisAt hex,hz,hld,hneg];refine zBB g hR rS ⟨w',a',by rw [f3]⟩ (k:=-at_ x e) (by omega) fun v1 g1=>?_
 rw [Int.neg_neg]at g1
 simp only [pwA,seval,-iQ0,hld];refine qz s hR xS (G.pw (G.inv_in rS).1 _) hvx g1 fun v2 g2=>?_
 simp only [pwA,seval,-iQ0,w2];generalize gm O P C x (Grp.pw (gm O P C) (zv O) (ginv (gS O) (gm O P C) (zv O) r) (at_ x e).toNat)=x' at *
 refine⟨_,by omega,e+1,x',v2,by omega,by omega,rfl,rfl,g2,⟨q1.len,q1.bd,fun j hj=>by rw [q3 j (by omega)];exact hx.zero j hj⟩,by rw [q3 k (by omega)];exact hx1,fun j z h1 h2 h3=>?_,fun N hN1 hN2=>(hN N hN1 hN2).trans ?_⟩
 ·rcases Nat.lt_or_ge j e with h | h
  ·rw [q3 j h];exact hx0 j z h1 h h3
  ·rw [show j=e by omega];exact q4
 ·have hr:=hN2 e r (by omega) f2
  have hp:=hN1.pw hr (at_ x e).toNat;constructor
  ·intro h;rw [←q2]at h;exact hN1.quotR G hp q1 h
  ·intro h;rw [←q2];exact hN1.cl h hp
end Go.Proofs
namespace Go.Grp
end Go.Grp
namespace Go.Proofs
open Go.Ab Go.Lie Go.Grp
variable {σ h h':PHeap} {K:PV→PHeap→Prop} {O x y:List Int} {P:List (List Int)} {C:List (List (List Int))} {vO vP vC vx vL:PV} {L:List (List Int)} {D R:List (Option (List Int))} {rb rr:List PV} {d n sT:Nat}
theorem All2.unsnoc {α β:Type} {R:α→β→Prop} {us:List α} {bs:List β} {b:β} (h:All2 R us (bs++[b])):∃us' a,us=us'++[a]∧All2 R us' bs∧R a b:=by
 have hl:=h.1;rw [List.length_append,List.length_singleton]at hl
 have hne:us≠[]:=fun e=>by rw [e]at hl;simp at hl
 refine⟨us.dropLast,us.getLast hne,(List.dropLast_concat_getLast hne).symm,⟨by rw [List.length_dropLast];omega,fun k c r hc hr=>?_⟩,?_⟩
 ·have hk:k<us.dropLast.length:=by
   rcases Nat.lt_or_ge k us.dropLast.length with e|e
   ·exact e
   ·rw [List.getElem?_eq_none e]at hc;cases hc
  rw [List.length_dropLast]at hk
  refine h.2 k c r ?_ ?_
  ·rw [List.getElem?_eq_getElem (by rw [List.length_dropLast];exact hk),List.getElem_dropLast]at hc
   rw [List.getElem?_eq_getElem (by omega)];exact hc
  ·rw [List.getElem?_append_left (by omega)];exact hr
 ·refine h.2 bs.length _ _ ?_ ?_
  ·rw [List.getLast_eq_getElem,List.getElem?_eq_getElem (by omega)]
   congr 2;omega
  ·rw [List.getElem?_append_right (Nat.le_refl _),Nat.sub_self];rfl
theorem zIy {α:Type} (Q:List α):Q=[]∨∃Q' x,Q=Q'++[x]:=by
 rcases Q.eq_nil_or_concat with h|⟨l,b,h⟩
 ·exact .inl h
 ·exact .inr ⟨l,b,by rw [h,List.concat_eq_append]⟩
theorem zGM (g:LG O P C) (hR:IsPr vO vP vC O P C) (hL:FII vL L) (sz:SzL L) (hg:∀x∈L,gS O x)
  (hk:∀v u,FII v u→CanG O (GC O P C L) u→K v σ):zA Tryz.prog 61 [.agg [vO,vP,vC],vL] σ K:=by
 have h0:=hR.O.one;have h1:=hR.P.one;have h2:=hR.C.one;have s:=g.s;have F:=g.F;have G:=F.g;have hC:=g.cent;have hn6:=s.le;have hp:=zW.isp g.pr;have hLl:=sz.l;have hR0:=hR;obtain⟨⟨w0,a0,rfl⟩,hRP,hRC⟩:=hR;refine zA.gh ?_;refine zN mix Tryz.func61 cf61 rfl ?_;dsimp only [if61,qI,eI,qD,eD,mI0,kI0,lI0,LI0,fI0,xI0,bI0,cI0,sI0,eI0,C1,C2,C3,mD0,lD0,fD0,xD0,I0,G0,gm0,aI0,zI0,vI0,R0,S0];simp only [pwA,seval,-iQ0,h1,h2,mk24 (n:=O.length) (by omega),mkL (n:=O.length) (by omega),hL.sb]
 have hbo:(σ.new [.fz w0 a0 O.length (pis O),vP,vC]).obj σ.next=some [.fz w0 a0 O.length (pis O),vP,vC]:=by simp only [pwA,seval,-iQ0]
 have hpn:(σ.new [.fz w0 a0 O.length (pis O),vP,vC]).next=σ.next+1:=rfl;have kp:Keep σ (σ.new [.fz w0 a0 O.length (pis O),vP,vC]):=zB σ _;generalize σ.new [.fz w0 a0 O.length (pis O),vP,vC]=T at *
 rw [←hpn];refine zJA hL sz fun vQ h1' rq kq pq hrq=>?_
 simp only [pwA,seval,-iQ0];have kself:∀{rb:List PV} {h:PHeap},Keep (T.new rb) h→h.rd σ.next 0 3=some [.fz w0 a0 O.length (pis O),vP,vC]∧h.rd1 σ.next 0=some (.fz w0 a0 O.length (pis O))∧h.obj T.next=some rb∧T.next<h.next:=fun {rb h} k=>by
  have e1:∀t,t<T.next→h.obj t=T.obj t:=fun t ht=>by rw [k.obj t (by show t<T.next+1;omega),zG,if_neg (by omega)]
  have e2:=e1 σ.next (by omega)
  rw [hbo]at e2
  refine⟨by rw [zT e2];rfl,by rw [zH e2];rfl,?_,k.next⟩
  ·rw [k.obj T.next (Nat.lt_succ_self _),zG,if_pos rfl]
 have kset:∀{rb rb':List PV} {h:PHeap},Keep (T.new rb) h→Keep (T.new rb') (h.set T.next rb'):=fun {rb rb' h} k=>⟨k.next,k.top,fun t ht=>by
  rw [zI]
  split
  ·rename_i e;rw [e,zG,if_pos rfl]
  ·rename_i e
   rw [k.obj t ht,zG,zG,if_neg e,if_neg e]⟩
 refine zF (fun m vs h'=>∃(D:List (Option (List Int))) (rb:List PV) (Q:List (List Int)) (vQ:PV) (rq:List PV),m=10*free D+Q.length∧vs=[.ptr σ.next 0,.int .i64 O.length,.sl T.next 0 O.length (.known O.length),vQ]∧Keep (T.new rb) h'∧PT (T.next+1) h' vQ Q.length rq∧All2 FI rq Q∧(∀x∈Q,gS O x)∧All2 (DRf O.length) rb D∧OkD O D∧QI O P C D Q∧(∀N,gB O P C N→((InD N D∧∀q∈Q,N q)↔∀q∈L,N q))∧Q.length+10*free D≤L.length+10*O.length) (10*free (List.replicate O.length none)+L.length) ?_ ?_
 ·refine⟨List.replicate O.length none,_,L,vQ,rq,rfl,rfl,kq,pq,hrq,hg,DRf.start _ _,OkD.start _ rfl,QI.start _,fun N _=>⟨fun h=>h.2,fun h=>⟨InD.start _,h⟩⟩,?_⟩
  have:=Qu (List.replicate O.length none)
  rw [List.length_replicate]at this
  omega
 clear kq pq hrq vQ rq h1'
 rintro m vs h' ⟨D,rb,Q,vQ,rq,rfl,rfl,kk,pq,hrq,hgQ,hrb,hD,hQI,hS,hbd⟩
 obtain⟨l3,l1,lT,lTn⟩:=kself kk;have hlen:=pq.pLen;have hf6:=Qu D;rw [hD.len]at hf6
 rcases zIy Q with rfl|⟨Q,x,rfl⟩
 ·have natz:¬((0:Int)<((0:Nat):Int)):=by decide
  simp only [List.length_nil]at hlen
  simp only [pwA,seval,-iQ0,hlen,natz,l3];refine zHY g hR0 lT lTn hD hrb fun v u hv hcd=>?_
  simp only [pwA,seval,-iQ0];exact Gh.fin0 (kk.keepOf2 kp) (hv.bel _) (hk v u hv (hcd.can s F hC hD hQI fun N hN=>⟨fun h=>(hS N hN).1 ⟨h,fun q hq=>(by cases hq)⟩,fun h=>((hS N hN).2 h).1⟩))
 have hll:(Q++[x]).length=Q.length+1:=by simp
 rw [hll]at pq hlen hbd
 obtain⟨rq',c,rfl,hrq',hc⟩:=All2.unsnoc hrq;obtain⟨sq,off,cap,vQ',rfl,hrd,hsl,pq'⟩:=pq.unsnoc;have hx:=hgQ x (by simp)
 have hgQ':∀q∈Q,gS O q:=fun q hq=>hgQ q (by simp [hq])
 have hpos:(0:Int)<((Q.length+1:Nat):Int):=by omega
 have hsub:IntKind.i64.wrap (((Q.length+1:Nat):Int)-1)=(Q.length:Int):=by rw [wrap64 (by omega) (by omega)];omega
 have hQlt:Q.length<Q.length+1:=Nat.lt_succ_self _;rw [hll];simp only [pwA,seval,-iQ0,hlen,hpos,hsub,hQlt,hrd,hsl,l3];refine zGK g hR0 lT lTn hD hrb hx hc fun vz z fz gz hz1 hz2=>?_
 have hzl:=gz.len
 by_cases hd:dep z<O.length
 rotate_left
 ·have hdn:dep z=O.length:=by have:=Q9 z;omega
  have hz0:=zBw gz (by omega)
  simp only [pwA,seval,-iQ0,hdn];refine⟨_,?_,D,rb,Q,vQ',rq',rfl,rfl,kk,pq',hrq',hgQ',hrb,hD,(hQI.mem (Q':=x::Q) (fun q hq=>by
   rcases List.mem_append.1 hq with h|h
   ·exact List.mem_cons_of_mem _ h
   ·rw [List.mem_singleton.1 h];simp)).drop (by rw [←hz0];exact hz2),fun N hN=>?_,by omega⟩
  ·omega
  ·rw [←hS N hN]
   refine⟨fun⟨h1,h2⟩=>⟨h1,fun q hq=>?_⟩,fun⟨h1,h2⟩=>⟨h1,fun q hq=>h2 q (by simp [hq])⟩⟩
   rcases List.mem_append.1 hq with hq|hq
   ·exact h2 q hq
   ·rw [List.mem_singleton.1 hq,hz2.iff F hN h1,hz0];exact hN.one
 have hdz:dep z<z.length:=by omega
 have hOd:=hp _ (List.getElem_mem hd);have bO:=hOd.bd;have bz:=gz.bd _ hd;have nz:=Zd hdz;have eO:at_ O (dep z)=O[dep z]:=at_eq hd;rw [eO]at bz
 have hdn:((dep z:Int)=(O.length:Int))=False:=by simp;omega
 obtain⟨wz,az,rfl⟩:=fz;have fz:FI (.fz wz az z.length (pis z)) z:=⟨wz,az,rfl⟩;simp only [pwA,seval,-iQ0,hdn,l3,l1,hdz,pisAt hdz,hd,pisAt hd];refine zJC (p:=at_ O (dep z)) (by rw [eO];exact hOd) (by rw [eO];omega) fun q q1 q2 q3=>?_
 simp only [pwA,seval,-iQ0,hdn,l3,l1];refine zD8 g hR0 gz fz (k:=q) (by rw [eO]at q2;omega) fun vy fy=>?_
 obtain⟨y1,y2⟩:=QG s F hC hd (Zn gz) q.toNat;have hy1:at_ (Grp.pw (gm O P C) (zv O) z q.toNat) (dep z)=1:=by
  rw [y2,Int.toNat_of_nonneg (by omega),Int.mul_comm];exact q3
 have hNy:∀N,gB O P C N→N z→N (Grp.pw (gm O P C) (zv O) z q.toNat):=fun N hN h=>hN.pw h _
 generalize Grp.pw (gm O P C) (zv O) z q.toNat=y at *
 have yS:gS O y:=y1.mono (Nat.zero_le _);have hyl:=yS.len;obtain⟨wy,ay,rfl⟩:=fy;have fy:FI (.fz wy ay y.length (pis y)) y:=⟨wy,ay,rfl⟩;have hnone:D[dep z]? = some none:=hz1 hd;have hfree:=zCt (y:=y) hnone;have hdb:dep z<rb.length:=by rw [hrb.1,hD.len];exact hd
 have hwr:=zBV lT (i:=dep z) (v:=.fz wy ay y.length (pis y)) hdb fy.one;have kk2:=kset (rb':=rb.set (dep z) (.fz wy ay y.length (pis y))) kk;have hrb2:=DRf.put (d:=dep z) hrb fy hyl;have hD2:=hD.put hd y1 hy1;obtain⟨k3,k1,kT,kTn⟩:=kself kk2;have pq2:=pq'.set (t:=T.next) (Nat.lt_succ_self _) (rb.set (dep z) (.fz wy ay y.length (pis y)));have hnx:(h'.set T.next (rb.set (dep z) (.fz wy ay y.length (pis y)))).next=h'.next:=rfl;simp only [pwA,seval,-iQ0,hd,hwr];generalize h'.set T.next (rb.set (dep z) (.fz wy ay y.length (pis y)))=h2 at *
 rw [←hnx];refine PT.push (bytes:=24) (σb:=T.new (rb.set (dep z) (.fz wy ay y.length (pis y)))) fz.one kk2 pq2 (by omega) (by omega) fun v3 h3 kk3 pq3=>?_
 obtain⟨m3,m1,mT,mTn⟩:=kself kk3;simp only [pwA,seval,-iQ0,m3,m1,hd,pisAt hd];refine zD8 g hR0 yS fy (k:=at_ O (dep z)) (by rw [eO];omega) fun vo fo=>?_
 have gpo:gS O (Grp.pw (gm O P C) (zv O) y (at_ O (dep z)).toNat):=G.pw yS _;have fo1:=fo.one;have fo2:=fo.cells;simp only [pwA,seval,-iQ0,fo1,fo2,m3,m1,hd,pisAt hd];refine PT.push (bytes:=24) (σb:=T.new (rb.set (dep z) (.fz wy ay y.length (pis y)))) fo.one kk3 pq3 (by omega) (by omega) fun v4 h4 kk4 pq4=>?_
 have hrq4:All2 FI ((rq'++[.fz wz az z.length (pis z)])++[vo]) ((Q++[z])++[Grp.pw (gm O P C) (zv O) y (at_ O (dep z)).toNat]):=(hrq'.snoc fz).snoc fo;have hgQ2:∀q∈(Q++[z])++[Grp.pw (gm O P C) (zv O) y (at_ O (dep z)).toNat],gS O q:=fun q hq=>by
  rcases List.mem_append.1 hq with hq|hq
  ·rcases List.mem_append.1 hq with hq | hq
   ·exact hgQ' q hq
   ·rw [List.mem_singleton.1 hq];exact gz
  ·rw [List.mem_singleton.1 hq];exact gpo
 generalize hQ2:(Q++[z])++[Grp.pw (gm O P C) (zv O) y (at_ O (dep z)).toNat]=Q2 at *
 have hQ2l:Q2.length=Q.length+1+1:=by rw [←hQ2];simp
 have hmz:z∈Q2:=by rw [←hQ2];simp
 have hmQ:∀q∈Q,q∈Q2:=fun q hq=>by rw [←hQ2];simp [hq]
 have hmp:Grp.pw (gm O P C) (zv O) y (at_ O (dep z)).toNat∈Q2:=by rw [←hQ2];simp
 have hNQ2:∀N,gB O P C N→N y→((∀q∈Q2,N q)↔(∀q∈Q,N q)∧N z):=fun N hN hy=>by
  rw [←hQ2];refine⟨fun h=>⟨fun q hq=>h q (by simp [hq]),h z (by simp)⟩,fun⟨h3,h4⟩ q hq=>?_⟩
  rcases List.mem_append.1 hq with hq|hq
  ·rcases List.mem_append.1 hq with hq | hq
   ·exact h3 q hq
   ·rw [List.mem_singleton.1 hq];exact h4
  ·rw [List.mem_singleton.1 hq];exact hN.pw hy _
 generalize (rq'++[PV.fz wz az z.length (pis z)])++[vo]=rq2 at *
 rw [←hQ2l]at pq4
 simp only [pwA,seval,-iQ0];refine zF (fun m us h3=>∃(i:Nat) (vQ:PV) (E:List (List Int)) (re:List PV),i≤O.length∧m=O.length-i∧us=[.ptr σ.next 0,.int .i64 O.length,.sl T.next 0 O.length (.known O.length),vQ,.int .i64 (dep z),.fz wy ay y.length (pis y),.int .i64 i]∧Keep (T.new (rb.set (dep z) (.fz wy ay y.length (pis y)))) h3∧PT (T.next+1) h3 vQ (Q2++E).length re∧All2 FI re (Q2++E)∧(∀q∈E,gS O q)∧E.length≤i∧(∀(e:Nat) (b:List Int),e<i→D[e]? = some (some b)→gcom O P C y b∈E)∧∀N,gB O P C N→InD N D→N y→∀q∈E,N q) O.length ?_ ?_
 ·exact⟨0,v4,[],_,by omega,by omega,rfl,kk4,by rw [List.append_nil];exact pq4,by rw [List.append_nil];exact hrq4,fun q hq=>(by cases hq),Nat.le_refl _,fun e b h=>(by omega),fun N _ _ _ q hq=>(by cases hq)⟩
 clear kk4 pq4 v4 h4 kk3 pq3 v3 h3 m3 m1 mT mTn
 rintro m us h5 ⟨i,vQ5,E,re,hi,rfl,rfl,kk5,pq5,hre,hgE,hEl,hcE,hNE⟩
 obtain⟨m3,m1,mT,mTn⟩:=kself kk5;simp only [pwA,seval,-iQ0];refine iteI (fun hlt=>?_) fun hge=>?_
 rotate_left
 ·refine⟨10*free (D.set (dep z) (some y))+(Q2++E).length,?_,D.set (dep z) (some y),_,Q2++E,vQ5,re,rfl,rfl,kk5,pq5,hre,?_,hrb2,hD2,(hQI.mem (Q':=x::Q) (fun q hq=>by
   rcases List.mem_append.1 hq with h|h
   ·exact List.mem_cons_of_mem _ h
   ·rw [List.mem_singleton.1 h];simp)).put hz2 hnone (by simp [hmz]) (fun q hq=>by simp [hmQ q hq]) (List.mem_append.2 (.inl hmp)) (fun e b hb=>.inr (by
    have:=hcE e b (by
     rcases Nat.lt_or_ge e D.length with h|h
     ·have:=hD.len;omega
     ·rw [List.getElem?_eq_none h]at hb;cases hb) hb
    simp [this])),fun N hN=>?_,?_⟩
  ·simp only [List.length_append,List.length_singleton];omega
  ·intro q hq
   rcases List.mem_append.1 hq with hq|hq
   ·exact hgQ2 q hq
   ·exact hgE q hq
  ·rw [←hS N hN,InD.put hnone]
   constructor
   ·rintro ⟨⟨g1,g2⟩,g3⟩
    obtain⟨g4,g5⟩:=(hNQ2 N hN g2).1 fun q hq=>g3 q (by simp [hq])
    refine⟨g1,fun q hq=>?_⟩
    rcases List.mem_append.1 hq with hq|hq
    ·exact g4 q hq
    ·rw [List.mem_singleton.1 hq];exact(hz2.iff F hN g1).2 g5
   ·rintro ⟨g1,g2⟩
    have gz':=(hz2.iff F hN g1).1 (g2 x (by simp))
    have gy:=hNy N hN gz';refine⟨⟨g1,gy⟩,fun q hq=>?_⟩
    rcases List.mem_append.1 hq with hq|hq
    ·exact(hNQ2 N hN gy).2 ⟨fun q hq=>g2 q (by simp [hq]),gz'⟩ q hq
    ·exact hNE N hN g1 gy q hq
  ·simp only [List.length_append];omega
 have hlt':i<O.length:=by omega
 have w1:IntKind.i64.wrap ((i:Int)+1)=((i+1:Nat):Int):=by rw [wrap64 (by omega) (by omega)];omega
 have hrd3:=zH mT i
 by_cases hie:i=dep z
 ·subst hie
  simp only [pwA,seval,-iQ0,w1];refine⟨_,by omega,dep z+1,vQ5,E,re,by omega,rfl,rfl,kk5,pq5,hre,hgE,by omega,fun e b h1 h2=>?_,hNE⟩
  rcases Nat.lt_or_ge e (dep z)with h|h
  ·exact hcE e b h h2
  ·rw [show e=dep z by omega,hnone]at h2;cases h2
 have hie':¬((i:Int)=(dep z:Int)):=by omega
 have hgetn:(rb.set (dep z) (.fz wy ay y.length (pis y)))[i]? = rb[i]?:=by rw [List.getElem?_set,if_neg (by omega)]
 rw [hgetn]at hrd3
 rcases DRf.get hrb (d:=i) (by rw [hD.len];exact hlt')with ⟨e1,e2⟩|⟨w,a,b,e1,e3,e2⟩
 ·rw [e1]at hrd3
  have natz:¬((0:Int)<((0:Nat):Int)):=by decide
  simp only [pwA,seval,-iQ0,hie',hlt',hrd3,natz,decide_false,w1];refine⟨_,by omega,i+1,vQ5,E,re,by omega,rfl,rfl,kk5,pq5,hre,hgE,by omega,fun e b h1 h2=>?_,hNE⟩
  rcases Nat.lt_or_ge e i with h|h
  ·exact hcE e b h h2
  ·rw [show e=i by omega,e2]at h2;cases h2
 rw [e1]at hrd3
 have bS:gS O b:=(hD.row _ _ e2).1.mono (Nat.zero_le _);have hpos:(0:Int)<(O.length:Int):=by omega
 simp only [pwA,seval,-iQ0,hie',hlt',hrd3,hpos,decide_true,m3];refine zHb s g.co hR0 yS bS fy ⟨w,a,by rw [e3]⟩ fun vc fc=>?_
 have fc1:=fc.one;have fc2:=fc.cells;simp only [pwA,seval,-iQ0,hie',hlt',hrd3,hpos,decide_true,m3,fc1,fc2];refine PT.push (bytes:=24) (σb:=T.new (rb.set (dep z) (.fz wy ay y.length (pis y)))) fc.one kk5 pq5 (by rw [List.length_append];omega) (by rw [List.length_append];omega) fun v6 h6 kk6 pq6=>?_
 simp only [pwA,seval,-iQ0,w1];refine⟨_,by omega,i+1,v6,E++[gcom O P C y b],re++[vc],by omega,rfl,rfl,kk6,?_,?_,?_,?_,?_,?_⟩
 rotate_left
 ·rw [←List.append_assoc];exact hre.snoc fc
 ·intro q hq
  rcases List.mem_append.1 hq with hq|hq
  ·exact hgE q hq
  ·rw [List.mem_singleton.1 hq];exact G.com_in yS bS
 ·simp;omega
 ·intro e b' h1 h2
  rcases Nat.lt_or_ge e i with h|h
  ·simp [hcE e b' h h2]
  ·rw [show e=i by omega,e2]at h2;cases h2;simp
 ·intro N hN hD1 hy q hq
  rcases List.mem_append.1 hq with hq|hq
  ·exact hNE N hN hD1 hy q hq
  ·rw [List.mem_singleton.1 hq];exact hN.com_in hy (hD1 _ _ e2)
 ·rw [←List.append_assoc,List.length_append,List.length_singleton];exact pq6
end Go.Proofs
namespace Go.Proofs
open Go.Ab Go.Lie
variable {p:Int} {n:Nat} {W:List (List Int)} {B:List (List (List Int))} {id:Prop}
def wl (n:Nat) (id:Prop) (w:List (List Int)):Prop:=(id∧w=units n)∨(¬id∧w=[])
end Go.Proofs
namespace Go.Grp
end Go.Grp
namespace Go.Proofs
open Go.Ab Go.Lie Go.Grp
variable {σ h h':PHeap} {K:PV→PHeap→Prop} {O x y:List Int} {P:List (List Int)} {C:List (List (List Int))} {vO vP vC vx vL vU:PV} {L u:List (List Int)} {D R:List (Option (List Int))} {rb rr:List PV} {d n sT sp:Nat}
def QW (O:List Int) (P:List (List Int)) (C:List (List (List Int))) (u:List (List Int)):Prop:=(∀x∈u,gS O x)∧CanG O (GC O P C u) u
theorem zFK (g:LG O P C) (hs:PtrG σ sp vO vP vC) (hR:IsPr vO vP vC O P C) (hL:FII vL L) (hg:∀x∈L,gS O x) (hLl:L.length≤1000000)
  (hk:∀v u,FII v u→CanG O (GC O P C L) u→K v σ):zA Tryz.prog 66 [.ptr sp 0,vL] σ K:=by
 have s:=g.s;have F:=g.F;have hC:=g.cent;have hp:=zW.isp g.pr;have hL0:=hL;obtain⟨wl,al,rl,rfl,hrl⟩:=hL;refine zA.gh ?_;refine zC mix Tryz.func66 ?_
 conv=>arg 2;cbv
 refine zD rfl ?_;simp only [pwA,seval,-iQ0];refine zAm s hs hR fun ss sb h1 k1 n1 n2 q1=>?_
 simp only [pwA,seval,-iQ0];refine zJX s F hC hp q1 hR (OkD.start O.length rfl) ⟨by simp,fun k c r hc hr=>?_⟩ (QI.start _) hL0 hg hLl fun t rb' D' hrb' hD' hQ' hN' hf hf'=>?_
 ·rw [List.getElem?_replicate]at hc hr
  split at hc
  ·rename_i h
   rw [if_pos h]at hr
   cases hc;cases hr;exact .inl ⟨rfl,rfl⟩
  ·cases hc
 simp only [pwA,seval,-iQ0];refine zFW s F hC (q1.setB rb') hR hD' hrb' fun v u f1 cd=>?_
 simp only [pwA,seval,-iQ0];exact Gh.fin0 (k1.set n2 _) (f1.bel _) (hk v u f1 (cd.can s F hC hD' hQ' fun N hN=>(hN' N hN).trans ⟨fun h=>h.2,fun h=>⟨InD.start _,h⟩⟩))
theorem QW.len (h:QW O P C u):u.length≤O.length:=h.2.len
theorem zE9 (g:LG O P C) {H:List Int→Prop} (hH:gB O P C H) (hu:CanG O H u) {x z:List Int} (hx:gS O x) (hz:gS O z) (h0:∀v∈u,at_ z (dep v)=0) (hN:∀N,gB O P C N→(∀v∈u,N v)→(N x↔N z)):z=zv O↔H x:=by
 have s:=g.s;constructor
 ·rintro rfl
  exact(hN H hH hu.mem).2 hH.one
 ·intro h
  have hzH:=(hN H hH hu.mem).1 h;rcases Nat.lt_or_ge (dep z) O.length with hd|hd
  ·obtain⟨v,hv,e⟩:=hu.all z hzH hd
   exact absurd (by rw [←e];exact h0 v hv) (Zd (by rw [hz.len];exact hd))
  ·exact zBw hz hd
theorem zBZ (hU:FII vU []) (hvx:FI vx []) (hk:∀w a,K (.fz w a 0 []) σ):zA Tryz.prog 128 [.ptr sp 0,vU,vx] σ K:=by
 obtain⟨wx,ax,rfl⟩:=hvx;have hUU:=hU;obtain⟨wl,al,rl,rfl,hrl⟩:=hU;refine zA.gh ?_;refine zC mix Tryz.func128 ?_
 conv=>arg 2;cbv
 refine zD rfl ?_;simp only [pwA,seval,-iQ0];refine ZP rfl (by simp) ⟨fun h0=>?_,fun cap hc=>?_⟩
 ·simp only [pwA,seval,-iQ0]
  refine zAJ hUU (fun v hv=>by cases hv) (by simp) fun vp=>?_
  simp only [pwA,seval,-iQ0];refine zF (fun m vs h'=>vs=[.ptr sp 0,.fz wl al 0 rl,.fz true .nils 0 [],.fz true vp 0 (pis (deps [])),.int .i64 0,.int .i64 0]∧h'=σ) 0 ⟨rfl,rfl⟩ ?_
  rintro m vs h' ⟨rfl,rfl⟩
  simp only [pwA,seval,-iQ0];exact Gh.fin0 (Keep.refl _) trivial (hk _ _)
 ·simp only [pwA,seval,-iQ0]
  refine zAJ hUU (fun v hv=>by cases hv) (by simp) fun vp=>?_
  simp only [pwA,seval,-iQ0];refine zF (fun m vs h'=>vs=[.ptr sp 0,.fz wl al 0 rl,.sl σ.next 0 0 cap,.fz true vp 0 (pis (deps [])),.int .i64 0,.int .i64 0]∧h'=σ.new []) 0 ⟨rfl,rfl⟩ ?_
  rintro m vs h' ⟨rfl,rfl⟩
  simp only [pwA,seval,-iQ0];exact Gh.finF (s:=σ.next) (cs:=[]) (zB σ _) (by simp only [pwA,seval,-iQ0]) (Nat.le_refl _) trivial hc.ok fun o=>hk _ _
theorem zAa (g:LG O P C) (hs:PtrG σ sp vO vP vC) (hR:IsPr vO vP vC O P C) (hU:FII vU u) (hu:QW O P C u) (hx:gS O x) (hvx:FI vx x) (hk:∀t:Bool,(t=true↔GC O P C u x)→K (.bool t) σ):zA Tryz.prog 67 [.ptr sp 0,vU,vx] σ K:=by
 have s:=g.s;have F:=g.F;have hn6:=s.le;have hul:=hu.len;rcases Nat.eq_zero_or_pos O.length with hn|hn
 ·obtain rfl:u=[]:=List.eq_nil_of_length_eq_zero (by omega)
  obtain rfl:x=[]:=List.eq_nil_of_length_eq_zero (by rw [hx.len,hn])
  refine zC mix Tryz.func67 ?_
  conv=>arg 2;cbv
  refine zD rfl ?_;simp only [pwA,seval,-iQ0];refine zBZ hU hvx fun w a=>?_
  simp only [pwA,seval,-iQ0];refine zBp (xs:=[]) rfl (by simp) ?_
  simp only [pwA,seval,-iQ0];refine hk _ ?_;rw [decide_eq_true_iff];refine⟨fun _=>?_,fun _ x hx=>by cases hx⟩
  have:=(GC.sub (L:=[]) F (fun x hx=>by cases hx)).one
  rwa [show zv O=[] from List.eq_nil_of_length_eq_zero (by simp [zv,hn])]at this
 refine zC mix Tryz.func67 ?_
 conv=>arg 2;cbv
 refine zD rfl ?_;simp only [pwA,seval,-iQ0];refine Qf s F g.cent hn hs hR hU hu.2.one hu.2.asc (by omega) hx hvx fun o cap z hz h1 h0 hN=>?_
 have hzl:=hz.len;simp only [pwA,seval,-iQ0];refine zBp hzl.symm (by omega) ?_
 simp only [pwA,seval,-iQ0];refine hk _ ?_;rw [decide_eq_true_iff,zLp hzl];exact zE9 g (GC.sub F hu.1) hu.2 hx hz h0 hN
theorem zDr (hR:IsPr vO vP vC O P C) (szO:O.length≤1048576) (bO:∀o∈O,isP o) (hL:FII vL L) (sz:SzL L) (hk:∀t:Bool,(t=true↔∀x∈L,isExp O x)→K (.bool t) σ):zA Tryz.prog 113 [.agg [vO,vP,vC],vL] σ K:=by
 have fl:∀{A:Prop},¬A→((false=true)↔A):=fun h=>⟨fun x=>(by cases x),fun x=>absurd x h⟩
 have h0:=hR.O.one;have h1:=hR.P.one;have h2:=hR.C.one;have hxl:=sz.l;obtain⟨wl,al,rl,rfl,hrl⟩:=hL;refine zA.gh ?_;refine zC mix Tryz.func113 ?_
 conv=>arg 2;cbv
 refine zD rfl ?_;simp only [pwA,seval,-iQ0,h0,h1,h2];have hkp:Keep σ (σ.new [vO,vP,vC]):=zB σ _;have hld:(σ.new [vO,vP,vC]).rd σ.next 0 3=some [vO,vP,vC]:=by simp only [pwA,seval,-iQ0]
 generalize σ.new [vO,vP,vC]=H at *
 refine zF (fun m us h'=>∃i:Nat,i≤L.length∧m=L.length-i∧us=[.fz wl al L.length rl,.ptr σ.next 0,.int .i64 i]∧H=h'∧∀x∈L.take i,isExp O x) L.length ⟨0,by omega,by omega,rfl,rfl,by simp⟩ ?_
 rintro m us h' ⟨i,hi,rfl,rfl,rfl,hall⟩
 simp only [pwA,seval,-iQ0];refine iteI (fun hlt=>?_) fun hge=>?_
 rotate_left
 ·have hie:i=L.length:=by omega
  subst hie;rw [List.take_length]at hall
  exact Gh.fin0 hkp trivial (hk _ ⟨fun _=>hall,fun _=>rfl⟩)
 obtain⟨w4,a4,hr⟩:=hrl.rowI hlt;have hxi:=sz.r _ (List.getElem_mem hlt);simp only [pwA,seval,-iQ0,hlt,hr,hld];refine zBj hR szO bO ⟨w4,a4,rfl⟩ hxi fun t ht=>?_
 cases t with
 | false=>
  simp only [pwA,seval,-iQ0];exact Gh.fin0 hkp trivial (hk _ (fl fun h=>by have:=ht.2 (h _ (List.getElem_mem hlt));cases this))
 | true=>
 have h3:=ht.1 rfl;simp only [pwA,seval,-iQ0,wrapS hlt (by omega:L.length≤4611686018427387904)]
 refine⟨_,by omega,i+1,by omega,rfl,rfl,fun x hx=>?_⟩
 rw [List.take_succ_eq_append_getElem hlt,List.mem_append,List.mem_singleton]at hx
 rcases hx with hx|hx
 ·exact hall x hx
 ·rw [hx];exact h3
end Go.Proofs
namespace Go.Grp
end Go.Grp
namespace Go.Proofs
open Go.Ab Go.Lie Go.Grp
variable {σ h h':PHeap} {K:PV→PHeap→Prop} {O x y:List Int} {P:List (List Int)} {C:List (List (List Int))} {vO vP vC vx vL vU vT:PV} {L u:List (List Int)} {D R:List (Option (List Int))} {rb rr:List PV} {d n sT sp:Nat}
theorem zI8 {l:Nat} {w:Bool} {a:AV} {xs:List Int} (hl:l=xs.length) (hb:xs.length≤1048576) (hk:K (.int .i64 (dep xs)) σ):zA Tryz.prog 220 [.fz w a l (pis xs)] σ K:=by
 subst hl;refine zC mix Tryz.func220 ?_
 conv=>arg 2;cbv
 refine zD rfl ?_;simp only [pwA,seval,-iQ0];refine zF (fun m vs h'=>∃i:Nat,i≤dep xs∧m=dep xs-i∧vs=[.fz w a xs.length (pis xs),.int .i64 i]∧σ=h') (dep xs) ?_ ?_
 ·exact⟨0,by omega,by omega,rfl,rfl⟩
 rintro m vs h' ⟨i,hi,rfl,rfl,rfl⟩
 have hdl:=Q9 xs
 by_cases hlt:i<xs.length
 ·simp only [pwA,seval,-iQ0,hlt,zL,gi hlt]
  by_cases h0:xs[i]=0
  ·have hid:i<dep xs:=by
    rcases Nat.lt_or_ge i (dep xs)with x|x
    ·exact x
    ·have:i=dep xs:=by omega
     subst this;exact absurd (by rw [at_eq hlt];exact h0) (Zd hlt)
   simp only [pwA,seval,-iQ0,h0,wrapS hlt (by omega:xs.length≤4611686018427387904)]
   exact⟨_,by omega,i+1,by omega,rfl,rfl⟩
  ·have hid:i=dep xs:=by
    rcases Nat.lt_or_ge i (dep xs)with x|x
    ·exact absurd (by rw [←at_eq hlt];exact qU x) h0
    ·omega
   subst hid;simp only [pwA,seval,-iQ0,h0];exact hk
 ·have hid:i=dep xs:=by omega
  have hxe:xs.length=dep xs:=by omega
  simp only [pwA,seval,-iQ0,hlt];rw [hxe];exact hk
theorem zGL {l:Nat} {w:Bool} {a:AV} (hl:l=x.length) (hb:x.length≤1048576) (hk:K (.int .i64 (dep x)) σ):zA Tryz.prog 194 [.fz w a l (pis x)] σ K:=by
 refine zC mix Tryz.func194 ?_
 conv=>arg 2;cbv
 refine zD rfl ?_;simp only [pwA,seval,-iQ0];refine zI8 hl hb ?_;simp only [pwA,seval,-iQ0];exact hk
structure TabD (O:List Int) (u:List (List Int)) (D:List (Option (List Int))):Prop where
 ok:OkD O D
 sub:∀(d:Nat) (b:List Int),D[d]? = some (some b)→b∈u∧dep b=d
 all:∀v∈u,D[dep v]? = some (some v)
theorem TabD.ind {N:List Int→Prop} (t:TabD O u D):InD N D↔∀v∈u,N v:=
 ⟨fun h v hv=>h _ v (t.all v hv),fun h d b hb=>h b (t.sub d b hb).1⟩
theorem zGJ (hn:O.length≤6) (hR:IsPr vO vP vC O P C) (hU:FII vU u) (hul:u.length≤1000) (one:∀v∈u,gS O v∧dep v<O.length∧at_ v (dep v)=1) (asc:u.Pairwise fun a b=>dep a<dep b)
  (hk:∀a rb D,All2 (DRf O.length) rb D→TabD O u D→K (.fz true a O.length rb) σ):zA Tryz.prog 179 [.agg [vO,vP,vC],vU] σ K:=by
 have h1:=hR.P.one;have h2:=hR.C.one;obtain⟨⟨w0,a0,rfl⟩,hRP,hRC⟩:=hR;obtain⟨wu,au,ru,rfl,hru⟩:=hU;refine zA.gh ?_;refine zC mix Tryz.func179 ?_
 conv=>arg 2;cbv
 refine zD rfl ?_;simp only [pwA,seval,-iQ0,h1,h2,mk24 (n:=O.length) (by omega),mkL (n:=O.length) (by omega)]
 refine zF (fun m vs h'=>∃(i:Nat) (rb:List PV) (D:List (Option (List Int))),i≤u.length∧m=u.length-i∧vs=[.fz wu au u.length ru,.sl (σ.next+1) 0 O.length (.known O.length),.int .i64 i]∧h'=(σ.new [.fz w0 a0 O.length (pis O),vP,vC]).new rb∧All2 (DRf O.length) rb D∧TabD O (u.take i) D) u.length ?_ ?_
 ·refine⟨0,_,List.replicate O.length none,by omega,by omega,rfl,rfl,DRf.start _ _,⟨OkD.start _ rfl,fun d b hb=>?_,fun v hv=>by simp at hv⟩⟩
  exact(zCm hb).elim
 rintro m vs h' ⟨i,rb,D,hi,rfl,rfl,rfl,hrb,hD⟩
 simp only [pwA,seval,-iQ0];refine iteI (fun hlt=>?_) fun hge=>?_
 rotate_left
 ·have hie:i=u.length:=by omega
  subst hie;rw [List.take_length]at hD
  exact Gh.finF (s:=σ.next+1) ((zB σ _).new _) (by simp only [pwA,seval,-iQ0]) (by omega) (DRf.bels hrb 0) (by simp [capOK]) fun o=>hk _ rb D hrb hD
 obtain⟨w4,a4,hr⟩:=hru.rowI hlt;obtain⟨u1,u2,u3⟩:=one _ (List.getElem_mem hlt);have hul':=u1.len;simp only [pwA,seval,-iQ0,hlt,hr];refine zGL rfl (by omega) ?_
 have hlen:rb.length=O.length:=by rw [hrb.1];exact hD.ok.len
 have hdb:dep u[i] + 1≤rb.length:=by omega
 simp only [pwA,seval,-iQ0,u2,hdb,wrapS hlt (by omega:u.length≤4611686018427387904)]
 have hfree:D[dep u[i]]? = some none:=by
  have hl:dep u[i] < D.length:=by rw [hD.ok.len];exact u2
  rw [List.getElem?_eq_getElem hl];cases hc:D[dep u[i]]with
  | none=>rfl
  | some b=>
   exfalso
   obtain⟨hb1,hb2⟩:=hD.sub _ b (by rw [List.getElem?_eq_getElem hl,hc])
   obtain⟨k,hk1,rfl⟩:=List.mem_take_iff_getElem.1 hb1
   have:=List.pairwise_iff_getElem.1 asc k i (by omega) hlt (by omega)
   omega
 have hset:List.take (dep u[i]) rb++[PV.fz w4 a4 u[i].length (pis u[i])]++List.drop (dep u[i] + 1) rb=rb.set (dep u[i]) (.fz w4 a4 u[i].length (pis u[i])):=by
  rw [List.set_eq_take_append_cons_drop,if_pos (by omega),List.append_assoc]
  rfl
 rw [hset];refine⟨hr,_,by omega,i+1,rb.set (dep u[i]) (.fz w4 a4 u[i].length (pis u[i])),D.set (dep u[i]) (some u[i]),by omega,rfl,rfl,rfl,DRf.put hrb ⟨w4,a4,rfl⟩ hul',?_⟩
 ·have htk:∀{v:List Int},v∈u.take (i+1)↔v∈u.take i∨v=u[i]:=fun {v}=>by
   rw [List.take_succ_eq_append_getElem hlt,List.mem_append,List.mem_singleton]
  refine⟨hD.ok.put u2 (Zn u1) u3,fun d b hb=>?_,fun v hv=>?_⟩
  ·rw [List.getElem?_set]at hb
   split at hb
   ·rename_i he
    split at hb
    ·cases hb
     exact⟨htk.2 (.inr rfl),he⟩
    ·cases hb
   ·obtain⟨p1,p2⟩:=hD.sub d b hb
    exact⟨htk.2 (.inl p1),p2⟩
  ·rcases htk.1 hv with hv | rfl
   ·have hv2:=hv
    obtain⟨k,hk1,rfl⟩:=List.mem_take_iff_getElem.1 hv
    have:=List.pairwise_iff_getElem.1 asc k i (by omega) hlt (by omega)
    rw [List.getElem?_set,if_neg (by omega)]
    exact hD.all _ hv2
   ·rw [List.getElem?_set,if_pos rfl,if_pos (by rw [hD.ok.len];exact u2)]
theorem zFB (g:LG O P C) (hR:IsPr vO vP vC O P C) {wT:Bool} {aT:AV} (hrb:All2 (DRf O.length) rb D) (hD:OkD O D) (hx:gS O x) (hvx:FI vx x)
  (hk:∀v z,FI v z→gS O z→(∀(d:Nat) (b:List Int),D[d]? = some (some b)→at_ z d=0)→(∀N,gB O P C N→InD N D→(N x↔N z))→K v σ):zA Tryz.prog 178 [.agg [vO,vP,vC],.fz wT aT O.length rb,vx] σ K:=by
 have h0:=hR.O.one;have h1:=hR.P.one;have h2:=hR.C.one;have s:=g.s;have F:=g.F;have G:=F.g;have hn6:=s.le;have hxl:=hx.len;refine zA.gh ?_;refine zC mix Tryz.func178 ?_
 conv=>arg 2;cbv
 refine zD rfl ?_;simp only [pwA,seval,-iQ0,h0,h1,h2,hvx.one];obtain⟨wx0,ax0,rfl⟩:=hvx;refine zAP rfl (by omega) fun ax=>?_
 have hld:(σ.new [vO,vP,vC]).rd σ.next 0 3=some [vO,vP,vC]:=by simp only [pwA,seval,-iQ0]
 simp only [pwA,seval,-iQ0];refine zF (fun m vs h'=>∃(i:Nat) (z:List Int) (w:Bool) (a:AV),i≤O.length∧m=O.length-i∧vs=[.fz wT aT O.length rb,.ptr σ.next 0,.fz w a O.length (pis z),.int .i64 i]∧h'=σ.new [vO,vP,vC]∧gS O z∧(∀(d:Nat) (b:List Int),d<i→D[d]? = some (some b)→at_ z d=0)∧∀N,gB O P C N→InD N D→(N x↔N z)) O.length ⟨0,x,true,ax,by omega,by omega,by rw [hxl];rfl,rfl,hx,fun d b hd=>by omega,fun _ _ _=>Iff.rfl⟩ ?_
 rintro m vs h' ⟨i,z,w,a,hi,rfl,rfl,rfl,hz,hzero,hN⟩
 have hzl:=hz.len;simp only [pwA,seval,-iQ0];refine iteI (fun hlt=>?_) fun hge=>?_
 rotate_left
 ·have hie:i=O.length:=by omega
  exact Gh.fin0 (zB σ _) trivial (hk _ z ⟨w,a,by rw [hzl]⟩ hz (fun d b hb=>hzero d b (by
   rw [hie,←hD.len];rcases Nat.lt_or_ge d D.length with h|h
   ·exact h
   ·rw [List.getElem?_eq_none h]at hb;cases hb) hb) hN)
 have hlt':i<O.length:=by omega
 have hlz:i<z.length:=by omega
 have bz:=hz.bd i hlt';have bO:=s.pr i hlt';rw [at_eq hlz]at bz
 have d0:decide ((0:Int)<((0:Nat):Int))=false:=rfl;rcases DRf.get hrb (d:=i) (by rw [hD.len];exact hlt')with ⟨e1,e2⟩|⟨w4,a4,y,e1,e3,e2⟩
 ·simp only [pwA,seval,-iQ0,hlt',e1,d0,wrapS hlt' (by omega:O.length≤4611686018427387904)]
  refine⟨_,by omega,i+1,z,w,a,by omega,rfl,rfl,hz,fun d b hd hb=>?_,hN⟩
  by_cases e:d=i
  ·subst e;rw [e2]at hb;cases hb
  ·exact hzero d b (by omega) hb
 have dp:((0:Int)<((O.length:Nat):Int))=True:=by simp;omega
 by_cases hz0:z[i]=0
 ·simp only [pwA,seval,-iQ0,hlt',e1,dp,hlz,zL,gi hlz,hz0,wrapS hlt' (by omega:O.length≤4611686018427387904)]
  refine⟨_,by omega,i+1,z,w,a,by omega,rfl,rfl,hz,fun d b hd hb=>?_,hN⟩
  by_cases e:d=i
  ·subst e;rw [at_eq hlz];exact hz0
  ·exact hzero d b (by omega) hb
 obtain⟨y1,y2⟩:=hD.row _ _ e2;have yS:gS O y:=y1.mono (Nat.zero_le _);have hneg:IntKind.i64.wrap (0-z[i])=-z[i]:=by rw [wrap64 (by omega) (by omega)];omega
 simp only [pwA,seval,-iQ0,hlt',e1,dp,hlz,zL,gi hlz,hz0,hld,hneg];refine zBB g hR yS ⟨w4,a4,by rw [e3]⟩ (by omega) fun v1 f1=>?_
 simp only [pwA,seval,-iQ0,hld];obtain⟨q1,q2,q3,q4⟩:=zAw s F g.cent hlt' hz y1 y2;have ek:(-(-z[i])).toNat=(at_ z i).toNat:=by rw [Int.neg_neg,at_eq hlz]
 rw [ek]at f1
 have ib:=(G.inv_in yS).1;have pS:=G.pw ib (at_ z i).toNat;refine qz s hR hz pS ⟨w,a,by rw [hzl]⟩ f1 fun v2 f2=>?_
 obtain⟨w5,a5,rfl⟩:=f2;have q1l:=q1.len;simp only [pwA,seval,-iQ0,wrapS hlt' (by omega:O.length≤4611686018427387904)]
 refine⟨_,by omega,i+1,_,w5,a5,by omega,rfl,by rw [q1l],q1,fun d b hd hb=>?_,fun N h3 h4=>(hN N h3 h4).trans ?_⟩
 ·by_cases e:d=i
  ·subst e;exact q4
  ·rw [q3 d (by omega)];exact hzero d b (by omega) hb
 ·have nb:N y:=h4 i y e2
  refine⟨fun hh=>?_,fun hh=>?_⟩
  ·exact h3.cl hh (h3.pw (h3.inv nb) _)
  ·have:=h3.cl hh (h3.pw nb (at_ z i).toNat)
   rwa [q2]at this
theorem zI5 (g:LG O P C) (hR:IsPr vO vP vC O P C) {H:List Int→Prop} (hH:gB O P C H) (hU:FII vU u) (hu:CanG O H u) (hx:gS O x) (hvx:FI vx x) (hk:∀t:Bool,(t=true↔H x)→K (.bool t) σ):zA Tryz.prog 60 [.agg [vO,vP,vC],vU,vx] σ K:=by
 have h0:=hR.O.one;have h1:=hR.P.one;have h2:=hR.C.one;have hn6:=g.s.le;have hul:=hu.len;have sift:∀{σ:PHeap} {K:PV→PHeap→Prop},(∀v z,FI v z→gS O z→(z=zv O↔H x)→K v σ)→zA Tryz.prog 115 [.agg [vO,vP,vC],vU,vx] σ K:=fun {σ K} hk=>by
  refine zA.gh ?_;refine zC mix Tryz.func115 ?_
  conv=>arg 2;cbv
  refine zD rfl ?_;simp only [pwA,seval,-iQ0,h0,h1,h2,hvx.one,hU.one];refine zGJ hn6 hR hU (by omega) hu.one hu.asc fun a rb D hrb hD=>?_
  simp only [pwA,seval,-iQ0,h0,h1,h2];refine zFB g hR hrb hD.ok hx hvx fun v z hv hz hz0 hN=>?_
  simp only [pwA,seval,-iQ0];refine Gh.fin0 (zB σ _) (hv.bel _) (hk v z hv hz (zE9 g hH hu hx hz (fun w hw=>hz0 _ _ (hD.all w hw)) fun N h3 h4=>hN N h3 (hD.ind.2 h4)))
 refine zA.gh ?_;refine zC mix Tryz.func60 ?_
 conv=>arg 2;cbv
 refine zD rfl ?_;simp only [pwA,seval,-iQ0,h0,h1,h2,hvx.one,hU.one];refine sift fun v z hv hz hzH=>?_
 obtain⟨wx,ax,rfl⟩:=hv;have hzl:=hz.len;simp only [pwA,seval,-iQ0];refine zDP rfl (by omega) ?_
 simp only [pwA,seval,-iQ0];refine Gh.fin0 (zB σ _) trivial (hk _ ?_);rw [decide_eq_true_iff,←hzH];constructor
 ·intro h
  refine hz.ext (g.s.zv _) fun j _ _=>?_
  rw [zLq h];exact(qo _ j).symm
 ·rintro rfl y hy
  exact List.eq_of_mem_replicate hy
end Go.Proofs
namespace Go.Grp
end Go.Grp
namespace Go.Proofs
open Go.Ab Go.Lie Go.Grp
variable {σ h h':PHeap} {K:PV→PHeap→Prop} {O x y a w:List Int} {P:List (List Int)} {C:List (List (List Int))} {vO vP vC vx vL v8 v9:PV} {L:List (List Int)} {s:BS} {bs r8 r9:List PV} {N j k:Nat}
theorem PSl.pushB {σb h:PHeap} {b n:Nat} {v c:PV} {rows:List PV} {K:PV×PHeap→Prop} (hk:Keep σb h) (hb:σb.next≤b) (hbn:b≤h.next) (a:PSl b 1 h v n rows) (h1:(n+1)*24≤140737488355328)
  (k:∀v' h',Keep σb h'→PSl b 1 h' v' (n+1) (rows++[c])→(∀t,t<h.next→(∀off l c,v≠.sl t off l c)→h'.obj t=h.obj t)→(∀t,t<h.next→∀off l c,v'≠.sl t off l c)→h.next<h'.next→K (v',h')):optK (zY 1 24 (h.new [c]) v (.sl h.next 0 1 (.known 1))) K:=
 PAcc.pushS hk ((PSl.acc a).low hb) rfl h1 (by omega) fun v' h' k1 a1 o1 n1 l1=>k v' h' k1 (a1.high fun t ht=>n1 t (by omega)) o1 n1 l1
structure WS (σ:PHeap) (vO vP vC:PV) (O:List Int) (s:BS) (v8 v9:PV) (bs r8 r9:List PV) (h:PHeap):Prop where
 keep:Keep σ h
 box:h.obj σ.next=some [vO,vP,vC]
 seen:h.obj (σ.next+1)=some bs
 bl:bs.length=(ordF O O.length).toNat
 be:Bels 0 bs
 bv:∀y,gS O y→bs[(numF O y O.length).toNat]? = some (.bool (decide (y∈s.1)))
 p8:PSl (σ.next+2) 1 h v8 s.1.length r8
 p9:PSl (σ.next+2) 1 h v9 s.2.length r9
 ne:∀t off l c off' l' c',v8=.sl t off l c→v9≠.sl t off' l' c'
 a8:All2 FI r8 s.1
 a9:All2 FI r9 s.2
 nx:σ.next+2≤h.next
theorem zD7 (sh:Shp O P C) (hy:gS O y) (hbl:bs.length=(ordF O O.length).toNat) (hbv:∀z,gS O z→bs[(numF O z O.length).toNat]? = some (.bool (decide (z∈s.1)))) (w:List Int) (hn:y∉s.1):
  ∀z,gS O z→(bs.set (numF O y O.length).toNat (.bool true))[(numF O z O.length).toNat]? = some (.bool (decide (z∈(vst s y w).1))):=fun z hz=>by
 have by1:=qx sh.pr (fun j hj=>hy.bd j hj) (Nat.le_refl O.length)
 have bz:=qx sh.pr (fun j hj=>hz.bd j hj) (Nat.le_refl O.length)
 have e:(vst s y w).1=s.1++[y]:=by unfold vst;rw [if_neg hn]
 rw [List.getElem?_set]
 by_cases he:(numF O y O.length).toNat=(numF O z O.length).toNat
 ·have:y=z:=zA9 sh hy hz (by omega)
  subst this;rw [if_pos rfl,if_pos (by omega),e]
  simp
 ·rw [if_neg he,hbv z hz,e]
  have:z≠y:=fun x=>he (by rw [x])
  simp [this]
theorem zIt {h:PHeap} {t i:Nat} {cs:List PV} {v:PV} (ho:h.obj t=some cs) (hi:i<cs.length) (hv:v.one=true):h.wr t i [v]=some (h.set t (cs.set i v)):=by
 unfold PHeap.wr;rw [ho];simp only [Option.bind_some,List.length_cons,List.length_nil,List.all_cons,List.all_nil,hv,Bool.and_self,and_true];rw [if_pos (by omega),List.set_eq_take_append_cons_drop,if_pos hi,List.append_assoc]
 rfl
theorem Bels.setB {b:Nat} {cs:List PV} {v:PV} (h:Bels b cs) (hv:Bel b v) (i:Nat):Bels b (cs.set i v):=ZQ.2 fun c hc=>(List.mem_or_eq_of_mem_set hc).elim (ZQ.1 h c) fun e=>by rw [e];exact hv
theorem zIM {b n t:Nat} {h h':PHeap} {v:PV} {cs:List PV} (a:PSl b 1 h v n cs) (ho:∀s,(∃off l c,v=.sl s off l c)→h'.obj s=h.obj s) (hn:h.next≤h'.next):PSl b 1 h' v n cs:=by
 obtain⟨s,c,rfl,q1,q2,q3,q4,q5⟩:=a;exact⟨s,c,rfl,q1,by rw [ho s ⟨_,_,_,rfl⟩];exact q2,q3,q4,Nat.lt_of_lt_of_le q5 hn⟩
end Go.Proofs
namespace Go.Grp
end Go.Grp
namespace Go.Proofs
open Go.Ab Go.Lie Go.Grp
variable {σ h h':PHeap} {K:PV→PHeap→Prop} {O:List Int} {P:List (List Int)} {C:List (List (List Int))} {vO vP vC vx vM vA v:PV} {x:List Int} {A M:List (List Int)} {sp se:Nat} {rows:List SR}
def nEl (O:List Int):Nat:=(ordF O O.length).toNat
theorem zIw (s:Shp O P C):ordF O O.length=(nEl O:Int)∧1≤nEl O:=by
 have h1:=ZX s.pr (i:=O.length) (Nat.le_refl _);unfold nEl;omega
end Go.Proofs
namespace Go.Grp
end Go.Grp
namespace Go.Proofs
open Go.Ab Go.Lie Go.Grp
variable {σ h h':PHeap} {K:PV→PHeap→Prop} {O x y a w:List Int} {P:List (List Int)} {C:List (List (List Int))} {vO vP vC vx vL v8 v9:PV} {L:List (List Int)} {s:BS} {bs r8 r9:List PV} {N j k:Nat}
theorem zFC (hR:IsPr vO vP vC O P C) (hb:O.length≤1000) (hk:∀v,FI v (zv O)→K v σ):zA Tryz.prog 121 [.agg [vO,vP,vC]] σ K:=by
 have h1:=hR.P.one;have h2:=hR.C.one;obtain⟨⟨w0,a0,rfl⟩,hRP,hRC⟩:=hR;refine zA.gh ?_;refine zC mix Tryz.func121 ?_
 conv=>arg 2;cbv
 refine zD rfl ?_;simp only [pwA,seval,-iQ0,h1,h2,mk8 (n:=O.length) (by omega),mkL (n:=O.length) (by omega),List.length_replicate,zf]
 refine Gh.finF (s:=σ.next+1) ((zB σ _).new _) (cs:=pis (List.replicate O.length 0)) (by simp only [pwA,seval,-iQ0,zf]) (by omega) (zM _ _) (by simp [capOK]) fun o=>hk _ ⟨true,.sl o 0 O.length (.known O.length),?_⟩
 simp [zv]
theorem zAl (O:List Int):∀i,numF O (zv O) i=0
 | 0=>rfl
 | i+1=>by rw [numF,zAl O i,show at_ (zv O) i=0 from qo _ _];omega
theorem Za {h:PHeap} {s o t:Nat} {cs ds:List PV} (ht:h.obj t=some ds) (hne:t≠s) (hb:Bels 0 ds):((h.kill s).sub s o cs).obj t=some ds:=by
 simp only [PHeap.sub,PHeap.kill,if_neg hne,ht,Option.map_some];rw [qi (Nat.zero_le _) hb]
theorem zHW (g:LG O P C) (hR:IsPr vO vP vC O P C) (hL:FII vL L) (hl6:L.length≤6) (hLs:∀l∈L,gS O l) (hx:gS O x) (hvx:FI vx x) (hm:GC O P C L x)
  (hk:∀v k w,Fnd O P C L x k→(stt O P C L k).2[k]? = some w→FI v w→w.length≤117649→K v σ):zA Tryz.prog 62 [.agg [vO,vP,vC],vL,vx] σ K:=by
 have sh:=g.s;have F:=g.F;have hn6:=sh.le;have g0:=hR.O.one;have g1:=hR.P.one;have g2:=hR.C.one;have hxl:=hx.len;obtain⟨hN,hN1⟩:=zIw sh;have hob:=ZX sh.pr (i:=O.length) (Nat.le_refl _);have h7:=pow7 (i:=O.length) (by omega)
 have hL0:=hL;obtain⟨wl,al,rl,rfl,hrl⟩:=hL;obtain⟨wx,ax,rfl⟩:=hvx;refine zA.pwf fun w0=>zA.gh ?_
 refine zC mix Tryz.func62 ?_
 conv=>arg 2;cbv
 refine zD rfl ?_;simp only [pwA,seval,-iQ0,g0,g1,g2];refine zHZ sh hR ?_;rw [hN];have hNb:nEl O≤117649:=by omega
 have i0:0<nEl O:=hN1;simp only [pwA,seval,-iQ0,mkL (n:=nEl O) (by omega),show(nEl O:Int)*((1:Nat):Int)≤140737488355328 by omega,i0,g0,g1,g2]
 have i0':(0:Int)<(nEl O:Int):=by omega
 have iN:0+1≤nEl O:=hN1;simp only [pwA,seval,-iQ0,i0',List.length_replicate,iN,g0,g1,g2];refine zFC hR (by omega) fun v1 f1=>?_
 generalize hb0:(PV.bool true::List.drop 1 (List.replicate (nEl O) (PV.bool false)))=bs0;have l0:bs0.length=nEl O:=by rw [←hb0];simp;omega
 simp only [pwA,seval,-iQ0,f1.one,f1.cells];have b0:Bels 0 bs0:=by rw [←hb0];exact⟨trivial,ZQ.2 fun c hc=>by
  have:=List.mem_of_mem_drop hc
  rw [List.eq_of_mem_replicate this];trivial⟩
 have bq:Bels 0 [vO,vP,vC]:=⟨hR.O.bel 0,hR.P.bel 0,hR.C.bel 0,trivial⟩;have hv0:∀y,gS O y→bs0[(numF O y O.length).toNat]? = some (.bool (decide (y∈[zv O]))):=fun y hy=>by
  have b1:=qx sh.pr (fun j hj=>hy.bd j hj) (Nat.le_refl O.length)
  have zS:gS O (zv O):=sh.zv _;rw [←hb0]
  by_cases he:y=zv O
  ·subst he
   rw [zAl]
   simp
  ·have hne:(numF O y O.length).toNat≠0:=fun h0=>he (zA9 sh hy zS (by rw [zAl];omega))
   obtain⟨q,hq⟩:∃q,(numF O y O.length).toNat=q+1:=⟨_,(Nat.succ_pred_eq_of_ne_zero hne).symm⟩
   rw [hq,List.getElem?_cons_succ,List.getElem?_drop,List.getElem?_replicate,if_pos (by omega)]
   simp [he]
 refine ZG (fun m vs h'=>∃(k:Nat) (v8 v9:PV) (bs r8 r9:List PV),k≤nEl O∧m=nEl O-k∧vs=[.fz wl al L.length rl,.fz wx ax x.length (pis x),.ptr σ.next 0,.sl (σ.next+1) 0 (nEl O) (.known (nEl O)),v8,v9,.int .i64 k]∧
  WS σ vO vP vC O (stt O P C L k) v8 v9 bs r8 r9 h'∧(∀i,i<k→i<(stt O P C L i).1.length)∧∀i,i<k→(stt O P C L i).1[i]?≠some x) (nEl O) ?_ ?_
 ·refine .fzh (σ.next+3) [] (by simp only [pwA,seval,-iQ0]) trivial fun o=>.here ⟨0,.sl (σ.next+2) 0 1 (.known 1),.sl (σ.next+4) 0 1 (.known 1),bs0,[v1],[.fz true (.sl o 0 0 (.known 0)) 0 []],by omega,by omega,?_,?_,fun i hi=>by omega,fun i hi=>by omega⟩
  ·simp only [pwA,seval,-iQ0]
   simp [sbs,sb]
  ·refine⟨?_,?_,?_,?_,?_,hv0,?_,?_,fun t off l c off' l' c' e=>?_,(All2.nil FI).snoc f1,(All2.nil FI).snoc ⟨true,.sl o 0 0 (.known 0),rfl⟩,?_⟩
   ·exact Keep.sub w0 (Keep.kill (((((zB σ _).new _).new _).new _).new _) (by omega)) (by omega)
   ·exact Za (by simp only [pwA,seval,-iQ0]) (by omega) bq
   ·exact Za (by simp only [pwA,seval,-iQ0]) (by omega) b0
   ·rw [l0,hN];rfl
   ·exact b0
   ·exact⟨σ.next+2,.known 1,rfl,.inr rfl,Za (by simp only [pwA,seval,-iQ0]) (by omega) ⟨f1.bel 0,trivial⟩,rfl,Nat.le_refl _,by show σ.next+2<σ.next+5;omega⟩
   ·refine⟨σ.next+4,.known 1,rfl,.inr rfl,?_,rfl,by omega,by show σ.next+4<σ.next+5;omega⟩
    have e4:(((((σ.new [vO,vP,vC]).new bs0).new [v1]).new []).new [PV.sl (σ.next+3) 0 0 (.known 0)]).obj (σ.next+4)=some [PV.sl (σ.next+3) 0 0 (.known 0)]:=by simp only [pwA,seval,-iQ0]
    simp only [PHeap.sub,PHeap.kill,if_neg (show ¬σ.next+4=σ.next+3 by omega)]
    rw [e4];simp [sbs,sb,capOK]
   ·simp only [PV.sl.injEq]at e
    intro e2;simp only [PV.sl.injEq]at e2
    omega
   ·show σ.next+2≤σ.next+5;omega
 rintro m vs h' ⟨k,v8,v9,bs,r8,r9,hkN,rfl,rfl,v,hlt,hms⟩
 have ok:=OkS.stt sh F hLs hlt;have bd:=ok.bound sh F hLs;rw [hN]at bd
 have lk:=ok.len;simp only [pwA,seval,-iQ0,v.p8.acc.pLen];refine iteI (fun hc=>?_) fun hge=>?_
 rotate_left
 ·exact absurd hm (zD5 sh F g.cent hLs hlt hms (by omega))
 have hc':k<(stt O P C L k).1.length:=by omega
 have hc9:k<(stt O P C L k).2.length:=by omega
 obtain⟨t8,c8,rfl,q1,q2,q3,q4,q5⟩:=v.p8;obtain⟨t9,c9,rfl,p1,p2,p3,p4,p5⟩:=v.p9;obtain⟨wa,aa,hra⟩:=v.a8.rowI hc';obtain⟨wb,ab,hrb⟩:=v.a9.rowI hc9;have e8:h'.rd1 t8 k=some (.fz wa aa (stt O P C L k).1[k].length (pis (stt O P C L k).1[k])):=by unfold PHeap.rd1;rw [q2];exact hra
 have e9:h'.rd1 t9 k=some (.fz wb ab (stt O P C L k).2[k].length (pis (stt O P C L k).2[k])):=by unfold PHeap.rd1;rw [p2];exact hrb
 have aS:gS O (stt O P C L k).1[k]:=(GC.sub F hLs).inS (ok.mem _ (List.getElem_mem hc'));have al':=aS.len;have wl9:=ok.ws k hc9;have hci:(k:Int)<((stt O P C L k).1.length:Int):=by omega
 have hci9:(k:Int)<((stt O P C L k).2.length:Int):=by omega
 simp only [pwA,seval,-iQ0,hc',hc9,hci,hci9,e8];refine Zk rfl rfl (by omega) ?_
 by_cases hx0:(stt O P C L k).1[k]=x
 ·simp only [pwA,seval,-iQ0,hx0,hc',hc9,hci,hci9,e9]
  exact Gh.fin0 v.keep (FI.bel ⟨wb,ab,rfl⟩ _) (hk _ k _ ⟨by rw [List.getElem?_eq_getElem hc',hx0],hms,hlt⟩ (List.getElem?_eq_getElem hc9) ⟨wb,ab,rfl⟩ (by omega))
 have hms':∀i,i<k+1→(stt O P C L i).1[i]?≠some x:=fun i hi=>by
  rcases Nat.lt_or_ge i k with z|z
  ·exact hms i z
  ·have:i=k:=by omega
   subst this;rw [List.getElem?_eq_getElem hc'];exact fun e=>hx0 (Option.some.inj e)
 have hlt':∀i,i<k+1→i<(stt O P C L i).1.length:=fun i hi=>by
  rcases Nat.lt_or_ge i k with z|z
  ·exact hlt i z
  ·have:i=k:=by omega
   subst this;exact hc'
 simp only [pwA,seval,-iQ0,hx0];obtain⟨s0,hs0⟩:∃s0,stt O P C L k=s0:=⟨_,rfl⟩
 have hnx:stt O P C L (k+1)=nxt O P C L ((stt O P C L k).1[k]) ((stt O P C L k).2[k]) L.length (stt O P C L k):=by
  rw [stt,List.getD_eq_getElem?_getD,List.getD_eq_getElem?_getD,List.getElem?_eq_getElem hc',List.getElem?_eq_getElem hc9];rfl
 have aG:GC O P C L (stt O P C L k).1[k]:=ok.mem _ (List.getElem_mem hc');have ga8:(stt O P C L k).1[k]? = some (stt O P C L k).1[k]:=List.getElem?_eq_getElem hc';have ga9:(stt O P C L k).2[k]? = some (stt O P C L k).2[k]:=List.getElem?_eq_getElem hc9;generalize (stt O P C L k).1[k]=a at *
 generalize (stt O P C L k).2[k]=w at *
 clear e8 e9 hra hrb;refine ZG (fun m vs h3=>∃(j:Nat) (v8 v9:PV) (bs r8 r9:List PV),j≤L.length∧m=L.length-j∧vs=[.fz wl al L.length rl,.fz wx ax x.length (pis x),.ptr σ.next 0,.sl (σ.next+1) 0 (nEl O) (.known (nEl O)),v8,v9,.int .i64 k,.int .i64 j]∧
  WS σ vO vP vC O (nxt O P C L a w j (stt O P C L k)) v8 v9 bs r8 r9 h3) L.length ?_ ?_
 ·exact .here ⟨0,_,_,bs,r8,r9,by omega,by omega,rfl,v⟩
 clear v q1 q2 q3 q4 q5 p1 p2 p3 p4 p5
 rintro m vs h3 ⟨j,v8,v9,bs,r8,r9,hj,rfl,rfl,v⟩
 have okj:=ok.nxt F hLs aG (by omega:w.length+1≤(stt O P C L k).1.length) hj
 have pr:=zBg (O:=O) (P:=P) (C:=C) (L:=L) a w (stt O P C L k) j;have gj8:=Qt pr.1 ga8;have gj9:=Qt pr.2 ga9;generalize hsj:nxt O P C L a w j (stt O P C L k)=sj at *
 simp only [pwA,seval,-iQ0];refine iteI (fun hcj=>?_) fun hgj=>?_
 rotate_left
 ·have hje:j=L.length:=by omega
  subst hje;simp only [pwA,seval,-iQ0,wrapS hc' (by omega:(stt O P C L k).1.length≤4611686018427387904)]
  exact⟨_,by omega,.here ⟨k+1,v8,v9,bs,r8,r9,by omega,rfl,rfl,by rw [hnx,hsj];exact v,hlt',hms'⟩⟩
 have hjl:j<L.length:=by omega
 have bdj:=okj.bound sh F hLs;rw [hN]at bdj
 have lkj:=okj.len;obtain⟨wg,ag,hrg⟩:=hrl.rowI hjl;have hk8:k<sj.1.length:=by
  rcases Nat.lt_or_ge k sj.1.length with z|z
  ·exact z
  ·rw [List.getElem?_eq_none z]at gj8;cases gj8
 have hk9:k<sj.2.length:=by omega
 have ea8:sj.1[k]=a:=by rw [List.getElem?_eq_getElem hk8]at gj8;exact Option.some.inj gj8
 have ea9:sj.2[k]=w:=by rw [List.getElem?_eq_getElem hk9]at gj9;exact Option.some.inj gj9
 obtain⟨wa',aa',hra⟩:=v.a8.rowI hk8;obtain⟨wb',ab',hrb⟩:=v.a9.rowI hk9;rw [ea8]at hra
 rw [ea9]at hrb
 have vv:=v;obtain⟨t8,c8,rfl,q1,q2,q3,q4,q5⟩:=v.p8;obtain⟨t9,c9,rfl,p1,p2,p3,p4,p5⟩:=v.p9;have e0:h3.rd σ.next 0 3=some [vO,vP,vC]:=by rw [zT v.box];rfl
 have e8:h3.rd1 t8 k=some (.fz wa' aa' a.length (pis a)):=by unfold PHeap.rd1;rw [q2];exact hra
 have e9:h3.rd1 t9 k=some (.fz wb' ab' w.length (pis w)):=by unfold PHeap.rd1;rw [p2];exact hrb
 have hci:(k:Int)<(sj.1.length:Int):=by omega
 have hci9:(k:Int)<(sj.2.length:Int):=by omega
 have lS:=hLs _ (List.getElem_mem hjl);simp only [pwA,seval,-iQ0,e0,hk8,hk9,hci,hci9,e8,hjl,hrg];refine qz sh hR aS lS ⟨wa',aa',rfl⟩ ⟨wg,ag,rfl⟩ fun vy fy=>?_
 have hyS:=F.g.cl aS lS;have yb:=qx sh.pr (fun j hj=>hyS.bd j hj) (Nat.le_refl O.length)
 obtain⟨nn,hnn⟩:∃nn:Nat,numF O (gm O P C a L[j]) O.length=(nn:Int):=⟨_,(Int.toNat_of_nonneg yb.1).symm⟩
 have nnb:nn<nEl O:=by omega
 have nnb':(nn:Int)<(nEl O:Int):=by omega
 have hbv:=v.bv _ hyS;rw [hnn]at hbv
 have e7:h3.rd1 (σ.next+1) nn=some (.bool (decide (gm O P C a L[j]∈sj.1))):=by unfold PHeap.rd1;rw [v.seen];exact hbv
 simp only [pwA,seval,-iQ0,e0,fy.one];refine zCV sh hR hyS fy ?_;rw [hnn];simp only [pwA,seval,-iQ0,nnb,nnb',e7];have hnj:nxt O P C L a w (j+1) (stt O P C L k)=vst sj (gm O P C a L[j]) (w++[(j:Int)+1]):=by
  rw [nxt,hsj,List.getD_eq_getElem?_getD,List.getElem?_eq_getElem hjl];rfl
 have wj:=wrapS hjl (by omega:L.length≤4611686018427387904)
 refine iteI (fun hin=>?_) fun hnin=>?_
 ·refine⟨L.length-(j+1),by omega,.here ⟨j+1,_,_,bs,r8,r9,by omega,rfl,by rw [wj],?_⟩⟩
  rw [hnj];unfold vst;rw [if_pos hin];exact vv
 simp only [pwA,seval,-iQ0,e0,fy.one];refine zCV sh hR hyS fy ?_;rw [hnn];have hbl:nn<bs.length:=by rw [v.bl];omega
 simp only [pwA,seval,-iQ0,nnb,nnb',zIt v.seen hbl (show PV.one (.bool true)=true from rfl),fy.one,fy.cells]
 have hv8:=PSl.setO (t:=σ.next+1) vv.p8 (by omega) (bs.set nn (.bool true))
 have nxv:=v.nx;refine PSl.pushB (σb:=σ) (b:=σ.next+2) (v.keep.set (Nat.le_succ _) _) (by omega) v.nx hv8 (by omega) fun v8' h5 k5 a5 o5 n5 l5=>?_
 have s5:∀t,t<h3.next→t≠t8→t≠σ.next+1→h5.obj t=h3.obj t:=fun t h1 h2 h4=>by
  rw [o5 t h1 fun off l c e=>h2 (by simp only [PV.sl.injEq]at e;exact e.1.symm),zI,if_neg h4]
 have t98:t9≠t8:=fun e=>v.ne t8 0 _ c8 0 _ c9 rfl (by rw [e])
 have l5':h3.next<h5.next:=l5;have e9':h5.rd1 t9 k=some (.fz wb' ab' w.length (pis w)):=by unfold PHeap.rd1;rw [s5 t9 p5 t98 (by omega),p2];exact hrb
 simp only [pwA,seval,-iQ0,a5.one,hk9,hci9,e9'];refine zq rfl (by omega) fun cap hcap=>?_
 simp only [pwA,seval,-iQ0,wj];have pA:PAcc h5.next 1 (h5.new (pis w)) (.sl h5.next 0 w.length cap) w.length (pis w):=.inr ⟨h5.next,cap,rfl,hcap,by rw [zG,if_pos rfl],by rw [zK];omega,Nat.le_refl _,Nat.lt_succ_self _⟩
 refine PAcc.push (bytes:=8) (σb:=h5) (h:=h5.new (pis w)) (zB _ _) pA (by omega) (by omega) fun vR h6 k6 a6=>?_
 obtain⟨tR,cR,rfl,hcR,x2,x3,x4,x5⟩:=a6;have v9':PSl (σ.next+2) 1 h6 (.sl t9 0 sj.2.length c9) sj.2.length r9:=⟨t9,c9,rfl,p1,by rw [k6.obj t9 (by omega),s5 t9 p5 t98 (by omega)];exact p2,p3,p4,by have:=k6.next;omega⟩
 simp only [pwA,seval,-iQ0];refine PSl.pushB (σb:=σ) (b:=σ.next+2) (k5.trans k6) (by omega) (by have:=k6.next;omega) v9' (by omega) fun v9' h7 k7 a7 o7 n7 l7=>?_
 simp only [pwA,seval,-iQ0,wj];have hb6:Bels 0 (pis w++[.int .i64 ((j+1:Nat):Int)]):=by
  have:=zM 0 (w++[((j+1:Nat):Int)])
  simpa [pis]using this
 have x7:h7.obj tR=some (pis w++[.int .i64 ((j+1:Nat):Int)]):=by
  rw [o7 tR x5 fun off l c e=>by simp only [PV.sl.injEq]at e;omega];exact x2
 have lk6:=k6.next;have s7:∀t,t<h3.next→t≠t8→t≠t9→t≠σ.next+1→h7.obj t=h3.obj t:=fun t h1 h2 h4 h8=>by
  rw [o7 t (by omega) fun off l c e=>h4 (by simp only [PV.sl.injEq]at e;exact e.1.symm),k6.obj t (by omega),s5 t h1 h2 h8]
 have evst:vst sj (gm O P C a L[j]) (w++[(j:Int)+1])=(sj.1++[gm O P C a L[j]],sj.2++[w++[(j:Int)+1]]):=by
  unfold vst;rw [if_neg hnin]
 obtain⟨u8,d8,rfl,y1,y2,y3,y4,y5⟩:=a5;obtain⟨u9,d9,rfl,z1,z2,z3,z4,z5⟩:=a7;have u8n:h3.next≤u8:=by
  rcases Nat.lt_or_ge u8 h3.next with q|q
  ·exact absurd rfl (n5 u8 q 0 _ d8)
  ·exact q
 have u9n:h6.next≤u9:=by
  rcases Nat.lt_or_ge u9 h6.next with q|q
  ·exact absurd rfl (n7 u9 q 0 _ d9)
  ·exact q
 refine⟨L.length-(j+1),by omega,.fzh tR _ x7 hb6 fun o1=>.here ⟨j+1,.sl u8 0 (sj.1.length+1) d8,.sl u9 0 (sj.2.length+1) d9,bs.set nn (.bool true),r8++[vy],r9++[.fz true (.sl o1 0 (w.length+1) cR) (w.length+1) (pis w++[.int .i64 ((j+1:Nat):Int)])],by omega,rfl,?_,?_⟩⟩
 ·have n1:¬u8=tR:=by omega
  have n2:¬u9=tR:=by omega
  have n3:¬σ.next+1=tR:=by omega
  simp only [sbs,sb,n1,n2,n3,false_and,if_false]
 rw [hnj];have ba8:Bels 0 (r8++[vy]):=(v.a8.snoc fy).bI 0;have hbs:Bels 0 (bs.set nn (.bool true)):=Bels.setB v.be (v:=.bool true) (by exact trivial) nn
 have mk:=zD7 (w:=w++[(j:Int)+1]) sh hyS v.bl v.bv hnin;rw [hnn]at mk
 refine⟨?_,?_,?_,by rw [List.length_set];exact v.bl,hbs,mk,?_,?_,fun t off l c off' l' c' e=>?_,?_,?_,?_⟩
 ·exact Keep.sub w0 (k7.kill (by omega)) (by omega)
 ·exact Za (by rw [s7 σ.next (by omega) (by omega) (by omega) (by omega)];exact v.box) (by omega) bq
 ·refine Za ?_ (by omega) hbs
  rw [o7 _ (by omega) (fun off l c e=>by simp only [PV.sl.injEq]at e;omega),k6.obj _ (by omega),o5 _ (by show σ.next+1<h3.next;omega) (fun off l c e=>by simp only [PV.sl.injEq]at e;omega),zI,if_pos rfl]
 ·rw [evst]
  show PSl _ _ _ _ (sj.1++[gm O P C a L[j]]).length _;rw [List.length_append,List.length_singleton];refine⟨u8,d8,rfl,y1,?_,by simpa using y3,y4,by show u8<h7.next;omega⟩
  refine Za ?_ (by omega) ba8
  rw [o7 u8 (by omega) (fun off l c e=>by simp only [PV.sl.injEq]at e;omega),k6.obj u8 y5];exact y2
 ·rw [evst]
  show PSl _ _ _ _ (sj.2++[w++[(j:Int)+1]]).length _;rw [List.length_append,List.length_singleton];refine⟨u9,d9,rfl,z1,?_,by simpa using z3,z4,by show u9<h7.next;exact z5⟩
  have n2:¬u9=tR:=by omega
  simp only [PHeap.sub,PHeap.kill,if_neg n2,z2,Option.map_some];rw [zKm (v.a9.bI 0) hcR.ok]
 ·simp only [PV.sl.injEq]at e
  intro e2;simp only [PV.sl.injEq]at e2
  omega
 ·rw [evst];exact v.a8.snoc fy
 ·rw [evst]
  refine v.a9.snoc ⟨true,.sl o1 0 (w.length+1) cR,?_⟩;simp [pis]
 ·show σ.next+2≤h7.next;omega
end Go.Proofs
namespace Go.Grp
end Go.Grp
namespace Go.Proofs
open Go.Ab Go.Lie Go.Grp
variable {σ σ0 h h':PHeap} {K:PV→PHeap→Prop} {b k nP nC r s0 i j n:Nat} {L L':Nat→Nat} {Q Q':Nat→Prop} {len:Nat→Nat} {v vO vP vC c vX vS vL vM:PV} {x O xs bs:List Int} {P M:List (List Int)} {C:List (List (List Int))} {cs:List PV}
def Ltr (n:Nat) (w:List Int):Prop:=∀a∈w,(1≤a∧a≤(n:Int))∨(-(n:Int)≤a∧a≤-1)
theorem zEU {n:Nat} {m:Int} (hn:1≤n∧n≤100) (hm:m≤100) (so:So σ s0 vS bs) (hk:∀v w σ',FI v w→Ltr n w→w.length≤100→Mv σ s0 σ'→So σ' s0 vS bs→K v σ'):zA Tryz.prog 111 [.ptr s0 0,.int .i64 n,.int .i64 m] σ K:=by
 have hs0:=so.lt;refine zA.gh ?_;refine zC mix Tryz.func111 ?_
 conv=>arg 2;cbv
 refine zD rfl ?_;simp only [pwA,seval,-iQ0];refine zF (fun q vs h=>∃(i:Nat) (v:PV) (w:List Int),i≤m.toNat∧q=m.toNat-i∧vs=[.ptr s0 0,.int .i64 n,.int .i64 m,v,.int .i64 i]∧w.length=i∧Ltr n w∧KM σ s0 h∧So h s0 vS bs∧PSl σ.next 1 h v w.length (pis w)) m.toNat ?_ ?_
 ·exact⟨0,_,[],Nat.zero_le _,rfl,rfl,rfl,fun a ha=>(by cases ha),so.km.new _,so.keep (zB _ _),PSl.new _ 1 rfl (Nat.le_refl _)⟩
 rintro q vs h ⟨i,v,w,hi,rfl,rfl,hwl,hw,km,so1,pa⟩
 have h1:=pa.one
 by_cases hlt:(i:Int)<m
 rotate_left
 ·simp only [pwA,seval,-iQ0,hlt,h1]
  exact PSl.finKM pa (Nat.le_refl _) km so1 hs0 fun u σ' hu m' so'=>hk u w σ' hu hw (by omega) m' so'
 have hn0:(0:Int)<(n:Int):=by omega
 have hn0':0<n:=by omega
 simp only [pwA,seval,-iQ0,hlt,hn0,hn0',h1];refine zO (n:=n) so1 (by omega) fun y g hy m2 so2=>?_
 have km2:=km.mv hs0 m2;have pa2:=PSl.mv' pa hs0 m2;have y0:=hy.1;have y1:=hy.lt (by omega)
 have w1:IntKind.i64.wrap (1+y)=1+y:=wrap64 (by omega) (by omega)
 have w2:IntKind.i64.wrap (0-(1+y))=-(1+y):=by rw [wrap64 (by omega) (by omega)];omega
 have wi:IntKind.i64.wrap ((i:Int)+1)=((i+1:Nat):Int):=by rw [wrap64 (by omega) (by omega)];omega
 simp only [pwA,seval,-iQ0,w1,h1];refine zO (n:=2) so2 (by decide) fun z g' hz m3 so3=>?_
 have km3:=km2.mv hs0 m3;have pa3:=PSl.mv' pa2 hs0 m3;have snoc:∀{a:Int},((1≤a∧a≤(n:Int))∨(-(n:Int)≤a∧a≤-1))→Ltr n (w++[a]):=fun {a} ha b hb=>by
  rcases List.mem_append.1 hb with hb|hb
  ·exact hw b hb
  ·rw [List.mem_singleton.1 hb];exact ha
 by_cases z0:z=0
 ·simp only [pwA,seval,-iQ0,z0,w2,h1]
  refine PSl.pushKM pa3 (by omega) km3 so3 hs0 fun v2 h2 km4 so4 pa4=>?_
  have h3:=pa4.one;simp only [pwA,seval,-iQ0,h3,wi];exact⟨_,by omega,i+1,v2,w++[-(1+y)],by omega,rfl,rfl,by rw [List.length_append,hwl];rfl,snoc (.inr ⟨by omega,by omega⟩),km4,so4,pa4⟩
 ·simp only [pwA,seval,-iQ0,z0,h1]
  refine PSl.pushKM pa3 (by omega) km3 so3 hs0 fun v2 h2 km4 so4 pa4=>?_
  have h3:=pa4.one;simp only [pwA,seval,-iQ0,h3,wi];exact⟨_,by omega,i+1,v2,w++[1+y],by omega,rfl,rfl,by rw [List.length_append,hwl];rfl,snoc (.inl ⟨by omega,by omega⟩),km4,so4,pa4⟩
theorem zHa {D:List (List Int)} {w:List Int} {vw vD:PV} (s:Shp O P C) (hc:Cons O P C) (hR:IsPr vO vP vC O P C) (hw:FI vw w) (hl:Ltr D.length w) (hwl:w.length≤100) (hD:FII vD D) (hDl:D.length≤100) (hg:∀y∈D,gS O y) (hk:∀v y,FI v y→gS O y→K v σ):zA Tryz.prog 110 [.agg [vO,vP,vC],vw,vD] σ K:=by
 have g0:=hR.O.one;have g1:=hR.P.one;have g2:=hR.C.one;have F:=Cons.full s hc;have hl6:=s.le;obtain⟨ww,aw,rfl⟩:=hw;obtain⟨wD,aD,rD,rfl,hrD⟩:=hD;refine zA.gh ?_;refine zC mix Tryz.func110 ?_
 conv=>arg 2;cbv
 refine zD rfl ?_;simp only [pwA,seval,-iQ0,g0,g1,g2];generalize hH:σ.new [vO,vP,vC]=H;have kH:Keep σ H:=by rw [←hH];exact zB _ _
 have r3:H.rd σ.next 0 3=some [vO,vP,vC]:=by rw [←hH];simp only [pwA,seval,-iQ0]
 clear hH;simp only [pwA,seval,-iQ0,r3];refine zFC hR (by omega) fun v0 hv0=>?_
 have h0:=hv0.one;simp only [pwA,seval,-iQ0,h0];refine zF (fun q vs h=>∃(i:Nat) (v:PV) (y:List Int),i≤w.length∧q=w.length-i∧vs=[.fz ww aw w.length (pis w),.fz wD aD D.length rD,.ptr σ.next 0,v,.int .i64 i]∧FI v y∧gS O y∧h=H) w.length ?_ ?_
 ·exact⟨0,v0,zv O,Nat.zero_le _,rfl,rfl,hv0,s.zv _,rfl⟩
 rintro q vs h ⟨i,v,y,hi,rfl,rfl,hv,hy,rfl⟩
 have h1:=hv.one;simp only [pwA,seval,-iQ0,h1];refine iteI (fun hlt=>?_) fun hge=>?_
 rotate_left
 ·exact Gh.fin0 kH (hv.bel _) (hk v y hv hy)
 have hlt':(i:Int)<(w.length:Int):=by omega
 have gx:(pis w)[i]? = some (.int .i64 w[i]):=by rw [zL,gi hlt];rfl
 have wi:=wrapS hlt (by omega:w.length≤4611686018427387904)
 have lw:=hl _ (List.getElem_mem hlt);simp only [pwA,seval,-iQ0,h1,hlt,hlt',gx];refine iteI (fun hpos=>?_) fun hneg=>?_
 ·obtain⟨j,hj⟩:∃j:Nat,w[i]=(j:Int)+1:=⟨(w[i] - 1).toNat,by omega⟩
  have hjD:j<D.length:=by omega
  have hjD':(j:Int)<(D.length:Int):=by omega
  obtain⟨w5,a5,hr5⟩:=hrD.rowI hjD;have wj:IntKind.i64.wrap ((j:Int)+1-1)=(j:Int):=by rw [wrap64 (by omega) (by omega)];omega
  rw [hj]at gx
  simp only [pwA,seval,-iQ0,h1,hlt,hlt',gx,hj,wj,hjD,hjD',hr5,r3];refine qz s hR hy (hg _ (List.getElem_mem hjD)) hv ⟨w5,a5,rfl⟩ fun v2 hv2=>?_
  have h2:=hv2.one;simp only [pwA,seval,-iQ0,h2,wi];exact⟨_,by omega,i+1,v2,_,by omega,rfl,rfl,hv2,F.g.cl hy (hg _ (List.getElem_mem hjD))⟩
 ·obtain⟨j,hj⟩:∃j:Nat,w[i]=-((j:Int)+1):=⟨(-w[i] - 1).toNat,by omega⟩
  have hjD:j<D.length:=by omega
  have hjD':(j:Int)<(D.length:Int):=by omega
  obtain⟨w5,a5,hr5⟩:=hrD.rowI hjD;have wn:IntKind.i64.wrap (0 - -((j:Int)+1))=(j:Int)+1:=by rw [wrap64 (by omega) (by omega)];omega
  have wj:IntKind.i64.wrap ((j:Int)+1-1)=(j:Int):=by rw [wrap64 (by omega) (by omega)];omega
  rw [hj]at gx
  simp only [pwA,seval,-iQ0,h1,hlt,hlt',gx,hj,wn,wj,hjD,hjD',hr5,r3];refine zBi s hc hR (hg _ (List.getElem_mem hjD)) ⟨w5,a5,rfl⟩ fun v2 hv2=>?_
  have hi2:gS O (ginv (gS O) (gm O P C) (zv O) D[j]):=(F.g.inv_in (hg _ (List.getElem_mem hjD))).1;simp only [pwA,seval,-iQ0,hv2.one,h1,r3];refine qz s hR hy hi2 hv hv2 fun v3 hv3=>?_
  have h3:=hv3.one;simp only [pwA,seval,-iQ0,h3,wi];exact⟨_,by omega,i+1,v3,_,by omega,rfl,rfl,hv3,F.g.cl hy hi2⟩
end Go.Proofs
namespace Go.Grp
end Go.Grp
namespace Go.Proofs
open Go.Ab Go.Lie Go.Grp
variable {σ h h':PHeap} {K:PV→PHeap→Prop} {O:List Int} {P:List (List Int)} {C:List (List (List Int))} {vO vP vC vx vM vA v:PV} {x:List Int} {A M:List (List Int)} {sp se:Nat}
theorem zLv {w:Bool} {a:AV}:FG (.fz w a 0 []) []:=⟨w,a,[],rfl,All2.nil _⟩
theorem zLu {w:Bool} {a:AV} {wO wP wC:PV} (h:IsPr wO wP wC O P C):FG (.fz w a 1 [wO,wP,wC]) [(O,P,C)]:=⟨w,a,[(wO,wP,wC)],rfl,(All2.nil FI3).snoc h⟩
end Go.Proofs
namespace Go.Grp
end Go.Grp
namespace Go.Proofs
open Go.Ab Go.Lie Go.Grp
variable {σ h hE:PHeap} {K:PV→PHeap→Prop} {O x:List Int} {P:List (List Int)} {C:List (List (List Int))}
theorem Gh.pwf {v:PV} (c:PWF σ→Gh σ K v h):Gh σ K v h:=fun w=>c w w
theorem Owns.comm {lo hi:Nat} {a b:List PV} (h:Owns lo hi (a++b)):Owns lo hi (b++a):=by
 have hw:=Zm.1 h.wh;have nd:=h.nd;rw [zg]at nd
 refine⟨Zm.2 fun c hc=>hw c ?_,?_,fun o ho=>h.lt o ?_⟩
 ·rw [List.mem_append]at hc ⊢;exact hc.symm
 ·rw [zg];exact List.perm_append_comm.nodup_iff.1 nd
 ·rw [zg,List.mem_append]at ho ⊢;exact ho.symm
theorem PSl.catK {σb h:PHeap} {bytes n m:Nat} {w:Bool} {av:AV} {v:PV} {cs news:List PV} {K:PV×PHeap→Prop} (hk:Keep σb h) (a:PSl σb.next 1 h v n cs) (hl:news.length=m)
  (h1:(n+m)*bytes≤140737488355328) (h2:n+m≤4611686018427387904) (k:∀v' h',Keep σb h'→PSl σb.next 1 h' v' (n+m) (cs++news)→(∀t,t<h.next→(∀off l c,v≠.sl t off l c)→h'.obj t=h.obj t∧∀off l c,v'≠.sl t off l c)→h.next≤h'.next→h'.top=h.top→K (v',h')):optK (zY 1 bytes h v (.fz w av m news)) K:=by
 by_cases h0:m=0
 ·subst h0
  have:news=[]:=List.eq_nil_of_length_eq_zero hl
  subst this;rw [qd,show plen (.fz w av 0 [])=some 0 from rfl]
  simp only [Option.bind_some,if_true];have hs:psame v=some v:=by
   obtain⟨s,cap,rfl,hc,q2,q3,q4,q5⟩:=a;rcases hc with rfl|rfl
   ·rfl
   ·rw [zCP,if_pos (Nat.le_refl _)]
  rw [hs];exact qR rfl (k _ _ hk (by rw [List.append_nil];exact a) (fun t _ hn=>⟨rfl,hn⟩) (Nat.le_refl _) rfl)
 ·refine zCl (PAcc.appS (m:=m) hk (.inr a) rfl h0 (by rw [zBd,if_neg h0,if_pos ⟨Nat.le_refl _,by omega,by omega⟩,List.take_of_length_le (by omega)]) (by omega) h1 h2 fun v' h' k1 k2 k3 k4 k5 htop=>?_)
  exact k v' h' k1 k2 (fun t ht hn=>⟨k3 t ht hn,k4 t ht⟩) (Nat.le_of_lt k5) htop
end Go.Proofs
namespace Go.Grp
end Go.Grp
namespace Go.Proofs
open Go.Ab Go.Lie Go.Grp
variable {σ h hE:PHeap} {K:PV→PHeap→Prop} {O x:List Int} {P:List (List Int)} {C:List (List (List Int))} {vO vP vC vx vL vU:PV} {L u:List (List Int)} {sp:Nat}
def OutG (O:List Int) (P:List (List Int)) (C:List (List (List Int))) (L:List (List Int)) (x:List Int):Prop:=
 ((zW O P C∧Cons O P C)∧∀y∈L,isExp O y)∧L.length≤6∧isExp O x
def ORes (O:List Int) (P:List (List Int)) (C:List (List (List Int))) (L:List (List Int)) (x:List Int) (k:Int) (G:List Pre) (Z:List (List Int)) (c:Int):Prop:=
 (¬OutG O P C L x∧(k=0∧G=[]∧Z=[])∧c=1)∨(OutG O P C L x∧GC O P C L x∧(k=0∧G=[]∧Z=[])∧c=4)∨
 (OutG O P C L x∧¬GC O P C L x∧(k=3∧G=[(O,P,C)]∧∃u,CanG O (GC O P C L) u∧Z=[x,[(L.length:Int)]]++(L++u))∧c=0)
theorem OutG.lg (h:OutG O P C L x):LG O P C:=⟨h.1.1.1,h.1.1.2⟩
theorem OutG.gs (h:OutG O P C L x):∀y∈L,gS O y:=fun y hy=>(h.1.2 y hy).gS
theorem OutG.sub (h:OutG O P C L x):gB O P C (GC O P C L):=GC.sub h.lg.F h.gs
theorem zKO {O:List Int} {P:List (List Int)} {C:List (List (List Int))} (g:LG O P C) {H H':List Int→Prop} (hH:gB O P C H) (hH':gB O P C H') (hd:∀x,H x→dep x<O.length→∃l,H' l∧H l∧dep l=dep x∧at_ l (dep l)=1):∀x,H x→H' x:=by
 have s:=g.s;have F:=g.F
 have:∀(k:Nat) (x:List Int),O.length-dep x≤k→H x→H' x:=by
  intro k
  induction k with
  | zero=>
   intro x hk hx;rw [zBw (hH.inS hx) (by omega)];exact hH'.one
  | succ k ih=>
   intro x hk hx;rcases Nat.lt_or_ge (dep x) O.length with hdx|hdx
   ·obtain⟨l,l1,l2,e1,e2⟩:=hd x hx hdx
    have xS:=hH.inS hx;have lS:=hH.inS l2;have lT:=Zn lS;rw [e1]at lT e2
    have st:=zDz s F g.cent hdx (Zn xS) lT e2;have h1:=hH.cl (hH.pw l2 (at_ O (dep x)-at_ x (dep x)).toNat) hx;have h2:=ih _ (by have:=Go.Grp.dep_ge st (by omega);omega) h1
    exact hH'.quot F.g (hH'.pw l1 _) xS h2
   ·exact ih x (by omega) hx
 exact fun x hx=>this _ x (Nat.le_refl _) hx
theorem canGC (g:LG O P C) {H:List Int→Prop} (hH:gB O P C H) (hc:CanG O H u):∀x,GC O P C u x↔H x:=fun x=>by
 refine⟨fun h=>h H hH hc.mem,fun h=>zKO g hH (GC.sub g.F fun l hl=>hH.inS (hc.mem l hl)) (fun y hy hd=>?_) x h⟩
 obtain⟨v,hv,e⟩:=hc.all y hy hd;exact⟨v,GC.mem hv,hc.mem v hv,e,(hc.one v hv).2.2⟩
theorem zJR (g:LG O P C) {H:List Int→Prop} (hH:gB O P C H) (hc:CanG O H u):QW O P C u:=
 ⟨fun x hx=>hH.inS (hc.mem x hx),hc.asc,fun v hv=>GC.mem hv,hc.one,hc.red,fun x hx hd=>hc.all x ((canGC g hH hc x).1 hx) hd⟩
theorem zFg (hR:IsPr vO vP vC O P C) (sz:SzP O P C) (hx:FI vx x) (szx:x.length≤1048576) (hk:∀t:Bool,(t=true↔(zW O P C∧Cons O P C)∧isExp O x)→K (.bool t) σ):zA Tryz.prog 112 [.agg [vO,vP,vC],vx] σ K:=by
 have fl:∀{A:Prop},¬A→((false=true)↔A):=fun h=>⟨fun x=>(by cases x),fun x=>absurd x h⟩
 have h0:=hR.O.one;have h1:=hR.P.one;have h2:=hR.C.one;refine zA.gh ?_;refine zC mix Tryz.func112 ?_
 conv=>arg 2;cbv
 refine zD rfl ?_;simp only [pwA,seval,-iQ0,h0,h1,h2,hx.one];refine zGO hR sz fun t ht=>?_
 cases t with
 | false=>
  simp only [pwA,seval,-iQ0];exact Gh.fin0 (zB σ _) trivial (hk _ (fl fun h=>by cases ht.2 h.1))
 | true=>
  simp only [pwA,seval,-iQ0,h0,h1,h2];have hp:=(ht.1 rfl).1;refine zBj hR sz.O hp.isp hx szx fun t2 ht2=>?_
  simp only [pwA,seval,-iQ0];exact Gh.fin0 (zB σ _) trivial (hk _ (ht2.trans ⟨fun h=>⟨ht.1 rfl,h⟩,fun h=>h.2⟩))
theorem Q7 (hR:IsPr vO vP vC O P C) (sz:SzP O P C) (hL:FII vL L) (szL:SzL L) (hx:FI vx x) (szx:x.length≤1048576) (hk:∀t:Bool,(t=true↔OutG O P C L x)→K (.bool t) σ):zA Tryz.prog 59 [.agg [vO,vP,vC],vL,vx] σ K:=by
 have fl:∀{A:Prop},¬A→((false=true)↔A):=fun h=>⟨fun x=>(by cases x),fun x=>absurd x h⟩
 have h0:=hR.O.one;have h1:=hR.P.one;have h2:=hR.C.one;have hL0:=hL;obtain⟨wl,al,rl,rfl,hrl⟩:=hL;refine zA.gh ?_;refine zC mix Tryz.func59 ?_
 conv=>arg 2;cbv
 refine zD rfl ?_;simp only [pwA,seval,-iQ0,h0,h1,h2,hx.one];refine zFg hR sz hx szx fun t ht=>?_
 cases t with
 | false=>
  simp only [pwA,seval,-iQ0];exact Gh.fin0 (zB σ _) trivial (hk _ (fl fun h=>by cases ht.2 ⟨h.1.1,h.2.2⟩))
 | true=>
  by_cases h6:L.length≤6
  ·have h6':(L.length:Int)≤6:=by omega
   simp only [pwA,seval,-iQ0,h6',h0,h1,h2];have hp:=(ht.1 rfl).1.1;refine zDr hR sz.O hp.isp hL0 szL fun t2 ht2=>?_
   simp only [pwA,seval,-iQ0];exact Gh.fin0 (zB σ _) trivial (hk _ (ht2.trans ⟨fun h=>⟨⟨(ht.1 rfl).1,h⟩,h6,(ht.1 rfl).2⟩,fun h=>h.1.2⟩))
  ·have h6':¬(L.length:Int)≤6:=by omega
   simp only [pwA,seval,-iQ0,h6'];exact Gh.fin0 (zB σ _) trivial (hk _ (fl fun h=>h6 h.2.1))
theorem zCd {h:PHeap} {s:Nat} {cs vs:List PV} (ho:h.obj s=some cs) (hl:vs.length=cs.length) (h1:vs.all PV.one=true):h.wr s 0 vs=some (h.set s vs):=by
 simp [PHeap.wr,ho,hl,h1]
end Go.Proofs
namespace Go.Grp
end Go.Grp
namespace Go.Proofs
open Go.Ab Go.Lie Go.Grp
variable {σ σ0 h h':PHeap} {K:PV→PHeap→Prop} {b k nP nC r s0 i j n:Nat} {Q Q':Nat→Prop} {len:Nat→Nat} {v vO vP vC c vX vS vL vM:PV} {x O xs bs:List Int} {P M L:List (List Int)} {C:List (List (List Int))} {cs:List PV}
theorem PSl.pushR {T:PHeap} {n:Nat} {y:PV} {rows:List PV} {KA:PV×PHeap→Prop} (pa:PSl T.next 1 h v n rows) (hl:n≤100) (km:KM T s0 h) (so:So h s0 vS bs) (hs0:s0<T.next)
  (hk:∀v2 h2,KM T s0 h2→So h2 s0 vS bs→PSl T.next 1 h2 v2 (n+1) (rows++[y])→KA (v2,h2)):optK (zY 1 24 (h.new [y]) v (.sl h.next 0 1 (.known 1))) KA:=by
 obtain⟨σ',m',kp⟩:=km;have hn:=m'.next;refine PSl.push (σb:=σ') (bytes:=24) kp (by rw [hn];exact pa) (by omega) (by omega) fun v2 h2 k2 a2=>hk v2 h2 ⟨σ',m',k2⟩ ((zC8 kp so (by rw [hn];exact hs0)).keep k2) ?_
 rw [←hn];exact a2
theorem zHX (so:So σ s0 vS bs) (hk:∀wO wP wC O P C vL L vx x σ',IsPr wO wP wC O P C→SmP O P C→FII vL L→L.length≤7→(∀y∈L,y.length≤65)→FI vx x→x.length≤65→Mv σ s0 σ'→So σ' s0 vS bs→K (.tup [.agg [wO,wP,wC],vL,vx]) σ'):zA Tryz.prog 53 [.ptr s0 0] σ K:=by
 have hs0:=so.lt;refine zA.gh ?_;refine zC mix Tryz.func53 ?_
 conv=>arg 2;cbv
 refine zD rfl ?_;simp only [pwA,seval,-iQ0];generalize hH:σ.new [PV.fz true AV.nils 0 [],PV.fz true AV.nils 0 [],PV.fz true AV.nils 0 []]=H;have hHn:H.next=σ.next+1:=by rw [←hH];rfl
 have hsH:s0<H.next:=by omega
 have ob0:H.obj σ.next=some nil3:=by rw [←hH];simp only [pwA,seval,-iQ0]
 have km0:KM σ s0 H:=by rw [←hH];exact so.kmK (zB _ _)
 have so0:So H s0 vS bs:=by rw [←hH];exact so.keep (zB _ _)
 clear hH;refine zHd so0 fun vO vP vC O P C g1 hR sm m1 so1=>?_
 have o1:=hR.O.one;have o2:=hR.P.one;have o3:=hR.C.one;have hm1:=m1.next;have km1:=so0.km.mv hsH m1;simp only [pwA,seval,-iQ0,o1,o2,o3];have obT:(g1.new [vO,vP,vC]).obj g1.next=some [vO,vP,vC]:=by rw [zG,if_pos rfl]
 have kmT:KM H s0 (g1.new [vO,vP,vC]):=km1.new _;have soT:So (g1.new [vO,vP,vC]) s0 vS bs:=so1.keep (zB _ _);have hTn:(g1.new [vO,vP,vC]).next=H.next+1:=by show g1.next+1=_;omega
 rw [hm1]at obT ⊢
 generalize g1.new [vO,vP,vC]=T at *
 have hsT:s0<T.next:=by omega
 have hTn':H.next+1=T.next:=hTn.symm;rw [hTn'];have rT:∀{g:PHeap},KM T s0 g→g.rd H.next 0 3=some [vO,vP,vC]:=fun {g} km=>by rw [zT (by rw [km.obj (by omega) (by omega)];exact obT)];rfl
 have I:∃I:Nat→List PV→PHeap→Prop,I=fun m vs h=>∃(x:Nat) (v:PV) (rows:List PV) (L:List (List Int)),m=x∧vs=[.ptr s0 0,.ptr σ.next 0,.ptr H.next 0,v,.int .i64 x]∧L.length+x≤7∧(∀y∈L,y.length≤65)∧All2 FI rows L∧KM T s0 h∧So h s0 vS bs∧(x=0∧FII v L∨x≠0∧PSl T.next 1 h v L.length rows):=⟨_,rfl⟩
 obtain⟨I,hI⟩:=I;have enter:∀{g:PHeap} {x:Nat} {v:PV} {rows:List PV} {L:List (List Int)},L.length+x≤7→(∀y∈L,y.length≤65)→All2 FI rows L→KM T s0 g→So g s0 vS bs→PSl T.next 1 g v L.length rows→GL (I x) [.ptr s0 0,.ptr σ.next 0,.ptr H.next 0,v,.int .i64 x] g:=fun {g x v rows L} h1 h2 h3 h4 h5 h6=>by
  by_cases hx:x=0
  ·subst hx
   obtain⟨s,cap,rfl,q1,q2,q3,q4,q5⟩:=h6;refine .fz s rows q2 (h3.bI 0) fun o=>.here ?_
   rw [hI];refine⟨0,.fz true (.sl o 0 L.length cap) L.length rows,rows,L,rfl,?_,h1,h2,h3,h4.kill q4,h5.kill (by omega),.inl ⟨rfl,⟨true,_,rows,rfl,h3⟩⟩⟩
   simp only [sbs,sb,q1.ok,and_self,if_true]
  ·refine .here ?_
   rw [hI];exact⟨x,v,rows,L,rfl,rfl,h1,h2,h3,h4,h5,.inr ⟨hx,h6⟩⟩
 have fin:∀{g:PHeap} {vL vx:PV} {L:List (List Int)} {x:List Int},KM T s0 g→So g s0 vS bs→FII vL L→L.length≤7→(∀y∈L,y.length≤65)→FI vx x→x.length≤65→
   g.wr σ.next 0 [vO,vP,vC]=some (g.set σ.next [vO,vP,vC])∧(g.set σ.next [vO,vP,vC]).rd σ.next 0 3=some [vO,vP,vC]∧Gh σ K (.tup [.agg [vO,vP,vC],vL,vx]) (g.set σ.next [vO,vP,vC]):=fun {g vL vx L x} km so' hL hl hy hx hxl=>by
  have km':=kmT.trans hsH km;have ob:g.obj σ.next=some nil3:=by rw [km'.obj (by omega) (by omega)];exact ob0
  refine⟨by rw [zR ob,if_pos ⟨by simp [nil3],by simp [o1,o2,o3]⟩];rfl,by rw [qJ,if_pos rfl];rfl,?_⟩
  exact Gh.km ((km0.trans hs0 km').set (Nat.le_refl _) _) (so'.set (by omega) _) hs0 fun σ' m' so'' kp=>Gh.fin0 kp ⟨⟨hR.O.bel _,hR.P.bel _,hR.C.bel _,trivial⟩,hL.bel _,hx.bel _,trivial⟩ (hk _ _ _ O P C vL L vx x σ' hR sm hL hl hy hx hxl m' so'')
 have kmN:=soT.km.new [];have soN:=soT.keep (zB T []);have paN:PSl T.next 1 (T.new []) (.sl T.next 0 0 (.known 0)) 0 []:=PSl.own (n:=0) (.inr rfl) (by rw [zG,if_pos rfl]) rfl (Nat.le_refl _) (Nat.lt_succ_self _)
 refine zO (n:=4) soN (by decide) fun c g hc m2 so2=>?_
 have km2:=kmN.mv hsT m2;have pa2:=PSl.mv' paN hsT m2;have c0:=hc.1;have c4:=hc.lt (by decide)
 simp only [pwA,seval,-iQ0];refine zO (n:=25) so2 (by decide) fun z g' hz m3 so3=>?_
 have km3:=km2.mv hsT m3;have pa3:=PSl.mv' pa2 hsT m3;have start:∃(c':Nat),c'=c.toNat∧(c':Int)=c:=⟨c.toNat,rfl,by omega⟩
 obtain⟨c',hc',hcc⟩:=start;have rest:∀{e':List PV},True:=trivial
 by_cases z0:z=0
 case' pos=>
  subst z0;simp only [pwA,seval,-iQ0];refine Zc (xs:=[6,7]) (t:=g'.next) (so3.keep (zB _ _)) (by have:=km3.next;omega) (by rw [zG,if_pos rfl];rfl) (by decide) fun y g2 hy m4 so5=>?_
  have km5:=(km3.new [.int .i64 6,.int .i64 7]).mv hsT m4;have pa5:=PSl.mv' (pa3.keep (zB g' [.int .i64 6,.int .i64 7])) hsT m4;have yb:6≤y∧y≤7:=by
   simp only [List.mem_cons,List.not_mem_nil,or_false]at hy
   omega
  obtain⟨d,hd⟩:∃d:Nat,y=(d:Int):=⟨y.toNat,by omega⟩
  have hd7:d≤7:=by omega
  simp only [pwA,seval,-iQ0,hd]
 case' neg=>
  obtain⟨d,hd⟩:∃d:Nat,c=(d:Int):=⟨c.toNat,by omega⟩
  have hd7:d≤7:=by omega
  have km5:=km3;have so5:=so3;have pa5:=pa3;simp only [pwA,seval,-iQ0,z0,hd]
 all_goals
  refine ZG I d (by exact enter (L:=[]) (by simpa using hd7) (fun y hy=>by cases hy) (All2.nil _) km5 so5 pa5) ?_
  intro m vs g hIm;rw [hI]at hIm
  obtain⟨x,v,rows,L,rfl,rfl,hxl,hyl,hall,km,so6,hv⟩:=hIm;rcases hv with ⟨hx0,hL⟩|⟨hx0,pa⟩
  rotate_left
  ·have p1:=pa.one
   have hpos:(0:Int)<((m:Nat):Int):=by omega
   have wx:IntKind.i64.wrap ((m:Int)-1)=((m-1:Nat):Int):=by rw [wrap64 (by omega) (by omega)];omega
   simp only [pwA,seval,-iQ0,hpos,p1,rT km];refine zBM so6 hR sm fun vy y g3 hvy hyl2 m7 so7=>?_
   have km7:=km.mv hsT m7;have pa7:=PSl.mv' pa hsT m7;have y1:=hvy.one;have y2:vy.cells=[vy]:=by obtain⟨w5,a5,rfl⟩:=hvy;rfl
   simp only [pwA,seval,-iQ0,p1,y1,y2];refine PSl.pushR pa7 (by omega) km7 so7 hsT fun v2 h2 km8 so8 pa8=>?_
   have p2:=pa8.one;simp only [pwA,seval,-iQ0,p2,wx];have hl2:(L++[y]).length=L.length+1:=by simp
   refine⟨m-1,by omega,enter (L:=L++[y]) (by omega) (fun z hz=>?_) (hall.snoc hvy) km8 so8 (by rw [hl2];exact pa8)⟩
   rcases List.mem_append.1 hz with hz|hz
   ·exact hyl z hz
   ·rw [List.mem_singleton.1 hz];exact hyl2
  subst hx0;have l1:=hL.one;simp only [pwA,seval,-iQ0,l1,rT km];refine zBM so6 hR sm fun vy y g3 hvy hyl2 m7 so7=>?_
  have km7:=km.mv hsT m7;have y1:=hvy.one;obtain⟨f1,f2,f3⟩:=fin km7 so7 hL (by omega) hyl hvy hyl2
  simp only [pwA,seval,-iQ0,l1,y1,rT km7];refine Q7 hR sm.sz hL ⟨by omega,fun z hz=>by have:=hyl z hz;omega⟩ hvy (by omega) fun tt htt=>?_
  have rT7:=rT km7;have rS:(g3.set σ.next [vO,vP,vC]).rd H.next 0 3=some [vO,vP,vC]:=by rw [qJ,if_neg (by omega)];exact rT7
  cases tt
  ·simp only [pwA,seval,-iQ0,rT7,l1,y1,o1,o2,o3,f1,f2]
   exact f3
  have out:OutG O P C L y:=htt.1 rfl;have hL0:=hL;obtain⟨wL,aL,rL,rfl,hrL⟩:=hL
  by_cases hl0:L.length=0
  ·have d0:¬(0:Int)<((L.length:Nat):Int):=by omega
   simp only [pwA,seval,-iQ0,d0,rT7,l1,y1,o1,o2,o3,f1,f2];exact f3
  have d0:(0:Int)<((L.length:Nat):Int):=by omega
  have d0':0<L.length:=by omega
  simp only [pwA,seval,-iQ0,d0,d0',l1,y1];refine zO (n:=2) so7 (by decide) fun q1 g4 hq1 m8 so8=>?_
  have km8:=km7.mv hsT m8
  by_cases q0:q1=0
  rotate_left
  ·obtain⟨f1,f2,f3⟩:=fin km8 so8 hL0 (by omega) hyl hvy hyl2
   simp only [pwA,seval,-iQ0,d0,d0',q0,rT km8,l1,y1,o1,o2,o3,f1,f2];exact f3
  subst q0;simp only [pwA,seval,-iQ0,d0,d0',rT km8,l1,y1];refine zO (n:=7) so8 (by decide) fun q2 g5 hq2 m9 so9=>?_
  have km9:=km8.mv hsT m9;have q27:=hq2.lt (by decide)
  simp only [pwA,seval,-iQ0,rT km9];refine zEU (n:=L.length) (by omega) (by omega) so9 fun vw w g6 hvw hlt hwl m10 so10=>?_
  have km10:=km9.mv hsT m10;have w1:=hvw.one;simp only [pwA,seval,-iQ0,rT km10,w1];refine zHa out.lg.s out.lg.co hR hvw hlt hwl hL0 (by omega) out.gs fun vz z hvz hz=>?_
  have z1:=hvz.one;have zl:=hz.len;have o64:=sm.o;obtain⟨f1,f2,f3⟩:=fin km10 so10 hL0 (by omega) hyl hvz (by omega)
  simp only [pwA,seval,-iQ0,rT km10,l1,z1,o1,o2,o3,f1,f2];exact f3
theorem zB3 (hb:FB vC bs) (hB:Byt bs) (hk:∀wO wP wC O P C vL L vx x,IsPr wO wP wC O P C→SmP O P C→FII vL L→L.length≤7→(∀y∈L,y.length≤65)→FI vx x→x.length≤65→K (.tup [.agg [wO,wP,wC],vL,vx]) σ):zA Tryz.prog 21 [vC] σ K:=by
 refine zA.gh ?_;generalize hT:σ.new nil3=T;have hTn:T.next=σ.next+1:=by rw [←hT];rfl
 have hkT:Keep σ T:=by rw [←hT];exact zB σ _
 have obT:T.obj σ.next=some nil3:=by rw [←hT,zG,if_pos rfl]
 refine zC mix Tryz.func21 ?_
 conv=>arg 2;cbv
 refine zD rfl ?_;simp only [pwA,seval,-iQ0,hb.one];rw [hT];refine zHk hb hB fun sd hsd=>?_
 have so1:So (T.new (srcC vC 0 sd)) T.next vC bs:=⟨0,sd,by rw [zG,if_pos rfl],Nat.lt_succ_self _,hb,hB,Nat.zero_le _,hsd⟩
 have km1:KM (T.new (srcC vC 0 sd)) T.next (T.new (srcC vC 0 sd)):=so1.km;have kT1:Keep T (T.new (srcC vC 0 sd)):=zB _ _;have hs1:T.next<(T.new (srcC vC 0 sd)).next:=Nat.lt_succ_self _;generalize hU:T.new (srcC vC 0 sd)=U at *
 have hUn:U.next=T.next+1:=by rw [←hU];rfl
 simp only [pwA,seval,-iQ0];refine zHX so1 fun wO wP wC O P C vL L vx x h2 hR sm hL hl hyl hx hxl m2 so2=>?_
 have km2:=km1.mv hs1 m2;have g1:=hR.O.one;have g2:=hR.P.one;have g3:=hR.C.one;have l1:=hL.one;have x1:=hx.one;have hU2:Keep T h2:=km2.keepOf kT1 (Nat.le_refl _);have hn2:=hU2.next;have hres:h2.obj σ.next=some nil3:=by rw [hU2.obj _ (by omega)];exact obT
 have n1:¬σ.next=h2.next:=by omega
 have w:h2.wr σ.next 0 [wO,wP,wC]=some (h2.set σ.next [wO,wP,wC]):=by rw [zR hres,if_pos ⟨by simp [nil3],by simp [g1,g2,g3]⟩];rfl
 have r:(h2.set σ.next [wO,wP,wC]).rd σ.next 0 3=some [wO,wP,wC]:=by rw [qJ,if_pos rfl];rfl
 have kk:Keep σ (h2.set σ.next [wO,wP,wC]):=(hkT.trans hU2).set (Nat.le_refl _) _;have n2:¬σ.next=(h2.set σ.next [wO,wP,wC]).next:=n1;generalize h2.set σ.next [wO,wP,wC]=g at *
 simp only [pwA,seval,-iQ0,g1,g2,g3,l1,x1,n1,n2,w,r];exact Gh.fin0 (kk.new _) ⟨⟨hR.O.bel _,hR.P.bel _,hR.C.bel _,trivial⟩,hL.bel _,hx.bel _,trivial⟩ (hk wO wP wC O P C vL L vx x hR sm hL hl hyl hx hxl)
end Go.Proofs
namespace Go.Grp
end Go.Grp
namespace Go.Proofs
open Go.Ab Go.Lie Go.Grp
variable {σ h hE:PHeap} {K:PV→PHeap→Prop} {O x:List Int} {P:List (List Int)} {C:List (List (List Int))} {vO vP vC vx vL vU:PV} {L u xs:List (List Int)} {sp:Nat}
theorem zBQ {sl off:Nat} {cap:Cap} {rl row:List PV} (ho:σ.obj sl=some row) (tk:(row.drop off).take xs.length=rl) (hrl:All2 FI rl xs) (hs:PtrG σ sp vO vP vC) (hR:IsPr vO vP vC O P C) (sz:SzP O P C) (szL:SzL xs) (hk:∀t:Bool,(t=true↔(zW O P C∧Cons O P C)∧∀x∈xs,isExp O x)→K (.bool t) σ):zA Tryz.prog 54 [.ptr sp 0,.sl sl off xs.length cap] σ K:=by
 have fl:∀{A:Prop},¬A→((false=true)↔A):=fun h=>⟨fun x=>(by cases x),fun x=>absurd x h⟩
 have r3:σ.rd sp 0 3=some [vO,vP,vC]:=by rw [zT hs.obj];rfl
 have hxl:=szL.l;refine zC mix Tryz.func54 ?_
 conv=>arg 2;cbv
 refine zD rfl ?_;simp only [pwA,seval,-iQ0,r3];refine QE hR sz fun t ht=>?_
 cases t with
 | false=>
  simp only [pwA,seval,-iQ0];exact hk _ (fl fun h=>by cases ht.2 h.1)
 | true=>
 have hp:=ht.1 rfl;simp only [pwA,seval,-iQ0];refine zF (fun m us h'=>∃i:Nat,i≤xs.length∧m=xs.length-i∧us=[.ptr sp 0,.sl sl off xs.length cap,.int .i64 xs.length,.int .i64 i]∧σ=h'∧∀x∈xs.take i,isExp O x) xs.length ⟨0,by omega,by omega,rfl,rfl,by simp⟩ ?_
 rintro m us h' ⟨i,hi,rfl,rfl,rfl,hall⟩
 simp only [pwA,seval,-iQ0];refine iteI (fun hlt=>?_) fun hge=>?_
 rotate_left
 ·have hie:i=xs.length:=by omega
  subst hie;rw [List.take_length]at hall
  exact hk _ ⟨fun _=>⟨hp,hall⟩,fun _=>rfl⟩
 obtain⟨w4,a4,hr⟩:=hrl.rowI hlt;have hxi:=szL.r _ (List.getElem_mem hlt);have hlt':(i:Int)<(xs.length:Int):=by omega
 have rd:σ.rd1 sl (off+i)=some (.fz w4 a4 xs[i].length (pis xs[i])):=by rw [zH ho,←hr,←tk,List.getElem?_take_of_lt hlt,List.getElem?_drop]
 simp only [pwA,seval,-iQ0,hlt,hlt',rd];refine qj hs hR.O (by have:=hp.1.1;omega) hp.1.isp ⟨w4,a4,rfl⟩ hxi fun t ht=>?_
 cases t with
 | false=>
  simp only [pwA,seval,-iQ0];exact hk _ (fl fun h=>by cases ht.2 (h.2 _ (List.getElem_mem hlt)))
 | true=>
 have h1:=ht.1 rfl;simp only [pwA,seval,-iQ0,wrapS hlt (by omega:xs.length≤4611686018427387904)]
 refine⟨_,by omega,i+1,by omega,rfl,rfl,fun x hx=>?_⟩
 rw [List.take_succ_eq_append_getElem hlt,List.mem_append,List.mem_singleton]at hx
 rcases hx with hx|hx
 ·exact hall x hx
 ·rw [hx];exact h1
theorem zDv {sl:Nat} {cap:Cap} (ho:σ.obj sl=some [vU]) (g:LG O P C) (hs:PtrG σ sp vO vP vC) (hR:IsPr vO vP vC O P C) (sz:SzP O P C) (hU:FII vU u) (szu:SzL u) (hk:∀t:Bool,(t=true↔QW O P C u)→K (.bool t) σ):zA Tryz.prog 170 [.ptr sp 0,.sl sl 0 1 cap] σ K:=by
 have fl:∀{A:Prop},¬A→((false=true)↔A):=fun h=>⟨fun x=>(by cases x),fun x=>absurd x h⟩
 have s:=g.s;have F:=g.F;have hn6:=s.le;have r3:σ.rd sp 0 3=some [vO,vP,vC]:=by rw [zT hs.obj];rfl
 have hR0:=hR;obtain⟨⟨w0,a0,rfl⟩,_,_⟩:=hR;have r1:σ.rd1 sp 0=some (.fz w0 a0 O.length (pis O)):=by rw [zH hs.obj];rfl
 have hul:=szu.l;have hU0:=hU;obtain⟨wu,au,ru,rfl,hru⟩:=hU;refine zC mix Tryz.func170 ?_
 conv=>arg 2;cbv
 refine zD rfl ?_;simp only [pwA,seval,-iQ0,r3];refine QE hR0 sz fun t ht=>?_
 obtain rfl:t=true:=ht.2 ⟨g.pr,g.co⟩;clear ht;simp only [pwA,seval,-iQ0];refine zF (fun m us h'=>∃i:Nat,i≤1∧m=1-i∧us=[.ptr sp 0,.sl sl 0 1 cap,.int .i64 ((1:Nat):Int),.int .i64 i]∧σ=h'∧(i=1→QW O P C u)) 1 ⟨0,by omega,by omega,rfl,rfl,fun h=>by omega⟩ ?_
 rintro m us h' ⟨i,hi,rfl,rfl,rfl,hall⟩
 rcases Nat.lt_or_ge i 1 with hi1|hi1
 rotate_left
 ·obtain rfl:i=1:=by omega
  have n1:¬(((1:Nat):Int)<((1:Nat):Int)):=by omega
  simp only [pwA,seval,-iQ0,n1,decide_false];exact hk true ⟨fun _=>hall rfl,fun _=>rfl⟩
 obtain rfl:i=0:=by omega
 have n0:((0:Nat):Int)<((1:Nat):Int):=by omega
 have n00:(0:Int)<((1:Nat):Int):=by omega
 have n01:(0:Nat)<1:=by omega
 have rU:σ.rd1 sl 0=some (.fz wu au u.length ru):=by rw [zH ho];rfl
 simp only [pwA,seval,-iQ0,n0,n00,n01,decide_true,r1,rU];refine iteI (fun hgt=>?_) fun hle=>?_
 ·refine hk _ (fl fun h=>?_)
  have:=h.len
  omega
 have hle':u.length≤O.length:=by omega
 refine zF (fun m us h'=>∃i:Nat,i≤u.length∧m=u.length-i∧us=[.ptr sp 0,.fz wu au u.length ru,.sl sl 0 1 cap,.int .i64 ((1:Nat):Int),.int .i64 ((0:Nat):Int),.fz wu au u.length ru,.int .i64 u.length,.int .i64 i]∧σ=h'∧∀x∈u.take i,isExp O x) u.length ⟨0,by omega,by omega,rfl,rfl,by simp⟩ ?_
 rintro m us h' ⟨i,hi',rfl,rfl,rfl,hall'⟩
 simp only [pwA,seval,-iQ0];refine iteI (fun hlt=>?_) fun hge=>?_
 rotate_left
 ·have hie:i=u.length:=by omega
  subst hie;rw [List.take_length]at hall'
  have hgu:∀x∈u,gS O x:=fun x hx=>(hall' x hx).gS
  simp only [pwA,seval,-iQ0];refine zFK g hs hR0 hU0 hgu (by omega) fun v z hv hz=>?_
  simp only [pwA,seval,-iQ0];have hzl:=hz.len;refine zFl hv hU0 (by omega) (fun x hx=>by have:=(hz.one x hx).1.len;omega) fun t ht=>?_
  cases t with
  | false=>
   simp only [pwA,seval,-iQ0];refine hk _ (fl fun h=>?_)
   have:=ht.2 (hz.unique s F (GC.sub F hgu) h.2)
   cases this
  | true=>
   have e:=ht.1 rfl;have w1:IntKind.i64.wrap (((0:Nat):Int)+1)=((1:Nat):Int):=by rw [wrap64 (by omega) (by omega)];omega
   simp only [pwA,seval,-iQ0,w1];exact⟨0,by omega,1,Nat.le_refl _,by omega,rfl,fun _=>⟨hgu,by rw [e]at hz;exact hz⟩⟩
 obtain⟨w4,a4,hr⟩:=hru.rowI hlt;have hxi:=szu.r _ (List.getElem_mem hlt);simp only [pwA,seval,-iQ0,hlt,hr];refine qj hs hR0.O (by omega) (zW.isp g.pr) ⟨w4,a4,rfl⟩ hxi fun t ht=>?_
 cases t with
 | false=>
  simp only [pwA,seval,-iQ0];refine hk _ (fl fun h=>?_)
  have:=ht.2 (zLt.2 (h.1 _ (List.getElem_mem hlt)))
  cases this
 | true=>
 have h1:=ht.1 rfl;simp only [pwA,seval,-iQ0,wrapS hlt (by omega:u.length≤4611686018427387904)]
 refine⟨_,by omega,i+1,by omega,rfl,rfl,fun x hx=>?_⟩
 rw [List.take_succ_eq_append_getElem hlt,List.mem_append,List.mem_singleton]at hx
 rcases hx with hx|hx
 ·exact hall' x hx
 ·rw [hx];exact h1
end Go.Proofs
