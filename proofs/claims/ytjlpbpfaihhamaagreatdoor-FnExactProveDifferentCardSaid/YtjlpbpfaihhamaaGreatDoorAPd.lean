/- The law of proofs of difference: the tied card that is given. -/
import Derived.Test.YtjlpbpfaihhamaaGreatDoorAP19
import Derived.Test.YtjlpbpfaihhamaaGreatDoorAP30
import Derived.Test.YtjlpbpfaihhamaaGreatDoorAP31
import Derived.Test.YtjlpbpfaihhamaaGreatDoorAP34
import Derived.Test.YtjlpbpfaihhamaaGreatDoorAP37
import Derived.Test.YtjlpbpfaihhamaaGreatDoorAP40
import Derived.Test.YtjlpbpfaihhamaaGreatDoorAP42
import Derived.Test.YtjlpbpfaihhamaaGreatDoorAP43
import Derived.Test.YtjlpbpfaihhamaaGreatDoorAP44
import Derived.Test.YtjlpbpfaihhamaaGreatDoorTie
import Derived.Test.YtjlpbpfaihhamaaGreatDoorCards
import Derived.ProofKit
import Derived.LaidMore
import Derived.Lay
import Derived.Lib.LaidTab
import Derived.Stop.LaidErr
import Derived.SevenTiedAt
import Derived.Stop.Joined
import Derived.Shelf.Vars
import Derived.HandedShaped
open Int renaming reduceNatCast'→iQ0
namespace Go.Grp
end Go.Grp
set_option linter.unusedSimpArgs false
set_option linter.unusedVariables false
namespace Go.Proofs
open Go.Ab Go.Lie Go.Grp Go.Mx
theorem zHD {p q:Pre} (hp:SzP p.1 p.2.1 p.2.2) (hq:SzP q.1 q.2.1 q.2.2):∀{l:List Pre} {k c:Int} {G:List Pre},(∀r∈l,SzP r.1 r.2.1 r.2.2)→dScan p q l=(k,G,c)→G.length≤3∧SzG G
 | [],k,c,G,_,e=>by rw [dScan]at e;cases e;exact⟨by simp,⟨by simp,fun g hg=>by cases hg⟩⟩
 | r::l,k,c,G,hl,e=>by
  rw [dScan]at e
  split at e
  ·cases e;exact⟨by simp,⟨by simp,fun g hg=>by cases hg⟩⟩
  ·split at e
   ·exact zHD hp hq (fun x hx=>hl x (List.mem_cons_of_mem _ hx)) e
   ·cases e
    refine⟨by simp,⟨by simp,fun g hg=>?_⟩⟩
    simp only [List.mem_cons,List.not_mem_nil,or_false]at hg
    rcases hg with rfl|rfl|rfl
    ·exact hp
    ·exact hq
    ·exact hl _ (List.mem_cons_self ..)
theorem zLr:∀r∈testG,SzP r.1 r.2.1 r.2.2:=fun r hr=>by
 obtain⟨t,ht,rfl⟩:=List.mem_map.1 hr;exact qE.sz (zCC ht).2.2.1
theorem DRes.bd {p q:Pre} {k c:Int} {G:List Pre} (h:DRes p q k G c) (hp:SzP p.1 p.2.1 p.2.2) (hq:SzP q.1 q.2.1 q.2.2):G.length≤3∧SzG G:=by
 rcases h with ⟨_,_,rfl,_⟩|⟨_,_,e⟩
 ·exact⟨by simp,⟨by simp,fun g hg=>by cases hg⟩⟩
 ·exact zHD hp hq zLr e
theorem DRes.unique {p q:Pre} {k c k' c':Int} {G G':List Pre} (h:DRes p q k G c) (h':DRes p q k' G' c'):(k=k'∧G=G')∧c=c':=by
 rcases h with ⟨a1,rfl,rfl,rfl⟩|⟨a1,a2,e⟩<;>rcases h' with ⟨b1,rfl,rfl,rfl⟩|⟨b1,b2,e'⟩
 ·exact⟨⟨rfl,rfl⟩,rfl⟩
 ·exact absurd ⟨b1,b2⟩ a1
 ·exact absurd ⟨a1,a2⟩ b1
 ·rw [e]at e'
  cases e';exact⟨⟨rfl,rfl⟩,rfl⟩
set_option maxHeartbeats 1600000 in
theorem zA6 {h:AHeap} {Or:List Int} {Pr:List (List Int)} {Cr:List (List (List Int))} {vOr vPr vCr:PV} (hRr:IsPr vOr vPr vCr Or Pr Cr) (mxr:MxP Or Pr Cr) {Oy:List Int} {Py:List (List Int)} {Cy:List (List (List Int))} {vOy vPy vCy:PV} (hRy:IsPr vOy vPy vCy Oy Py Cy) (mxy:MxP Oy Py Cy) (ha:∀o∈eads [.agg [vOr,vPr,vCr],.agg [vOy,vPy,vCy]],o<h.next):
  vm Tryz.prog if3.body (retP if3.res zC3) (PEnv.mk if3.params [.agg [vOr,vPr,vCr],.agg [vOy,vPy,vCy]]) (PHeap.start h):=by
 have h0r:=hRr.O.one;have h1r:=hRr.P.one;have h2r:=hRr.C.one;have h0y:=hRy.O.one;have h1y:=hRy.P.one;have h2y:=hRy.C.one;have havOr:∀o∈ead vOr,o<h.next:=fun o ho=>ha o (by simp [eads,ead,ho])
 have havPr:∀o∈ead vPr,o<h.next:=fun o ho=>ha o (by simp [eads,ead,ho])
 have havCr:∀o∈ead vCr,o<h.next:=fun o ho=>ha o (by simp [eads,ead,ho])
 have havOy:∀o∈ead vOy,o<h.next:=fun o ho=>ha o (by simp [eads,ead,ho])
 have havPy:∀o∈ead vPy,o<h.next:=fun o ho=>ha o (by simp [eads,ead,ho])
 have havCy:∀o∈ead vCy,o<h.next:=fun o ho=>ha o (by simp [eads,ead,ho])
 dsimp only [if3,eI,qD,eD,mI0,kI0,tI0,LI0,bI0,cI0,nI0,eI0,C1,C2,mD0,G0,gm0,oI0,vI0,wD0,R0,S0];simp only [pm0,pwA,seval,-iQ0,h0r,h1r,h2r,h0y,h1y,h2y];refine CallM.pure ?_;simp only [pm0,pwA,seval,-iQ0];refine zAX hRr mxr (by unfold left_;omega) fun rr hr=>?_
 rcases hr with rfl|⟨lr,szr⟩
 ·simp only [pm0,pwA,seval,-iQ0]
  rfl
 have hrr:¬rr<0:=by unfold left_ at lr;omega
 simp only [pm0,pwA,seval,-iQ0,hrr];refine CallM.pure ?_;simp only [pm0,pwA,seval,-iQ0];refine zAX hRy mxy lr fun ry hr=>?_
 rcases hr with rfl|⟨ly,szy⟩
 ·simp only [pm0,pwA,seval,-iQ0]
  rfl
 have hry:¬ry<0:=by unfold left_ at ly;omega
 simp only [pm0,pwA,seval,-iQ0,hry];refine ZJ hRr szr fun aOr aPr aCr aqr=>?_
 simp only [pm0,pwA,seval,-iQ0];refine ZJ hRy szy fun aOy aPy aCy aqy=>?_
 simp only [pm0,pwA,seval,-iQ0];refine zD8 szr aqr szy aqy fun k0 G0 w1 w2 c hz hG0 hL0=>?_
 obtain⟨hg1,szG⟩:=hz.bd szr szy;have szL:SzL ([]:List (List Int)):=⟨by simp,fun g hg=>by cases hg⟩
 simp only [pm0,pwA,seval,-iQ0,hG0.one,hL0.one,hL0.cells];refine CallM.topH fun t0 ht0 hb0 hbh=>?_
 have bw':=hbh ((PHeap.start h).next+2) [.int .i64 k0,w1,w2] (by simp only [pm0,pwA,seval,-iQ0])
 have bw1:∀o∈ead w1,o<t0:=fun o ho=>bw' o (by simp [eads,ead,ho])
 have bw2:∀o∈ead w2,o<t0:=fun o ho=>bw' o (by simp [eads,ead,ho])
 simp only [zGP,zI9]at ht0
 refine CallM.pure ?_;simp only [pm0,pwA,seval,-iQ0];refine zAq hRr szr fun xOr xPr xCr t1 qr or hh1=>?_
 simp only [zCx]at or hh1
 simp only [pm0,pwA,seval,-iQ0,qr.O.one,qr.P.one,qr.C.one,up_up];refine CallM.pure ?_;simp only [pm0,pwA,seval,-iQ0];refine zAq hRy szy fun xOy xPy xCy t2 qy oy hh2=>?_
 simp only [zCx]at oy hh2
 simp only [pm0,pwA,seval,-iQ0,qy.O.one,qy.P.one,qy.C.one,up_up];refine CallM.pure ?_;simp only [pm0,pwA,seval,-iQ0];refine zA5 szr qr szy qy fun k1 G1 g1 g2 c' t3 hz' hG1 hL1 og hh3=>?_
 simp only [zCx]at og hh3
 obtain⟨⟨rfl,rfl⟩,rfl⟩:=hz'.unique hz;have lg1:∀o∈ead g1,t2≤o∧o<t3:=fun o ho=>og.lt o (by simp [eads,ho])
 have lg2:∀o∈ead g2,t2≤o∧o<t3:=fun o ho=>og.lt o (by simp [eads,ho])
 have oC:Own t2 t3 (.agg [.int .i64 k1,g1,g2]):=⟨⟨trivial,og.wh⟩,og.nd,og.lt⟩;simp only [pm0,pwA,seval,-iQ0,hG1.one,hL1.one,hL1.cells];refine CallM.pure ?_;simp only [pm0,pwA,seval,-iQ0];refine QQ hG1 hL1 hG0 hL0 szG szL fun t ht=>?_
 obtain rfl:=ht.2 ⟨rfl,rfl,rfl⟩;simp only [pm0,pwA,seval,-iQ0];refine ZJ hRr szr fun b1r b2r b3r sr=>?_
 simp only [pm0,pwA,seval,-iQ0];refine QG qr sr szr fun t ht=>?_
 obtain rfl:=ht.2 ⟨rfl,rfl,rfl⟩;simp only [pm0,pwA,seval,-iQ0];refine ZJ hRy szy fun b1y b2y b3y sy=>?_
 simp only [pm0,pwA,seval,-iQ0];refine QG qy sy szy fun t ht=>?_
 obtain rfl:=ht.2 ⟨rfl,rfl,rfl⟩;simp only [pm0,pwA,seval,-iQ0];have hbtr:=zDi szr;have hbty:=zDi szy;refine CallM.mark' (by simp only [pm0,pwA,seval,-iQ0]) (zAJ (k:=1) qr or szr (by omega) (by omega)) ?_
 have kk0:=keysP (k:=1) qr or;generalize mkPr (1) xOr xPr xCr Or Pr Cr=L1 at *
 have m0_0:Go.Ab.rm L1 vOr=vOr:=qd kk0 fun o ho=>.inl (by have:=havOr o ho;omega)
 have m0_1:Go.Ab.rm L1 vPr=vPr:=qd kk0 fun o ho=>.inl (by have:=havPr o ho;omega)
 have m0_2:Go.Ab.rm L1 vCr=vCr:=qd kk0 fun o ho=>.inl (by have:=havCr o ho;omega)
 have m0_3:Go.Ab.rm L1 vOy=vOy:=qd kk0 fun o ho=>.inl (by have:=havOy o ho;omega)
 have m0_4:Go.Ab.rm L1 vPy=vPy:=qd kk0 fun o ho=>.inl (by have:=havPy o ho;omega)
 have m0_5:Go.Ab.rm L1 vCy=vCy:=qd kk0 fun o ho=>.inl (by have:=havCy o ho;omega)
 have m0_w1:Go.Ab.rm L1 w1=w1:=qd kk0 fun o ho=>.inl (by have:=bw1 o ho;omega)
 have m0_w2:Go.Ab.rm L1 w2=w2:=qd kk0 fun o ho=>.inl (by have:=bw2 o ho;omega)
 have m0_y:Go.Ab.rms L1 [xOy,xPy,xCy]=[xOy,xPy,xCy]:=zAB fun o ho=>qW.2 fun hm=>by have:=kk0 o hm;have:=oy.lt o ho;omega
 have m0_g1:Go.Ab.rm L1 g1=g1:=qd kk0 fun o ho=>.inr (by have:=lg1 o ho;omega)
 have m0_g2:Go.Ab.rm L1 g2=g2:=qd kk0 fun o ho=>.inr (by have:=lg2 o ho;omega)
 simp only [pm0,pwA,seval,-iQ0,m0_0,m0_1,m0_2,m0_3,m0_4,m0_5,m0_w1,m0_w2,m0_y,m0_g1,m0_g2];refine CallM.mark' (by simp only [pm0,pwA,seval,-iQ0]) (zAJ (k:=1+(totP Or Pr Cr:Int)) qy oy szy (by omega) (by omega)) ?_
 have kk1:=keysP (k:=1+(totP Or Pr Cr:Int)) qy oy;generalize mkPr (1+(totP Or Pr Cr:Int)) xOy xPy xCy Oy Py Cy=L2 at *
 have m1_0:Go.Ab.rm L2 vOr=vOr:=qd kk1 fun o ho=>.inl (by have:=havOr o ho;omega)
 have m1_1:Go.Ab.rm L2 vPr=vPr:=qd kk1 fun o ho=>.inl (by have:=havPr o ho;omega)
 have m1_2:Go.Ab.rm L2 vCr=vCr:=qd kk1 fun o ho=>.inl (by have:=havCr o ho;omega)
 have m1_3:Go.Ab.rm L2 vOy=vOy:=qd kk1 fun o ho=>.inl (by have:=havOy o ho;omega)
 have m1_4:Go.Ab.rm L2 vPy=vPy:=qd kk1 fun o ho=>.inl (by have:=havPy o ho;omega)
 have m1_5:Go.Ab.rm L2 vCy=vCy:=qd kk1 fun o ho=>.inl (by have:=havCy o ho;omega)
 have m1_w1:Go.Ab.rm L2 w1=w1:=qd kk1 fun o ho=>.inl (by have:=bw1 o ho;omega)
 have m1_w2:Go.Ab.rm L2 w2=w2:=qd kk1 fun o ho=>.inl (by have:=bw2 o ho;omega)
 have m1_g1:Go.Ab.rm L2 g1=g1:=qd kk1 fun o ho=>.inr (by have:=lg1 o ho;omega)
 have m1_g2:Go.Ab.rm L2 g2=g2:=qd kk1 fun o ho=>.inr (by have:=lg2 o ho;omega)
 have hn:¬(1+(totP Or Pr Cr:Int)+(totP Oy Py Cy:Int)<0):=by omega
 simp only [pm0,pwA,seval,-iQ0,m1_0,m1_1,m1_2,m1_3,m1_4,m1_5,m1_w1,m1_w2,m1_g1,m1_g2,hn];refine CallM.pure ?_;simp only [pm0,pwA,seval,-iQ0];refine QQ hG1 hL1 hG0 hL0 szG szL fun t ht=>?_
 obtain rfl:=ht.2 ⟨rfl,rfl,rfl⟩;simp only [pm0,pwA,seval,-iQ0];have htt:totCs G1 ([]:List (List Int))≤3459000000000000000:=by
  have h1:=zLq szG hg1;unfold totCs;simpa [totL]using h1
 obtain⟨wg,ag,rows,eg,hrows⟩:=id hG1;refine CallM.mark' (by simp only [pm0,pwA,seval,-iQ0]) (zCW (k:=1) eg hrows hL1 oC szG szL (by omega) (by omega)) ?_
 have kg:=zPZ (k:=1) eg hrows hL1 oC;obtain⟨hgm1,hgm2⟩:=rmCs (k:=1) eg hrows hL1 oC;generalize mkCs 1 rows g2 G1 []=Lg at *
 have mg_0:Go.Ab.rm Lg vOr=vOr:=qd kg fun o ho=>.inl (by have:=havOr o ho;omega)
 have mg_1:Go.Ab.rm Lg vPr=vPr:=qd kg fun o ho=>.inl (by have:=havPr o ho;omega)
 have mg_2:Go.Ab.rm Lg vCr=vCr:=qd kg fun o ho=>.inl (by have:=havCr o ho;omega)
 have mg_3:Go.Ab.rm Lg vOy=vOy:=qd kg fun o ho=>.inl (by have:=havOy o ho;omega)
 have mg_4:Go.Ab.rm Lg vPy=vPy:=qd kg fun o ho=>.inl (by have:=havPy o ho;omega)
 have mg_5:Go.Ab.rm Lg vCy=vCy:=qd kg fun o ho=>.inl (by have:=havCy o ho;omega)
 have mg_w1:Go.Ab.rm Lg w1=w1:=qd kg fun o ho=>.inl (by have:=bw1 o ho;omega)
 have mg_w2:Go.Ab.rm Lg w2=w2:=qd kg fun o ho=>.inl (by have:=bw2 o ho;omega)
 obtain⟨q1,mg_g1⟩:∃q1,Go.Ab.rm Lg g1=q1:=⟨_,rfl⟩
 obtain⟨q2,mg_g2⟩:∃q2,Go.Ab.rm Lg g2=q2:=⟨_,rfl⟩
 rw [mg_g1]at hgm1
 rw [mg_g2]at hgm2
 simp only [pm0,pwA,seval,-iQ0,mg_0,mg_1,mg_2,mg_3,mg_4,mg_5,mg_w1,mg_w2,mg_g1,mg_g2];refine CallM.pure ?_;simp only [pm0,pwA,seval,-iQ0];refine zAY hgm1 hgm2 szG szL (by omega) (by omega) ?_
 have hn1:¬(1+(totCs G1 ([]:List (List Int)):Int)<0):=by omega
 simp only [pm0,pwA,seval,-iQ0,hn1];refine ZJ hRr szr fun dOr dPr dCr dqr=>?_
 simp only [pm0,pwA,seval,-iQ0];refine ZJ hRy szy fun dOy dPy dCy dqy=>?_
 simp only [pm0,pwA,seval,-iQ0];refine zA5 szr dqr szy dqy fun k2 G2 f1 f2 c2 tz hz2 hG2 hL2 og2 hhz=>?_
 obtain⟨⟨rfl,rfl⟩,rfl⟩:=hz2.unique hz;simp only [pm0,pwA,seval,-iQ0,hG2.one,hL2.one,hL2.cells];refine CallM.pure ?_;simp only [pm0,pwA,seval,-iQ0];refine QQ hG2 hL2 hG0 hL0 szG szL fun t ht=>?_
 obtain rfl:=ht.2 ⟨rfl,rfl,rfl⟩;simp only [pm0,pwA,seval,-iQ0];refine CallM.pure ?_;simp only [pm0,pwA,seval,-iQ0];refine zAY hgm1 hgm2 szG szL (by omega) (by omega) ?_
 simp only [pm0,pwA,seval,-iQ0,hn1]
 rfl
end Go.Proofs
namespace Go.Proofs.YtjlpbpfaihhamaaGreatDoor
open Go.ChangeShapes Go.WideShapes Go.ChangeAt Go.RowKit Go.Ab Go.Joins Go.Lie Go.Proofs
theorem gdT : Tryz.prog.globalNamed "internal/strconv.uint64pow10" = some gdB := by kernel_rfl
theorem zPa:∃t e,(Tryz.prog.globals[gdB]?).map (·.type)=some t∧Tryz.prog.underlying t=some (.array 20 e)∧Tryz.prog.underlying e=some (.int .u64)∧Tryz.prog.cellsOf e=1∧Tryz.prog.cellsOf t=20:=by
 refine⟨193,148,by kernel_rfl,by kernel_rfl,by kernel_rfl,by kernel_rfl,by kernel_rfl⟩
theorem star : "*" ++ "errors.errorString" = "*errors.errorString" := by decide
theorem rowE (u : TypeId) (h : Tryz.prog.typeName? 3 u = some "*errors.errorString") : u = 189 :=
 typeName_ptr_named (nm := "errors.errorString") (by rw [star]; kernel_rfl) (by kernel_rfl) (by decide) u (by rw [star]; exact h)
theorem gR : Tryz.prog.globalNamed "strconv.ErrRange" = some gdR := by kernel_rfl
theorem gS : Tryz.prog.globalNamed "strconv.ErrSyntax" = some gdS := by kernel_rfl
theorem gRT:(Tryz.prog.globals[gdR]?).map (·.type)=some 88:=by kernel_rfl
theorem gST:(Tryz.prog.globals[gdS]?).map (·.type)=some 88:=by kernel_rfl
theorem cE:Tryz.prog.cellsOf 191=1:=by kernel_rfl
theorem cS:Tryz.prog.cellsOf 9=1:=by kernel_rfl
theorem zJh {W:World} (h:laidMetH Tryz.prog Rows.fnExactProveDifferentRow.laid W) (hsh:W.ShapedOpen Tryz.prog):Gd W.heap.size W:=by
 rw [MakeChecks.laidMetH_plain _ _ _ (by kernel_rfl)]at h
 have h2 : laidMet Tryz.prog (("internal/strconv.uint64pow10", Lib.tabData .u64 gdL) :: ("unicode/utf8.acceptRanges", Rows.laid_unicode_utf8_acceptRanges) :: ("strconv.ErrRange", Rows.laid_strconv_ErrRange) :: ("strconv.ErrSyntax", Rows.laid_strconv_ErrSyntax) :: [("unicode/utf8.first", Rows.laid_unicode_utf8_first)]) W := laidMet.tail (laidMet.tail h);have h4:=laidMet.tail (laidMet.tail h2);have h5:=laidMet.tail h4;obtain⟨t,e,h1,h2',h3,h4',h5'⟩:=zPa;have hT:=Lib.tabIs_of_head gdT h1 h2' h3 h4' h5' h2;obtain⟨a0,s0,hv0,hc0,-,-⟩:=laid_sentinel h4 gR gRT Tryz.underlying88 rowE Tryz.underlying189 Tryz.underlying191 rfl rfl Tryz.underlying9 cE cS;obtain⟨a1,s1,hv1,hc1,-,-⟩:=laid_sentinel h5 gS gST Tryz.underlying88 rowE Tryz.underlying189 Tryz.underlying191 rfl rfl Tryz.underlying9 cE cS;have hg0:W.cell? ⟨gdR,0,none⟩=some (.iface 189 (.pointer (some a0))):=by simpa using World.var?_cell gR hv0 0
 have hg1:W.cell? ⟨gdS,0,none⟩=some (.iface 189 (.pointer (some a1))):=by simpa using World.var?_cell gS hv1 0
 have hM:∃m,W.cell? ⟨gdM,0,none⟩=some (.int .i64 m):=cell_of_shapedOpen_int (P:=Tryz.prog) (g:=gdM) (t:=3) (zero:=#[.int .i64 0]) hsh (of_decide_eq_true (by kernel_rfl)) (by kernel_rfl) rfl (by kernel_rfl) (by kernel_rfl) Tryz.underlying3
 unfold Lib.TabIs World.var? at hT
 rw [gdT]at hT
 simp only [Option.bind_some]at hT
 split at hT
 ·rename_i cs ty fz hg
  cases hT;exact⟨(Array.getElem?_eq_some_iff.1 hg).1,⟨ty,fz,hg⟩,hM,⟨_,_,hg1⟩,⟨_,_,hg0⟩⟩
 ·cases hT
section
variable {H:Type} {enc:TypeId×Value→H}
theorem zAV {a:Assume} {C:Checked} {os:Os} {f:FuncId} {fn:Func} {s:ChangeSpec} {conds:List PathCond} {apart fresh handsOn again:Bool} {X:World→Array Value→Prop}
  (hX:∀(w w':World) (args:Array Value),w.heap=w'.heap→X w args→X w' args)
  (own:ownKnob C.prog.godebug=none) (started:os.Started) (noInit:C.prog.inits.idxOf? f=none) (hfn:C.prog.funcs[f]? = some fn)
  (witness:∃(w:World) (tape:Tape) (i:Input),w.os=os∧(w.forCall tape i).Shaped C.prog∧i.vars=[]∧Input.okWide C.prog (w.forCall tape i) .any w.heap.size f i∧
   ((s.pre enc C.prog fn conds apart (w.forCall tape i).memory i.args∧X (w.forCall tape i).memory i.args)∧sizedMet enc C.prog fn (OpenSpec.ofChange s) apart (w.forCall tape i).memory i.args)∧a.holds C.prog (lone (Frame.enter C.prog f i.args .normal) [] (w.forCall tape i)))
  (contract:∀(W:World) (base:Nat) (args:Array Value) (ds gs:List (DataW H)) (before:List MemPlace),
   (∀(j:Nat) t v,fn.params[j]? = some t→args[j]? = some v→Value.okWide C.prog W .any base t v)→
   DataW.Whole enc C.prog fn.params.toList s.vars apart W args.toList ds gs before→X W args→W.ShapedOpen C.prog→
   Calls C.prog f args W fun e W'=>∃v,e=.returned v∧s.post enc C.prog fn apart fresh handsOn again W args v W'):
  ReturnsInHanded a C os f .any (fun w args=>(s.pre enc C.prog fn conds apart w args∧X w args)∧sizedMet enc C.prog fn (OpenSpec.ofChange s) apart w args) (s.post enc C.prog fn apart fresh handsOn again):=by
 refine returnsInHanded_of_calls own started noInit witness ?_;intro w tape i _ hsh _ hok hpre hholds;obtain⟨_,_,_,fn',hfn',_,_,_,_,hval⟩:=hok;have e:fn'=fn:=Option.some.inj (hfn'.symm.trans hfn);subst e;obtain⟨⟨⟨ds,gs,before,hw,hc⟩,hx⟩,hz⟩:=hpre;have hw':=DataW.Whole.of_heap (w':=w.forCall tape i) (by rfl) hw
 refine(contract (w.forCall tape i) w.heap.size i.args ds gs before hval hw' (hX _ _ _ (by rfl) hx) hsh).mono fun e W' ⟨v,he,hp⟩=>?_
 subst he;exact ChangeSpec.post_blind hp
end
set_option maxRecDepth 100000 in
theorem zBM {H:Type} {enc:TypeId×Value→H} (W:World) (base:Nat) (args:Array Value) (ds gs:List (DataW H)) (before:List MemPlace)
  (hval:∀(j:Nat) t v,Tryz.f3.params[j]? = some t→args[j]? = some v→Value.okWide Tryz.prog W .any base t v)
  (hW:DataW.Whole enc Tryz.prog Tryz.f3.params.toList Rows.fnExactProveDifferentSpec.vars false W args.toList ds gs before) (hL:laidMetH Tryz.prog Rows.fnExactProveDifferentRow.laid W) (hsh:W.ShapedOpen Tryz.prog):
  Calls Tryz.prog 3 args W fun e W'=>∃v,e=.returned v∧Rows.fnExactProveDifferentSpec.post enc Tryz.prog Tryz.f3 false true false false W args v W':=by
 have hW':=hW;obtain⟨p,q,hA0,hV,rfl,hfz,hnd⟩:=hW;have hA:DataW.TrodAll enc Tryz.prog W 0 (fun _=>true) true Tryz.f3.params.toList args.toList ds p:=hA0
 rw [Tryz.params3]at hA hval
 obtain⟨v0,vs0,d0,ds0,p0,q0,hargs,rfl,rfl,t0,r0⟩:=trodAll_cons hA;obtain⟨v1,vs1,d1,ds1,p1,q1,rfl,rfl,rfl,t1,r1⟩:=trodAll_cons r0;obtain⟨rfl,rfl,rfl⟩:=trodAll_nil r1;obtain rfl:args = #[v0,v1]:=by cases args;simp_all
 obtain⟨j0,h0,vO0,vP0,vC0,O0,W0,C0,m0,l0,e0,i0,o0,R0,x0⟩:=layPr (MR.empty W (zJh hL hsh)) (hval 0 26 v0 rfl rfl) t0;obtain⟨j1,h1,vO1,vP1,vC1,O1,W1,C1,m1,l1,e1,i1,o1,R1,x1⟩:=layPr (m0) (hval 1 26 v1 rfl rfl) t1;have ac:=zK9 (h:=h1) mix Tryz.func3 cf3 (args:=[.agg [vO0,vP0,vC0],.agg [vO1,vP1,vC1]]) rfl m1.wf ⟨e1.vok o0,o1,trivial⟩ fun ha=>zA6 R0 x0 R1 x1 ha
 refine(ac.calls m1 (cargs:=#[v0,v1]) ⟨_,_,rfl,VI.mono l1 _ _ i0,_,_,rfl,i1,rfl⟩).mono fun e W' ⟨he,hb⟩=>?_
 exact⟨_,he,zFl rfl laidOut (by rw [Tryz.params3];intro t ht;simp only [List.mem_cons,List.not_mem_nil,or_false]at ht;rcases ht with rfl | rfl<;>exact⟨by kernel_rfl,of_decide_eq_true (by kernel_rfl)⟩) (by kernel_rfl) Tryz.underlying4 rfl hW' hb⟩
set_option maxRecDepth 100000 in
theorem zBl (os:Os) (started:os.Started) (H:Type) (enc:TypeId×Value→H):
  ReturnsInHanded {} Tryz.checked os 3 .any (fun w args=>(Rows.fnExactProveDifferentSpec.pre enc Tryz.prog Tryz.f3 Rows.fnExactProveDifferentRow.domain false w args∧laidMetH Tryz.prog Rows.fnExactProveDifferentRow.laid w)∧sizedMet enc Tryz.prog Tryz.f3 (OpenSpec.ofChange Rows.fnExactProveDifferentSpec) false w args)
   (Rows.fnExactProveDifferentSpec.post enc Tryz.prog Tryz.f3 false true false false):=by
 refine zAV (C:=Tryz.checked) (X:=fun w _=>laidMetH Tryz.prog Rows.fnExactProveDifferentRow.laid w) (fun _ _ _ hh h=>h.of_heap hh) own started (by kernel_rfl) Tryz.func3
  (ChangeSpec.witness_shaped (enc:=enc) (C:=Tryz.checked) (os:=os) (X:=fun w _=>laidMetH Tryz.prog Rows.fnExactProveDifferentRow.laid w) false (World.laidAll Tryz.prog os Rows.fnExactProveDifferentRow.laid) #[.agg #[.slice none 0 0,.slice none 0 0,.slice none 0 0],.agg #[.slice none 0 0,.slice none 0 0,.slice none 0 0]] 8 (World.laidAll_os _ _ _)
   (World.shaped_of_ZipB (by kernel_rfl) (by kernel_rfl)) (by kernel_rfl) (by kernel_rfl) (by kernel_rfl)
   (by rw [MakeChecks.laidMetH_plain _ _ _ (by kernel_rfl)];exact laidMet_laidAll _ (by kernel_rfl) (by kernel_rfl))) ?_
 intro W base args ds gs before hval hW hL hsh;exact zBM W base args ds gs before hval hW hL hsh
set_option maxRecDepth 100000 in
theorem Qs:Tryz.prog.funcNamed Rows.fnExactProveDifferentRow.func=some 3:=by kernel_rfl
set_option maxRecDepth 100000 in
set_option maxHeartbeats 1600000 in
theorem zBm:joinedFacts Tryz.prog 3 Tryz.f3 Rows.fnExactProveDifferentSpec Rows.fnExactProveDifferentRow=true:=by
 unfold joinedFacts;simp only [Bool.and_eq_true]
 repeat' apply And.intro
 all_goals (as_aux_lemma=>kernel_rfl)
theorem zB8:Rows.FnExactProveDifferentSaid:=
 OpenClaim.holds_of_wide 3 Tryz.f3 rfl rfl rfl rfl rfl rfl rfl ⟨rfl,rfl,rfl,rfl,rfl⟩ rfl rfl rfl rfl rfl Qs Tryz.func3 zBm
  (of_decide_eq_true (by kernel_rfl)) (by unfold Func.isWrapper;first | (rw [if_pos (by decide +kernel)];kernel_rfl) | (rw [if_neg (by decide +kernel)];exact⟨rfl,rfl⟩))
  (fun os started H enc _=>zBl os started H enc)
theorem proveDifferentProved:Rows.FnExactProveDifferentCardSaid:=
 Claim7.holds_tied_plain_at .later [] [.data, .data, .data, .data, .sentinel, .sentinel, .pinned] true (true, "0a31a0d7d6fe51271b6f34c8c5ce5ff26e754b6bb8f8bd9af030f01f45312cf8") true zB8 (fun _ h => by cases h) (by kernel_rfl) (fun _ h => by cases h) fnExactProveDifferent_row_tie rfl ⟨rfl, rfl⟩ (by kernel_rfl) rfl
  (fun f fn hf hfn=>by
   obtain rfl:f=3:=Option.some.inj (Qs.symm.trans hf) |>.symm;obtain rfl:fn=Tryz.f3:=(Option.some.inj (Tryz.func3.symm.trans hfn)).symm;exact⟨by kernel_rfl,fun j t ht=>by
    rw [Tryz.params3]at ht
    have hm:t∈[26,26]:=by simpa using Array.mem_of_getElem? ht
    have hall:([26,26].all fun u=>!Tryz.prog.wantsStandIn u)=true:=by kernel_rfl
    exact(show Tryz.prog.wantsStandIn t=false by simpa using List.all_eq_true.1 hall t hm)⟩)
  (by kernel_rfl)
end Go.Proofs.YtjlpbpfaihhamaaGreatDoor
