/- . -/
import Derived.Test.YtjlpbpfaihhamaaGreatAP41
open Nat renaming le_refl→vM
open Int renaming reduceNatCast'->ah
set_option maxRecDepth 100000
namespace Go.Grp
end Go.Grp
set_option linter.unusedSimpArgs false
set_option linter.unusedVariables false
set_option linter.unusedSectionVars false
namespace Go.Proofs
open Go.Ab Go.Lie Go.Grp
variable{σ h:PHeap}{K:PV->PHeap->Prop}{O O' w:List Int}{P P':List (List Int)}{C C':List (List (List Int))}{vO vP vC bV bQ bW vR v:PV}{R:List (List Int)}{sp sq t:Nat}
theorem zHp{k0:Nat}(s:Shp O P C)(hs:PtrG σ sp vO vP vC)(hO:FI vO O)(dh:k0<=1000000)(hk:∀v,FI v (dgs O O.length k0)->v.cells=[v]->K v σ):zA Tryz.prog 149 [.ptr sp 0,.int .i64 k0] σ K:=
 zA.fz (l:=O.length) (e:=1) (cs:=pis (dgs O O.length k0)) (fun K' k'=>zGd s hs hO dh (k' _ (.inr rfl))) (zK _ _) fun o cap=>hk _ ⟨true,.sl o 0 O.length cap,by rw[ZK]⟩ rfl
theorem PAcc.sb_id{h':PHeap}{b m s:Nat}{rows:List PV}(a:PAcc b 1 h' v m rows)(hs:h'.next<=s)(o:Nat)(cs:List PV):sb s o cs v=v:=by
 rcases a with ⟨rfl,rfl,rfl⟩|⟨s',cap,rfl,hc,q2,q3,q4,q5⟩
 ·rfl
 ·simp only[sb]
  rw[if_neg (by rintro⟨e,_⟩;omega)]
open Classical in
set_option maxHeartbeats 1600000 in
theorem zGS(hs:PtrG σ sp vO vP vC)(hR:IsPr vO vP vC O P C)(sz:SzP O P C)(iG:PtrG σ sq bV bQ bW)(bc:IsPr bV bQ bW O' P' C')(jZ:SzP O' P' C')
  (hk:∀(a:AV) (m:Nat) (rows:List PV),(m:Int)=homK O P C O' P' C'->K (.tup [.fz true a m rows,.int .i64 (homC O P C O' P' C')]) σ):zA Tryz.prog 141 [.ptr sp 0,.ptr sq 0] σ K:=by
 have g0:=hR.O.one;have g1:=hR.P.one;have g2:=hR.C.one;have q0:=bc.O.one;have q1:=bc.P.one;have q2:=bc.C.one;have r1:σ.rd sp 0 3=some [vO,vP,vC]:=by rw[zb hs.obj];rfl
 have r2:σ.rd sq 0 3=some [bV,bQ,bW]:=by rw[zb iG.obj];rfl
 have bad:∀{c:Int},homC O P C O' P' C'=c->c≠0->Gh σ K (.tup [.fz true .nils 0 [],.int .i64 c]) σ:=fun {c} hc h0=>by
  have e:homK O P C O' P' C'=0:=by unfold homK;rw[if_neg (by rw[hc];exact h0)]
  exact Gh.fin0 (Keep.refl σ) ⟨trivial,trivial,trivial⟩ (hc ▸ hk .nils 0 [] (by rw[e];decide))
 refine zA.gh ?_;refine zB mix Tryz.func141 ?_;simp only[Z3,seval,-ah,r1,g0,g1,g2];refine zq hR sz fun t ht=>?_
 cases t with
 |false=>
  simp only[Z3,seval,-ah];exact bad (by unfold homC;rw[if_neg fun h=>by have:=ht.2 h.1;cases this]) (by decide)
 |true=>
 have gp:=ht.1 rfl;simp only[Z3,seval,-ah,r2,q0,q1,q2];refine zq bc jZ fun t ht=>?_
 cases t with
 |false=>
  simp only[Z3,seval,-ah];exact bad (by unfold homC;rw[if_neg fun h=>by have:=ht.2 h.2;cases this]) (by decide)
 |true=>
 have gq:=ht.1 rfl;have gL:LG O P C:=⟨gp.1,gp.2⟩;have g':LG O' P' C':=⟨gq.1,gq.2⟩;have bJ:=gL.s.le;have s':=g'.s;have hN:=zEE gq.1;obtain⟨qq,iV⟩:=QH s';have mq:=hR;obtain⟨⟨w0,a0,rfl⟩,jH,jJ⟩:=hR;have j4:σ.rd1 sp 0=some (.fz w0 a0 O.length (pis O)):=by rw[zF hs.obj];rfl
 have m4:homC O P C O' P' C'=if 4096<tpF (nEl O') O.length then 3 else 0:=by unfold homC;rw[if_pos ⟨gp,gq⟩]
 simp only[Z3,seval,-ah];refine QC s' iG bc.O ?_;rw[qq];simp only[Z3,seval,-ah,j4];refine zC (fun m vs h=>∃(i:Nat),i<=O.length∧m=O.length-i∧vs=[.ptr sp 0,.ptr sq 0,.int .i64 (nEl O':Nat),.int .i64 (tpF (nEl O') i:Nat),.int .i64 O.length,.int .i64 i]∧σ=h∧tpF (nEl O') i<=4096) O.length ?_ ?_
 ·exact⟨0,Nat.zero_le _,rfl,rfl,rfl,by simp[tpF]⟩
 rintro m vs h ⟨i,hi,rfl,rfl,rfl,hle⟩
 simp only[Z3,seval,-ah];refine iteI (fun ai=>?_) fun aE=>?_
 ·have fO:=zAF hN (i+1)
  have e:tpF (nEl O') (i+1)=tpF (nEl O') i*nEl O':=by rw[tpF,if_pos hle]
  have wm:IntKind.i64.wrap ((tpF (nEl O') i:Int)*(nEl O':Int))=((tpF (nEl O') (i+1):Nat):Int):=by
   rw[<-Int.natCast_mul,<-e,wrap64 (by omega) (by omega)]
  by_cases hc:4096<tpF (nEl O') (i+1)
  ·have k7:(4096:Int)<((tpF (nEl O') (i+1):Nat):Int):=by omega
   simp only[Z3,seval,-ah,wm,k7];exact bad (by rw[m4,if_pos (zFk hc _ (by omega))]) (by decide)
  ·have k7:¬(4096:Int)<((tpF (nEl O') (i+1):Nat):Int):=by omega
   simp only[Z3,seval,-ah,wm,k7,wrapS ai (by omega:O.length<=4611686018427387904)]
   exact⟨_,by omega,i+1,by omega,rfl,rfl,by omega⟩
 obtain rfl:i=O.length:=by omega
 have fe:homC O P C O' P' C'=0:=by rw[m4,if_neg (by omega)]
 have dC:homK O P C O' P' C'=(homN O P C O' P' C' (tpF (nEl O') O.length):Int):=by unfold homK;rw[if_pos fe]
 rw[dC,fe]at hk
 simp only[Z3,seval,-ah,r1,g1,g2];refine ql gp.1 sz mq fun vR R lC ⟨bE,aj⟩ fQ=>?_
 obtain⟨wR,aR,rR,rfl,lD⟩:=lC;simp only[Z3,seval,-ah];refine qK (fun m vs h'=>∃(k:Nat) (v:PV) (rows:List PV) (Ds:List (List (List Int))),k<=tpF (nEl O') O.length∧m=tpF (nEl O') O.length-k∧vs=[.ptr sp 0,.ptr sq 0,.int .i64 (nEl O':Nat),.fz wR aR R.length rR,v,.int .i64 (tpF (nEl O') O.length:Nat),.int .i64 k]∧Keep σ h'∧PAcc σ.next 1 h' v (homN O P C O' P' C' k) rows∧All2 FII rows Ds) (tpF (nEl O') O.length) ?_ ?_
 ·exact .here ⟨0,_,[],[],Nat.zero_le _,rfl,rfl,Keep.refl σ,PAcc.nil _ _ _,All2.nil _⟩
 rintro m vs h' ⟨k,v,rows,Ds,bU,rfl,rfl,aq,ha,bw⟩
 have one:=ha.one;simp only[Z3,seval,-ah,one];refine iteI (fun ai=>?_) fun aE=>?_
 rotate_left
 ·obtain rfl:k=tpF (nEl O') O.length:=by omega
  rcases ha with ⟨rfl,e1,e2⟩|⟨s,cap,rfl,hc,p2,p3,p4,p5⟩
  ·exact Gh.fin0 aq ⟨trivial,trivial,trivial⟩ (hk _ 0 [] (by rw[e1]))
  ·refine Gh.freeze (s:=s) (cs:=rows) p2 p4 (bw.bL 0) fun o z1 z2 z3=>?_
   simp only[sb,sbs,hc.ok,and_self,if_true];exact Gh.fin0 ((aq.kill p4).up (by simp only[PHeap.kill];omega)) ⟨trivial,trivial,trivial⟩ (hk _ _ _ rfl)
 have ak:(k:Int)<((tpF (nEl O') O.length:Nat):Int):=by omega
 have uc:h'.rd1 sp 0=some (.fz w0 a0 O.length (pis O)):=by rw[zF (by rw[aq.obj _ hs.lt];exact hs.obj)];rfl
 have y6:IntKind.i64.wrap ((O.length:Int)-1)=(O.length:Int)-1:=wrap64 (by omega) (by omega)
 simp only[Z3,seval,-ah,one,ai,ak,uc,y6];refine⟨⟨by simp;omega,by omega⟩,?_⟩
 have xn:=iG.keep aq;refine qK (fun m vs g=>∃(c tj:Nat) (vI:PV),c<=O.length∧m=c∧vs=[.ptr sp 0,.ptr sq 0,.int .i64 (nEl O':Nat),.fz wR aR R.length rR,v,.int .i64 tj,vI,.int .i64 ((c:Int)-1),.int .i64 (tpF (nEl O') O.length:Nat),.int .i64 k]∧Keep h' g∧
   ((1<=c∧vI=.sl h'.next 0 O.length (.known O.length)∧h'.next<g.next∧∃(cs:List PV) (gH:List Nat),g.obj h'.next=some (List.replicate c (PV.fz true AV.nils 0 [])++cs)∧All2 FI cs (gH.map (dgs O' O'.length))∧c+gH.length=O.length∧tpD (nEl O') c tj++gH=tpD (nEl O') O.length k∧tj<=k)∨(c=0∧FII vI (tpI O' (nEl O') O.length k)))) O.length ?_ ?_
 ·have nv:(List.replicate O.length (PV.fz true AV.nils 0 [])).length=O.length:=List.length_replicate
  by_cases h0:O.length=0
  ·refine .fz h'.next (List.replicate O.length (PV.fz true AV.nils 0 [])) (by rw[zH,if_pos rfl]) (by rw[h0];trivial) fun o=>?_
   have bZ:capOK (.known O.length) O.length=true:=by simp[capOK]
   refine .here ⟨0,k,.fz true (.sl o 0 O.length (.known O.length)) O.length (List.replicate O.length (PV.fz true AV.nils 0 [])),Nat.zero_le _,h0,?_,(zD h' _).kill (vM _),.inr ⟨rfl,?_⟩⟩
   ·show sbs h'.next o _ [PV.ptr sp 0,.ptr sq 0,.int .i64 (nEl O':Nat),.fz wR aR R.length rR,v,.int .i64 k,.sl h'.next 0 O.length (.known O.length),.int .i64 ((O.length:Int)-1),.int .i64 (tpF (nEl O') O.length:Nat),.int .i64 k]=_
    simp only[sbs,sb,PAcc.sb_id ha (vM _),bZ,and_self,if_true];rw[show((O.length:Int)-1)=((0:Nat):Int)-1 by omega]
   ·have e:tpI O' (nEl O') O.length k=[]:=by rw[h0];rfl
    rw[e,h0];exact⟨true,_,[],rfl,All2.nil _⟩
  ·exact .here ⟨O.length,k,_,vM _,rfl,rfl,zD h' _,.inl ⟨by omega,rfl,Nat.lt_succ_self _,[],[],by rw[List.append_nil,zH,if_pos rfl],All2.nil _,rfl,by rw[List.append_nil],vM _⟩⟩
 rintro m vs g ⟨c,tj,vI,hc,rfl,rfl,me,uD⟩
 rcases uD with ⟨jF,rfl,jz,cs,gH,dH,aj,hlen,mj,CE⟩|⟨rfl,hD⟩
 ·obtain⟨c,rfl⟩:∃c',m=c'+1:=⟨m-1,by omega⟩
  have cK:cs.length=gH.length:=by have:=aj.1;rwa[List.length_map]at this
  have e:((c+1:Nat):Int)-1=(c:Int):=by omega
  have tL:¬((nEl O':Nat):Int)=0:=by omega
  have et:(tj:Int).tmod (nEl O':Int)=((tj % nEl O':Nat):Int):=rfl;have ed:(tj:Int).tdiv (nEl O':Int)=((tj / nEl O':Nat):Int):=rfl;have fY:tj / nEl O'<=tj:=Nat.div_le_self _ _;have cN:tj % nEl O'<nEl O':=Nat.mod_lt _ (by omega)
  have Bp:=zAF hN O.length;have o9:∀q:Nat,q<=tj->IntKind.i64.wrap (q:Int)=(q:Int):=fun q hq=>wrap64 (by omega) (by omega)
  have lh:=o9 _ fY;have jo:IntKind.i64.wrap ((c:Int)-1)=(c:Int)-1:=wrap64 (by omega) (by omega)
  rw[e];have ml:c<O.length:=by omega
  have ef:(c:Int)<(O.length:Int):=by omega
  have c0:(0:Int)<=(c:Int):=by omega
  simp only[Z3,seval,-ah,one,c0,tL,et];refine zHp s' (xn.keep me) bc.O (by omega) fun v1 hv CA=>?_
  have Ag:=hv.one;have hw:g.wr h'.next c [v1]=some (g.set h'.next (List.replicate c (PV.fz true AV.nils 0 [])++(v1::cs))):=by
   rw[ZZ dH,if_pos ⟨by simp,by simp[Ag]⟩]
   congr 2
   rw[List.take_append_of_le_length (by simp),List.take_replicate,show min c (c+1)=c by omega,List.drop_append_of_le_length (by simp)]
   simp[List.drop_replicate]
  have k3:Keep h' (g.set h'.next (List.replicate c (PV.fz true AV.nils 0 [])++(v1::cs))):=me.set (vM _) _;have o3:(g.set h'.next (List.replicate c (PV.fz true AV.nils 0 [])++(v1::cs))).obj h'.next=some (List.replicate c (PV.fz true AV.nils 0 [])++(v1::cs)):=by simp[PHeap.set]
  have n3:(g.set h'.next (List.replicate c (PV.fz true AV.nils 0 [])++(v1::cs))).next=g.next:=rfl;have cW:All2 FI (v1::cs) ((tj % nEl O'::gH).map (dgs O' O'.length)):=by
   refine⟨by simp[cK],fun k a b ha hb=>?_⟩
   cases k with
   |zero=>
    simp only[List.map_cons,List.getElem?_cons_zero,Option.some.injEq]at ha hb
    subst ha;subst hb;exact hv
   |succ k=>
    simp only[List.map_cons,List.getElem?_cons_succ]at ha hb
    exact aj.2 k a b ha hb
  have mY:tpD (nEl O') c (tj / nEl O')++(tj % nEl O'::gH)=tpD (nEl O') O.length k:=by rw[<-mj,tpD,List.append_assoc];rfl
  simp only[Z3,seval,-ah,one,Ag,CA,ml,ef,hw];generalize g.set h'.next (List.replicate c (PV.fz true AV.nils 0 [])++(v1::cs))=G at *
  simp only[Z3,seval,-ah,one,tL,ed,lh,jo];refine⟨c,by omega,?_⟩
  by_cases eE:c=0
  ·subst eE
   have oG:G.obj h'.next=some (v1::cs):=by simpa using o3
   refine .fz h'.next (v1::cs) oG (cW.bI 0) fun o=>?_
   have bZ:capOK (.known O.length) O.length=true:=by simp[capOK]
   refine .here ⟨0,tj / nEl O',.fz true (.sl o 0 O.length (.known O.length)) O.length (v1::cs),Nat.zero_le _,rfl,?_,k3.kill (vM _),.inr ⟨rfl,true,.sl o 0 O.length (.known O.length),v1::cs,by rw[zA5],?_⟩⟩
   ·show sbs h'.next o _ [PV.ptr sp 0,.ptr sq 0,.int .i64 (nEl O':Nat),.fz wR aR R.length rR,v,.int .i64 (tj / nEl O':Nat),.sl h'.next 0 O.length (.known O.length),.int .i64 (((0:Nat):Int)-1),.int .i64 (tpF (nEl O') O.length:Nat),.int .i64 k]=_
    simp only[sbs,sb,PAcc.sb_id ha (vM _),bZ,and_self,if_true]
   ·have e5:(tj % nEl O'::gH)=tpD (nEl O') O.length k:=by simpa [tpD]using mY
    rw[e5]at cW
    exact cW
  ·exact .here ⟨c,tj / nEl O',_,by omega,rfl,rfl,k3,.inl ⟨by omega,rfl,by omega,v1::cs,tj % nEl O'::gH,o3,cW,by simp only[List.length_cons];omega,mY,by omega⟩⟩
 have n1:¬((0:Int)<=((0:Nat):Int)-1):=by omega
 have dG:=hD.one;have DL:vI.cells=[vI]:=by obtain⟨w,a,r,rfl,_⟩:=hD;rfl
 have oD:=aq.trans me;have Bn:=ha.keep me;simp only[Z3,seval,-ah,one,n1,dG];refine zC3 g' (iG.keep oD) bc ⟨wR,aR,rR,rfl,lD⟩ (fun r hr=>by rw[zA5];exact(bE r hr).facts gL.s) fQ hD (by rw[zA5];omega) (zJR s') fun t ht=>?_
 have uH:=zEq (O:=O) (P:=P) (C:=C) (O':=O') (P':=P') (C':=C') k;have Bp:=zAF hN O.length;have wk:IntKind.i64.wrap ((k:Int)+1)=((k+1:Nat):Int):=by rw[wrap64 (by omega) (by omega)];omega
 cases t with
 |true=>
  have e:homN O P C O' P' C' (k+1)=homN O P C O' P' C' k+1:=by rw[homN,if_pos (show zB7 O P C O' P' C' (tpI O' (nEl O') O.length k) from fun r hr=>ht.1 rfl r (aj r hr))]
  simp only[Z3,seval,-ah,one,dG,DL];refine PAcc.push (bytes:=24) (σb:=σ) oD Bn (by omega) (by omega) fun v2 h2 k2 a2=>?_
  have j9:=a2.one;simp only[Z3,seval,-ah,j9,wk];refine⟨_,by omega,.here ⟨k+1,v2,rows++[vI],Ds++[tpI O' (nEl O') O.length k],by omega,rfl,rfl,k2,by rw[e];exact a2.acc,bw.snoc hD⟩⟩
 |false=>
  have e:homN O P C O' P' C' (k+1)=homN O P C O' P' C' k:=by rw[homN,if_neg fun h=>by have:=ht.2 fun r hr=>h r (bE r hr);cases this];rfl
  simp only[Z3,seval,-ah,one,wk];exact⟨_,by omega,.here ⟨k+1,v,rows,Ds,by omega,rfl,rfl,oD,by rw[e];exact Bn,bw⟩⟩
theorem zCd(hR:IsPr vO vP vC O P C)(sz:SzP O P C)(bc:IsPr bV bQ bW O' P' C')(jZ:SzP O' P' C')(hk:K (.tup [.int .i64 (homK O P C O' P' C'),.int .i64 (homC O P C O' P' C')]) σ):zA Tryz.prog 84 [.agg [vO,vP,vC],.agg [bV,bQ,bW]] σ K:=by
 have g0:=hR.O.one;have g1:=hR.P.one;have g2:=hR.C.one;have q0:=bc.O.one;have q1:=bc.P.one;have q2:=bc.C.one;refine zA.gh ?_;refine zB mix Tryz.func84 ?_;simp only[Z3,seval,-ah,g0,g1,g2,q0,q1,q2];generalize hH:(σ.new [vO,vP,vC]).new [bV,bQ,bW]=H;have kH:Keep σ H:=by rw[<-hH];exact(zD _ _).new _
 have o1:H.obj σ.next=some [vO,vP,vC]:=by rw[<-hH];simp only[Z3,seval,-ah]
 have o2:H.obj (σ.next+1)=some [bV,bQ,bW]:=by rw[<-hH];simp only[Z3,seval,-ah]
 have hn:H.next=σ.next+2:=by rw[<-hH];rfl
 clear hH;refine zGS ⟨o1,by omega⟩ hR sz ⟨o2,by omega⟩ bc jZ fun a m rows hm=>?_
 simp only[Z3,seval,-ah,hm];exact Gh.fin0 kH ⟨trivial,trivial,trivial⟩ hk
end Go.Proofs
namespace Go.Proofs
open Go.Ab Go.Lie Go.Grp
variable{k:Int}{G:List Pre}{L:List (List Int)}
abbrev pre0:Pre:=([],[],[])
open Classical in
noncomputable def resC(k:Int)(G:List Pre)(L:List (List Int)):Bool×Int:=
 if ¬ZF k G L then(false,1)else
 if k=1 then(decide (nEl (G.getD 0 pre0).1<=128∧realP (G.getD 0 pre0).1 (G.getD 0 pre0).2.1 (G.getD 0 pre0).2.2 L),if nEl (G.getD 0 pre0).1<=128 then 0 else 3)
 else if k=2 then(decide (memP (G.getD 0 pre0).1 (G.getD 0 pre0).2.1 (G.getD 0 pre0).2.2 L),0)
 else if k=3 then(decide (outP (G.getD 0 pre0).1 (G.getD 0 pre0).2.1 (G.getD 0 pre0).2.2 L),0)
 else if k=4 then(decide (isoP (G.getD 0 pre0).1 (G.getD 0 pre0).2.1 (G.getD 0 pre0).2.2 (G.getD 1 pre0).1 (G.getD 1 pre0).2.1 (G.getD 1 pre0).2.2 L),0)
 else if k=6 then(decide (splP (G.getD 0 pre0).1 (G.getD 0 pre0).2.1 (G.getD 0 pre0).2.2 L),0)
 else
  if homC (G.getD 0 pre0).1 (G.getD 0 pre0).2.1 (G.getD 0 pre0).2.2 (G.getD 2 pre0).1 (G.getD 2 pre0).2.1 (G.getD 2 pre0).2.2=1∨homC (G.getD 1 pre0).1 (G.getD 1 pre0).2.1 (G.getD 1 pre0).2.2 (G.getD 2 pre0).1 (G.getD 2 pre0).2.1 (G.getD 2 pre0).2.2=1 then(false,0)
  else if homC (G.getD 0 pre0).1 (G.getD 0 pre0).2.1 (G.getD 0 pre0).2.2 (G.getD 2 pre0).1 (G.getD 2 pre0).2.1 (G.getD 2 pre0).2.2≠0∨homC (G.getD 1 pre0).1 (G.getD 1 pre0).2.1 (G.getD 1 pre0).2.2 (G.getD 2 pre0).1 (G.getD 2 pre0).2.1 (G.getD 2 pre0).2.2≠0 then(false,3)
  else(decide (homK (G.getD 0 pre0).1 (G.getD 0 pre0).2.1 (G.getD 0 pre0).2.2 (G.getD 2 pre0).1 (G.getD 2 pre0).2.1 (G.getD 2 pre0).2.2≠homK (G.getD 1 pre0).1 (G.getD 1 pre0).2.1 (G.getD 1 pre0).2.2 (G.getD 2 pre0).1 (G.getD 2 pre0).2.1 (G.getD 2 pre0).2.2∧L.length=0),0)
end Go.Proofs
namespace Go.Proofs
open Go.Ab Go.Lie Go.Grp
variable{σ h:PHeap}{K:PV->PHeap->Prop}{k:Int}{G:List Pre}{L:List (List Int)}{vG vL:PV}
theorem qQ{t:Bool}{A:Prop}(h:t=true↔A)(d:Decidable A):@decide A d=t:=by
 cases t
 ·exact @decide_eq_false _ d fun x=>by have:=h.2 x;cases this
 ·exact @decide_eq_true _ d (h.1 rfl)
set_option maxHeartbeats 1600000 in
theorem zFn(hG:FG vG G)(cY:SzG G)(hL:FII vL L)(bF:SzL L)(hk:K (.tup [.bool (resC k G L).1,.int .i64 (resC k G L).2]) σ):zA Tryz.prog 6 [.agg [.int .i64 k,vG,vL]] σ K:=by
 have DJ:=hG;have lf:=hL;obtain⟨wG,aG,rG,rfl,jU⟩:=hG;obtain⟨wL,aL,rL,rfl,eW⟩:=hL;refine zA.gh ?_;refine zB mix Tryz.func6 ?_;simp only[Z3,seval,-ah];generalize hH:σ.new [.int .i64 k,.fz wG aG G.length (fl3 rG),.fz wL aL L.length rL]=H;have kH:Keep σ H:=by rw[<-hH];exact zD _ _
 have hs:H.obj σ.next=some [.int .i64 k,.fz wG aG G.length (fl3 rG),.fz wL aL L.length rL]:=by rw[<-hH];simp only[Z3,seval,-ah]
 have nH:H.next=σ.next+1:=by rw[<-hH];rfl
 have r3:H.rd σ.next 0 3=some [.int .i64 k,.fz wG aG G.length (fl3 rG),.fz wL aL L.length rL]:=by rw[zb hs];rfl
 have e0:H.rd1 σ.next 0=some (.int .i64 k):=by rw[zF hs];rfl
 have e1:H.rd1 σ.next 1=some (.fz wG aG G.length (fl3 rG)):=by rw[zF hs];rfl
 have e2:H.rd1 σ.next 2=some (.fz wL aL L.length rL):=by rw[zF hs];rfl
 clear hH;simp only[Z3,seval,-ah,r3];refine zCp DJ cY lf bF fun t ht=>?_
 cases t with
 |false=>
  have nc:¬ZF k G L:=fun h=>by have:=ht.2 h;cases this
  simp only[Z3,seval,-ah];refine Gh.fin0 kH ⟨trivial,trivial,trivial⟩ ?_;unfold resC at hk
  rwa[if_pos nc]at hk
 |true=>
 have hc:=ht.1 rfl;unfold resC at hk
 rw[if_neg (fun h=>h hc)]at hk
 obtain⟨c1,c2,c3,c4⟩:=hc;have yQ:1<=G.length:=by
  unfold need at c1
  rcases Nat.eq_zero_or_pos G.length with h|h
  ·rw[h]at c1
   split at c1
   ·cases c1
   ·split at c1
    ·cases c1
    ·split at c1<;>cases c1
  ·exact h
 obtain⟨g,G',rfl⟩:∃g G',G=g::G':=by
  cases G with
  |nil=>simp at yQ
  |cons g G'=>exact⟨g,G',rfl⟩
 obtain⟨q,gJ,rfl⟩:∃q gJ,rG=q::gJ:=by
  have:=jU.1
  cases rG with
  |nil=>simp at this
  |cons q r=>exact⟨q,r,rfl⟩
 obtain⟨hp,eX⟩:=All2.tl jU;have hp:IsPr q.1 q.2.1 q.2.2 g.1 g.2.1 g.2.2:=hp;have z0:(0:Int)<((G'.length+1:Nat):Int):=by omega
 have lO:=cY.r g (by simp)
 have o0:=hp.O.one;have o1:=hp.P.one;have o2:=hp.C.one;have h3:3<=(fl3 gJ).length+1+1+1:=by omega
 have ua:List.take 3 (q.1::q.2.1::q.2.2::fl3 gJ)=[q.1,q.2.1,q.2.2]:=rfl;have n1:¬σ.next=H.next:=by omega
 simp only[Z3,seval,-ah,e0,e1,e2,r3,z0,fl3,o0,o1,o2,List.length_cons,h3,ua,n1];have kN:Keep σ (H.new [q.1,q.2.1,q.2.2]):=kH.new _;have pr:=c3 g (by simp)
 have rN:(g::G').getD 0 pre0=g:=rfl;rw[rN]at hk
 have fin:∀{b:Bool} {c:Int},K (.tup [.bool b,.int .i64 c]) σ->Gh σ K (.tup [.bool b,.int .i64 c]) (H.new [q.1,q.2.1,q.2.2]):=fun h=>Gh.fin0 kN ⟨trivial,trivial,trivial⟩ h
 obtain⟨hN,iV⟩:=QH pr.shp
 by_cases k1:k=1
 ·rw[if_pos k1]at hk
  simp only[Z3,seval,-ah,k1];refine qN pr.shp hp ?_;rw[hN]
  by_cases hb:nEl g.1<=128
  ·have jj:¬(128:Int)<((nEl g.1:Nat):Int):=by omega
   simp only[Z3,seval,-ah,jj,n1,o0,o1,o2,e0,e1,e2,k1];refine zLi pr hp hb lf bF fun t ht=>?_
   simp only[Z3,seval,-ah];refine fin ?_;rw[if_pos hb,qQ (t:=t) (ht.trans ⟨fun h=>⟨hb,h⟩,fun h=>h.2⟩)]at hk
   exact hk
  ·have jj:(128:Int)<((nEl g.1:Nat):Int):=by omega
   simp only[Z3,seval,-ah,jj,n1,o0,o1,o2,e0,e1,e2];refine fin ?_;rw[if_neg hb,qQ (t:=false) (⟨fun h=>(by cases h),fun h=>absurd h.1 hb⟩)]at hk
   exact hk
 rw[if_neg k1]at hk
 by_cases k2:k=2
 ·rw[if_pos k2]at hk
  simp only[Z3,seval,-ah,k1,k2,n1,o0,o1,o2,e0,e1,e2];refine zFP hp lO lf bF fun t ht=>?_
  simp only[Z3,seval,-ah];refine fin ?_;rw[qQ ht]at hk
  exact hk
 rw[if_neg k2]at hk
 by_cases k3:k=3
 ·rw[if_pos k3]at hk
  simp only[Z3,seval,-ah,k1,k2,k3,n1,o0,o1,o2,e0,e1,e2];refine zEn hp lO lf bF fun t ht=>?_
  simp only[Z3,seval,-ah];refine fin ?_;rw[qQ ht]at hk
  exact hk
 rw[if_neg k3]at hk
 by_cases k4:k=4
 ·rw[if_pos k4]at hk
  have fF:G'.length=1:=by
   rw[k4]at c1
   have:(2:Int)=((G'.length+1:Nat):Int):=c1
   omega
  obtain⟨g1,rfl⟩:∃g1,G'=[g1]:=by
   match G',fF with
   |[a],_=>exact⟨a,rfl⟩
  obtain⟨q1,rfl⟩:∃q1,gJ=[q1]:=by
   have:=eX.1
   match gJ,this with
   |[a],_=>exact⟨a,rfl⟩
  have aM:IsPr q1.1 q1.2.1 q1.2.2 g1.1 g1.2.1 g1.2.2:=eX.2 0 _ _ rfl rfl;have iE:=cY.r g1 (by simp)
  have nk:[g,g1].getD 1 pre0=g1:=rfl;rw[nk]at hk
  have y0:=aM.O.one;have y1:=aM.P.one;have y2:=aM.C.one;have i1:(1:Int)<((2:Nat):Int):=by decide
  have dr:List.drop (1*3) (q.1::q.2.1::q.2.2::fl3 [q1])=[q1.1,q1.2.1,q1.2.2]:=rfl;simp only[Z3,seval,-ah,k1,k2,k3,k4,n1,o0,o1,o2,e0,e1,e2,i1,fl3,y0,y1,y2,dr];refine zBS hp lO aM iE lf bF fun t ht=>?_
  simp only[Z3,seval,-ah,k1,k2,k3,k4,n1,o0,o1,o2,e0,e1,e2,i1,fl3,y0,y1,y2,dr];refine fin ?_;rw[qQ ht]at hk
  exact hk
 rw[if_neg k4]at hk
 by_cases k6:k=6
 ·rw[if_pos k6]at hk
  simp only[Z3,seval,-ah,k1,k2,k3,k4,k6,n1,o0,o1,o2,e0,e1,e2];refine zGI hp lO lf bF fun t ht=>?_
  simp only[Z3,seval,-ah];refine fin ?_;rw[qQ ht]at hk
  exact hk
 rw[if_neg k6]at hk
 have k5:k=5:=by
  by_cases DT:1<=k∧k<=6
  ·omega
  ·unfold need at c1
   rw[if_neg (by omega),if_neg k4,if_neg DT]at c1
   simp only[List.length_cons]at c1;omega
 have fF:G'.length=2:=by
  rw[k5]at c1
  have:(3:Int)=((G'.length+1:Nat):Int):=c1
  omega
 obtain⟨g1,g2,rfl⟩:∃g1 g2,G'=[g1,g2]:=by
  match G',fF with
  |[a,b],_=>exact⟨a,b,rfl⟩
 obtain⟨q1,q2,rfl⟩:∃q1 q2,gJ=[q1,q2]:=by
  have:=eX.1
  match gJ,this with
  |[a,b],_=>exact⟨a,b,rfl⟩
 have aM:IsPr q1.1 q1.2.1 q1.2.2 g1.1 g1.2.1 g1.2.2:=eX.2 0 _ _ rfl rfl;have bD:IsPr q2.1 q2.2.1 q2.2.2 g2.1 g2.2.1 g2.2.2:=eX.2 1 _ _ rfl rfl;have iE:=cY.r g1 (by simp)
 have jY:=cY.r g2 (by simp)
 have nk:[g,g1,g2].getD 1 pre0=g1:=rfl;have we:[g,g1,g2].getD 2 pre0=g2:=rfl;rw[nk,we]at hk
 have y0:=aM.O.one;have y1:=aM.P.one;have y2:=aM.C.one;have x0:=bD.O.one;have x1:=bD.P.one;have x2:=bD.C.one;have i1:(1:Int)<((3:Nat):Int):=by decide
 have i2:(2:Int)<((3:Nat):Int):=by decide
 simp only[Z3,seval,-ah,k1,k2,k3,k4,k6,n1,o0,o1,o2,e0,e1,e2,i1,i2,fl3,y0,y1,y2,x0,x1,x2];refine zAI hp lO bD jY ?_;simp only[Z3,seval,-ah,n1,o0,o1,o2,e0,e1,e2,i1,i2,fl3,y0,y1,y2,x0,x1,x2];refine zAI aM iE bD jY ?_;generalize homC g.1 g.2.1 g.2.2 g2.1 g2.2.1 g2.2.2=ca at *
 generalize homC g1.1 g1.2.1 g1.2.2 g2.1 g2.2.1 g2.2.2=cb at *
 generalize homK g.1 g.2.1 g.2.2 g2.1 g2.2.1 g2.2.2=ka at *
 generalize homK g1.1 g1.2.1 g1.2.2 g2.1 g2.2.1 g2.2.2=kb at *
 simp only[Z3,seval,-ah,n1,o0,o1,o2,e0,e1,e2,i1,i2,fl3]
 by_cases a1:ca=1
 ·simp only[Z3,seval,-ah,a1,n1,e0,e1,e2]
  rw[if_pos (.inl a1)]at hk
  exact fin hk
 by_cases b1:cb=1
 ·simp only[Z3,seval,-ah,a1,b1,n1,e0,e1,e2]
  rw[if_pos (.inr b1)]at hk
  exact fin hk
 rw[if_neg (fun h=>h.elim a1 b1)]at hk
 by_cases a0:ca=0
 rotate_left
 ·simp only[Z3,seval,-ah,a0,a1,b1,n1,e0,e1,e2]
  rw[if_pos (.inl a0)]at hk
  exact fin hk
 by_cases b0:cb=0
 rotate_left
 ·simp only[Z3,seval,-ah,a0,a1,b0,b1,n1,e0,e1,e2]
  rw[if_pos (.inr b0)]at hk
  exact fin hk
 rw[if_neg (fun h=>h.elim (fun h=>h a0) (fun h=>h b0))]at hk
 by_cases kk:ka=kb
 ·simp only[Z3,seval,-ah,a0,a1,b0,b1,kk,n1,e0,e1,e2]
  rw[qQ (t:=false) ⟨fun h=>(by cases h),fun h=>absurd kk h.1⟩]at hk
  exact fin hk
 ·by_cases l0:L.length=0
  ·have kg:((L.length:Nat):Int)=0:=by omega
   simp only[Z3,seval,-ah,a0,a1,b0,b1,kk,l0,kg,n1,e0,e1,e2];rw[qQ (t:=true) ⟨fun h=>⟨kk,l0⟩,fun h=>rfl⟩]at hk
   exact fin hk
  ·have kg:¬((L.length:Nat):Int)=0:=by omega
   simp only[Z3,seval,-ah,a0,a1,b0,b1,kk,l0,kg,n1,e0,e1,e2];rw[qQ (t:=false) ⟨fun h=>(by cases h),fun h=>absurd h.2 l0⟩]at hk
   exact fin hk
end Go.Proofs
namespace Go.Proofs
open Go.Ab Go.Lie Go.Grp
variable{σ h:PHeap}{K:PV->PHeap->Prop}{k:Int}{G:List Pre}{L:List (List Int)}{vG vL:PV}{s:Nat}
set_option maxHeartbeats 1600000 in
theorem zGk(hs:σ.obj s=some [.int .i64 k,vG,vL])(dw:s<σ.next)(hG:FG vG G)(cY:SzG G)(hL:FII vL L)(bF:SzL L)(hc:ZF k G L)(yY:k=1∨k=4∨k=5)
  (hk:K (.tup [.bool (resC k G L).1,.int .i64 (resC k G L).2]) σ):zA Tryz.prog 33 [.ptr s 0] σ K:=by
 have lf:=hL;obtain⟨wG,aG,rG,rfl,jU⟩:=hG;obtain⟨wL,aL,rL,rfl,eW⟩:=hL;have e0:σ.rd1 s 0=some (.int .i64 k):=by rw[zF hs];rfl
 have e1:σ.rd1 s 1=some (.fz wG aG G.length (fl3 rG)):=by rw[zF hs];rfl
 have e2:σ.rd1 s 2=some (.fz wL aL L.length rL):=by rw[zF hs];rfl
 unfold resC at hk
 rw[if_neg (fun h=>h hc)]at hk
 obtain⟨c1,c2,c3,c4⟩:=hc;have yQ:1<=G.length:=by
  unfold need at c1
  rcases yY with rfl|rfl|rfl
  ·have:(1:Int)=(G.length:Int):=c1
   omega
  ·have:(2:Int)=(G.length:Int):=c1
   omega
  ·have:(3:Int)=(G.length:Int):=c1
   omega
 obtain⟨g,G',rfl⟩:∃g G',G=g::G':=by
  cases G with
  |nil=>simp at yQ
  |cons g G'=>exact⟨g,G',rfl⟩
 obtain⟨q,gJ,rfl⟩:∃q gJ,rG=q::gJ:=by
  have:=jU.1
  cases rG with
  |nil=>simp at this
  |cons q r=>exact⟨q,r,rfl⟩
 obtain⟨hp,eX⟩:=All2.tl jU;have hp:IsPr q.1 q.2.1 q.2.2 g.1 g.2.1 g.2.2:=hp;have z0:(0:Int)<((G'.length+1:Nat):Int):=by omega
 have lO:=cY.r g (by simp)
 have o0:=hp.O.one;have o1:=hp.P.one;have o2:=hp.C.one;have h3:3<=(fl3 gJ).length+1+1+1:=by omega
 have ua:List.take 3 (q.1::q.2.1::q.2.2::fl3 gJ)=[q.1,q.2.1,q.2.2]:=rfl;have pr:=c3 g (by simp)
 have rN:(g::G').getD 0 pre0=g:=rfl;rw[rN]at hk
 refine zA.gh ?_;refine qB mix Tryz.func33 ?_;simp only[Z3,seval,-ah,e0,e1,e2,z0,fl3,o0,o1,o2,List.length_cons,h3,ua];have fin:∀{b:Bool} {c:Int},K (.tup [.bool b,.int .i64 c]) σ->Gh σ K (.tup [.bool b,.int .i64 c]) σ:=fun h=>Gh.fin0 (Keep.refl σ) ⟨trivial,trivial,trivial⟩ h
 by_cases k1:k=1
 ·rw[if_pos k1]at hk
  simp only[Z3,seval,-ah,k1];refine zEe pr lO hp lf bF fun t ht=>?_
  simp only[Z3,seval,-ah,e0,e1,e2,z0,fl3,o0,o1,o2,List.length_cons,h3,ua];refine fin ?_;rw[qQ ht]at hk
  exact hk
 rw[if_neg k1]at hk
 have k2:¬k=2:=by omega
 have k3:¬k=3:=by omega
 have k6:¬k=6:=by omega
 rw[if_neg k2,if_neg k3]at hk
 by_cases k4:k=4
 ·rw[if_pos k4]at hk
  have fF:G'.length=1:=by
   rw[k4]at c1
   have:(2:Int)=((G'.length+1:Nat):Int):=c1
   omega
  obtain⟨g1,rfl⟩:∃g1,G'=[g1]:=by
   match G',fF with
   |[a],_=>exact⟨a,rfl⟩
  obtain⟨q1,rfl⟩:∃q1,gJ=[q1]:=by
   have:=eX.1
   match gJ,this with
   |[a],_=>exact⟨a,rfl⟩
  have aM:IsPr q1.1 q1.2.1 q1.2.2 g1.1 g1.2.1 g1.2.2:=eX.2 0 _ _ rfl rfl;have iE:=cY.r g1 (by simp)
  have nk:[g,g1].getD 1 pre0=g1:=rfl;rw[nk]at hk
  have y0:=aM.O.one;have y1:=aM.P.one;have y2:=aM.C.one;have i1:(1:Int)<((2:Nat):Int):=by decide
  have dr:List.drop (1*3) (q.1::q.2.1::q.2.2::fl3 [q1])=[q1.1,q1.2.1,q1.2.2]:=rfl;simp only[Z3,seval,-ah,k1,k2,k3,k4,o0,o1,o2,e0,e1,e2,i1,fl3,y0,y1,y2,dr];refine zDl hp lO aM iE lf bF fun t ht=>?_
  simp only[Z3,seval,-ah,k1,k2,k3,k4,o0,o1,o2,e0,e1,e2,i1,fl3,y0,y1,y2,dr];refine fin ?_;rw[qQ ht]at hk
  exact hk
 have k5:k=5:=by omega
 rw[if_neg k4,if_neg k6]at hk
 simp only[Z3,seval,-ah,k1,k2,k3,k4,k5,e0,e1,e2];have fF:G'.length=2:=by
  rw[k5]at c1
  have:(3:Int)=((G'.length+1:Nat):Int):=c1
  omega
 obtain⟨g1,g2,rfl⟩:∃g1 g2,G'=[g1,g2]:=by
  match G',fF with
  |[a,b],_=>exact⟨a,b,rfl⟩
 obtain⟨q1,q2,rfl⟩:∃q1 q2,gJ=[q1,q2]:=by
  have:=eX.1
  match gJ,this with
  |[a,b],_=>exact⟨a,b,rfl⟩
 have aM:IsPr q1.1 q1.2.1 q1.2.2 g1.1 g1.2.1 g1.2.2:=eX.2 0 _ _ rfl rfl;have bD:IsPr q2.1 q2.2.1 q2.2.2 g2.1 g2.2.1 g2.2.2:=eX.2 1 _ _ rfl rfl;have iE:=cY.r g1 (by simp)
 have jY:=cY.r g2 (by simp)
 have nk:[g,g1,g2].getD 1 pre0=g1:=rfl;have we:[g,g1,g2].getD 2 pre0=g2:=rfl;rw[nk,we]at hk
 have y0:=aM.O.one;have y1:=aM.P.one;have y2:=aM.C.one;have x0:=bD.O.one;have x1:=bD.P.one;have x2:=bD.C.one;have i1:(1:Int)<((3:Nat):Int):=by decide
 have i2:(2:Int)<((3:Nat):Int):=by decide
 have pC:All2 FI3 [q,q1,q2] [g,g1,g2]:=jU;have Aj:∀x∈[g,g1,g2],SzP x.1 x.2.1 x.2.2:=cY.r
 have An:∀x∈[g,g1,g2],zM x.1 x.2.1 x.2.2:=c3
 obtain⟨GG,eG⟩:∃GG,GG=[g,g1,g2]:=⟨_,rfl⟩
 obtain⟨QQ,eQ⟩:∃QQ,QQ=[q,q1,q2]:=⟨_,rfl⟩
 have fq:fl3 QQ=q.1::q.2.1::q.2.2::fl3 [q1,q2]:=by rw[eQ];rfl
 have l3:GG.length=3:=by rw[eG];rfl
 have m3:QQ.length=3:=by rw[eQ];rfl
 rw[<-eG]at pC Aj An
 rw[<-eQ]at pC
 have ln:[g1,g2].length+1=3:=rfl;rw[ln,<-fq];refine zC (fun m vs h'=>∃i:Nat,i<=3∧m=3-i∧vs=[.ptr s 0,.fp (pAt aG 0) (fl3 QQ),.fz wG aG 3 (fl3 QQ),.int .i64 ((3:Nat):Int),.int .i64 i]∧Keep σ h'∧∀x∈GG.take i,Cons x.1 x.2.1 x.2.2) 3 ?_ ?_
 ·exact⟨0,by omega,by omega,rfl,Keep.refl σ,fun x hx=>by simp at hx⟩
 rintro m vs h' ⟨i,hi,rfl,rfl,kh,aj⟩
 simp only[Z3,seval,-ah];refine iteI (fun ai=>?_) fun aE=>?_
 ·have ee:i<QQ.length:=by omega
  have me:i<GG.length:=by omega
  have dF:=QD ee;have DR:3<=(fl3 QQ).length-i*3:=by have:=qO QQ;omega
  have lE:IsPr QQ[i].1 QQ[i].2.1 QQ[i].2.2 GG[i].1 GG[i].2.1 GG[i].2.2:=pC.2 i _ _ (List.getElem?_eq_getElem ee) (List.getElem?_eq_getElem me);simp only[Z3,seval,-ah,ai,dF,DR,lE.O.one,lE.P.one,lE.C.one,List.length_drop];refine zq lE (Aj _ (List.getElem_mem me)) fun t ht=>?_
  have wi:IntKind.i64.wrap ((i:Int)+1)=((i+1:Nat):Int):=wrapS ai (by omega)
  cases t with
  |false=>
   simp only[Z3,seval,-ah];have nc:¬(zM GG[i].1 GG[i].2.1 GG[i].2.2∧Cons GG[i].1 GG[i].2.1 GG[i].2.2):=fun h=>by have:=ht.2 h;cases this
   have hm:GG[i]∈[g,g1,g2]:=by rw[<-eG];exact List.getElem_mem me
   have one:homC g.1 g.2.1 g.2.2 g2.1 g2.2.1 g2.2.2=1∨homC g1.1 g1.2.1 g1.2.2 g2.1 g2.2.1 g2.2.2=1:=by
    simp only[List.mem_cons,List.not_mem_nil,or_false]at hm
    rcases hm with e|e|e
    ·rw[e]at nc;exact .inl (if_neg fun h=>nc h.1)
    ·rw[e]at nc;exact .inr (if_neg fun h=>nc h.1)
    ·rw[e]at nc;exact .inl (if_neg fun h=>nc h.2)
   rw[if_pos one]at hk
   exact Gh.fin0 (kh.new _) ⟨trivial,trivial,trivial⟩ hk
  |true=>
   simp only[Z3,seval,-ah,wi];refine⟨_,by omega,i+1,by omega,rfl,rfl,kh.new _,fun x hx=>?_⟩
   rw[List.take_succ_eq_append_getElem me,List.mem_append,List.mem_singleton]at hx
   rcases hx with hx|rfl
   ·exact aj x hx
   ·exact(ht.1 rfl).2
 have i3:i=3:=by omega
 have mw:∀x∈[g,g1,g2],zM x.1 x.2.1 x.2.2∧Cons x.1 x.2.1 x.2.2:=fun x hx=>by
  rw[<-eG]at hx
  exact⟨An x hx,aj x (by rw[i3,<-l3,List.take_length];exact hx)⟩
 have Cl:homC g.1 g.2.1 g.2.2 g2.1 g2.2.1 g2.2.2≠1:=by
  unfold homC;rw[if_pos ⟨mw g (by simp),mw g2 (by simp)⟩]
  split<;>decide
 have Ck:homC g1.1 g1.2.1 g1.2.2 g2.1 g2.2.1 g2.2.2≠1:=by
  unfold homC;rw[if_pos ⟨mw g1 (by simp),mw g2 (by simp)⟩]
  split<;>decide
 rw[if_neg (fun h=>h.elim Cl Ck)]at hk
 have f0:h'.rd1 s 1=some (.fz wG aG 3 (fl3 QQ)):=by rw[zF (by rw[kh.obj _ dw];exact hs),fq];rfl
 have f2:h'.rd1 s 2=some (.fz wL aL L.length rL):=by rw[zF (by rw[kh.obj _ dw];exact hs)];rfl
 have fx:fl3 QQ=[q.1,q.2.1,q.2.2,q1.1,q1.2.1,q1.2.2,q2.1,q2.2.1,q2.2.2]:=by rw[fq];rfl
 rw[fx]at f0 ⊢
 have d1:List.take 3 [q.1,q.2.1,q.2.2,q1.1,q1.2.1,q1.2.2,q2.1,q2.2.1,q2.2.2]=[q.1,q.2.1,q.2.2]:=rfl;have d2:List.drop (1*3) [q.1,q.2.1,q.2.2,q1.1,q1.2.1,q1.2.2,q2.1,q2.2.1,q2.2.2]=[q1.1,q1.2.1,q1.2.2,q2.1,q2.2.1,q2.2.2]:=rfl;have d3:List.drop (2*3) [q.1,q.2.1,q.2.2,q1.1,q1.2.1,q1.2.2,q2.1,q2.2.1,q2.2.2]=[q2.1,q2.2.1,q2.2.2]:=rfl;have d4:List.take 3 [q1.1,q1.2.1,q1.2.2,q2.1,q2.2.1,q2.2.2]=[q1.1,q1.2.1,q1.2.2]:=rfl;simp only[Z3,seval,-ah,f0,f2,d1,d2,d3,d4,i1,i2,o0,o1,o2,y0,y1,y2,x0,x1,x2];have fin2:∀{b:Bool} {c:Int},K (.tup [.bool b,.int .i64 c]) σ->Gh σ K (.tup [.bool b,.int .i64 c]) h':=fun h=>Gh.fin0 kh ⟨trivial,trivial,trivial⟩ h
 refine zCd hp lO bD jY ?_;simp only[Z3,seval,-ah,f0,f2,d1,d2,d3,d4,i1,i2,o0,o1,o2,y0,y1,y2,x0,x1,x2];refine zCd aM iE bD jY ?_;generalize homC g.1 g.2.1 g.2.2 g2.1 g2.2.1 g2.2.2=ca at *
 generalize homC g1.1 g1.2.1 g1.2.2 g2.1 g2.2.1 g2.2.2=cb at *
 generalize homK g.1 g.2.1 g.2.2 g2.1 g2.2.1 g2.2.2=ka at *
 generalize homK g1.1 g1.2.1 g1.2.2 g2.1 g2.2.1 g2.2.2=kb at *
 by_cases a0:ca=0
 rotate_left
 ·simp only[Z3,seval,-ah,a0,f0,f2,d1,d2,d3,d4,i1,i2]
  rw[if_pos (.inl a0)]at hk
  exact fin2 hk
 by_cases b0:cb=0
 rotate_left
 ·simp only[Z3,seval,-ah,a0,b0,f0,f2,d1,d2,d3,d4,i1,i2]
  rw[if_pos (.inr b0)]at hk
  exact fin2 hk
 rw[if_neg (fun h=>h.elim (fun h=>h a0) (fun h=>h b0))]at hk
 by_cases kk:ka=kb
 ·have cw:¬(ka≠kb∧L.length=0):=fun h=>h.1 kk
  rw[qQ (t:=false) ⟨fun h=>(by cases h),fun h=>absurd h cw⟩]at hk
  by_cases l0:L.length=0
  ·have kg:((L.length:Nat):Int)=0:=by omega
   simp only[Z3,seval,-ah,a0,b0,kk,kg,f0,f2,d1,d2,d3,d4,i1,i2];exact fin2 hk
  ·have kg:¬((L.length:Nat):Int)=0:=by omega
   simp only[Z3,seval,-ah,a0,b0,kk,kg,f0,f2,d1,d2,d3,d4,i1,i2];exact fin2 hk
 ·by_cases l0:L.length=0
  ·have kg:((L.length:Nat):Int)=0:=by omega
   simp only[Z3,seval,-ah,a0,b0,kk,kg,f0,f2,d1,d2,d3,d4,i1,i2];rw[qQ (t:=true) ⟨fun h=>⟨kk,l0⟩,fun h=>rfl⟩]at hk
   exact fin2 hk
  ·have kg:¬((L.length:Nat):Int)=0:=by omega
   simp only[Z3,seval,-ah,a0,b0,kk,kg,f0,f2,d1,d2,d3,d4,i1,i2];rw[qQ (t:=false) ⟨fun h=>(by cases h),fun h=>absurd h.2 l0⟩]at hk
   exact fin2 hk
end Go.Proofs
namespace Go.Proofs
open Go.Ab Go.Lie Go.Grp
variable{σ h:PHeap}{K:PV->PHeap->Prop}{k:Int}{L:List (List Int)}{vG vL vO vP vC:PV}{s t:Nat}{g:Pre}{cap:Cap}
theorem zDo(hG:FG vG [g])(cY:SzG [g])(hL:FII vL L)(bF:SzL L)(hk:∀t h vL vO vP vC,FII vL L->IsPr vO vP vC g.1 g.2.1 g.2.2->Keep σ h->σ.next<=t->t<h.next->h.obj t=some [vO,vP,vC]->K (.agg [.int .i64 k,.sl t 0 1 (.known 1),vL]) h):
  zA Tryz.prog 7 [.agg [.int .i64 k,vG,vL]] σ K:=by
 have h0:=hG.one;have h1:=hL.one;refine zB mix Tryz.func7 ?_;simp only[Z3,seval,-ah,h0,h1];refine Qi hG cY fun rows hr=>?_
 obtain⟨q,rfl⟩:∃q,rows=[q]:=by
  have:=hr.1
  match rows,this with
  |[a],_=>exact⟨a,rfl⟩
 have hq:IsPr q.1 q.2.1 q.2.2 g.1 g.2.1 g.2.2:=hr.2 0 _ _ rfl rfl;simp only[Z3,seval,-ah];refine QE hL bF fun v2 bu=>?_
 simp only[Z3,seval,-ah,bu.cells,bu.one];exact hk (σ.next+3) _ v2 q.1 q.2.1 q.2.2 bu hq ((((zD σ _).new _).new _).new _) (by omega) (Nat.lt_succ_self _) ((zH _ _).trans (if_pos rfl))
theorem zDa{tg:Nat}(hs:σ.obj s=some [.int .i64 k,.sl tg 0 1 cap,vL])(dw:s<σ.next)(ko:PtrG σ tg vO vP vC)(hp:IsPr vO vP vC g.1 g.2.1 g.2.2)(sz:SzP g.1 g.2.1 g.2.2)(hL:FII vL L)(bF:SzL L)(aW:1<=k∧k<=6)(gX:need k=1)(hk:∀t:Bool,(t=true↔ZF k [g] L)->K (.bool t) σ):zA Tryz.prog 32 [.ptr s 0] σ K:=by
 have fl:∀{A:Prop},¬A->((false=true)↔A):=fun h=>⟨fun x=>(by cases x),fun x=>absurd x h⟩
 obtain⟨ot,iD⟩:=ko;obtain⟨wL,aL,rL,rfl,eW⟩:=hL;have e0:σ.rd1 s 0=some (.int .i64 k):=by rw[zF hs];rfl
 have e1:σ.rd1 s 1=some (.sl tg 0 1 cap):=by rw[zF hs];rfl
 have e2:σ.rd1 s 2=some (.fz wL aL L.length rL):=by rw[zF hs];rfl
 have Ai:=bF.l;refine zA.gh ?_;have no:∀{σ':PHeap},¬ZF k [g] L->Keep σ σ'->Gh σ K (.bool false) σ':=fun h kk=>Gh.fin0 kk trivial (hk _ (fl h))
 refine qB mix Tryz.func32 ?_;simp only[Z3,seval,-ah,e0];refine qx ?_;simp only[Z3,seval,-ah,aW,e0,e1,e2];refine zAt aW ?_;have eT:(((1:Nat):Int)=1)=True:=by simp
 by_cases hl:L.length<=32
 rotate_left
 ·have aY:(32:Int)<(L.length:Int):=by omega
  simp only[Z3,seval,-ah,e0,e1,e2,aY,gX,eT];exact no (fun h=>hl h.2.1) (Keep.refl σ)
 have aY:¬(32:Int)<(L.length:Int):=by omega
 simp only[Z3,seval,-ah,e0,e1,e2,aY,gX,eT];refine zC (fun m us h'=>∃i:Nat,i<=1∧m=1-i∧us=[.ptr s 0,.sl tg 0 1 cap,.int .i64 ((1:Nat):Int),.int .i64 i]∧Keep σ h'∧(i=1->zM g.1 g.2.1 g.2.2)) 1 ?_ ?_
 ·exact⟨0,by omega,by omega,rfl,Keep.refl σ,fun h=>by cases h⟩
 rintro m us h' ⟨i,hi,rfl,rfl,aq,cE⟩
 have y8:h'.rd1 s 2=some (.fz wL aL L.length rL):=by rw[zF ((aq.obj _ dw).trans hs)];rfl
 have rt:h'.rd tg 0 3=some [vO,vP,vC]:=by rw[zb ((aq.obj _ iD).trans ot)];rfl
 rcases Nat.lt_or_ge i 1 with cD|cD
 ·obtain rfl:i=0:=by omega
  have n0:((0:Nat):Int)<((1:Nat):Int):=by omega
  have wC:(0:Int)<((1:Nat):Int):=by omega
  have np:(0:Nat)<1:=by omega
  simp only[Z3,seval,-ah,n0,wC,np,rt,hp.O.one,hp.P.one,hp.C.one];refine qZ hp sz fun t ht=>?_
  cases t with
  |false=>
   simp only[Z3,seval,-ah];exact no (fun h=>by cases ht.2 (h.2.2.1 g (by simp))) (aq.new _)
  |true=>
   simp only[Z3,seval,-ah];exact⟨0,by decide,1,by decide,rfl,rfl,aq.new _,fun _=>ht.1 rfl⟩
 obtain rfl:i=1:=by omega
 have pr:=cE rfl;have n1:¬(((1:Nat):Int)<((1:Nat):Int)):=by omega
 simp only[Z3,seval,-ah,n1,y8];refine zC (fun m us h2=>∃i:Nat,i<=L.length∧m=L.length-i∧us=[.fz wL aL L.length rL,.int .i64 L.length,.int .i64 i]∧h'=h2∧∀l∈L.take i,l.length<=128∧∀x∈l,-1000000<=x∧x<=1000000) L.length ?_ ?_
 ·exact⟨0,by omega,by omega,rfl,rfl,by simp⟩
 clear hi cD
 rintro m us h2 ⟨i,hi,rfl,rfl,rfl,aj⟩
 simp only[Z3,seval,-ah];refine iteI (fun ai=>?_) fun aE=>?_
 rotate_left
 ·exact Gh.fin0 aq trivial (hk _ ⟨fun _=>⟨gX,hl,fun x hx=>by rw[List.mem_singleton.1 hx];exact pr,fun l hl=>aj l (by rwa[List.take_of_length_le (by omega)])⟩,fun _=>rfl⟩)
 obtain⟨w4,a4,hr⟩:=eW.rowI ai;have hb:=bF.r _ (List.getElem_mem ai);have ak:(i:Int)<(L.length:Int):=by omega
 by_cases fh:L[i].length<=128
 rotate_left
 ·have h':(128:Int)<(L[i].length:Int):=by omega
  simp only[Z3,seval,-ah,ai,ak,hr,h'];exact no (fun h=>fh (h.2.2.2 _ (List.getElem_mem ai)).1) aq
 have iq:¬(128:Int)<(L[i].length:Int):=by omega
 simp only[Z3,seval,-ah,ai,ak,hr,iq];refine zC (fun m us h2=>∃q:Nat,q<=L[i].length∧m=L[i].length-q∧us=[.fz wL aL L.length rL,.int .i64 L.length,.int .i64 i,.fz w4 a4 L[i].length (pis L[i]),.int .i64 L[i].length,.int .i64 q]∧h'=h2∧∀x∈L[i].take q,-1000000<=x∧x<=1000000) L[i].length ?_ ?_
 ·exact⟨0,by omega,by omega,rfl,rfl,by simp⟩
 rintro m us h2 ⟨q,hq,rfl,rfl,rfl,eH⟩
 simp only[Z3,seval,-ah];refine iteI (fun eB=>?_) fun yp=>?_
 rotate_left
 ·simp only[Z3,seval,-ah,wrapS ai (by omega:L.length<=4611686018427387904)]
  refine⟨_,by omega,i+1,by omega,rfl,rfl,fun l hl=>?_⟩
  rw[List.take_succ_eq_append_getElem ai,List.mem_append,List.mem_singleton]at hl
  rcases hl with hl|rfl
  ·exact aj l hl
  ·exact⟨fh,fun x hx=>eH x (by rwa[List.take_of_length_le (by omega)])⟩
 have xZ:(q:Int)<(L[i].length:Int):=by omega
 simp only[Z3,seval,-ah,eB,xZ,gi eB,zG];refine qx ?_
 by_cases hv:-1000000<=L[i][q]∧L[i][q]<=1000000
 ·simp only[Z3,seval,-ah,hv,wrapS eB (by omega:L[i].length<=4611686018427387904)]
  exact⟨_,by omega,q+1,by omega,rfl,rfl,Zv eB eH hv⟩
 ·simp only[Z3,seval,-ah,hv]
  exact no (fun h=>hv ((h.2.2.2 _ (List.getElem_mem ai)).2 _ (List.getElem_mem eB))) aq
end Go.Proofs
namespace Go.Proofs
open Go.Ab Go.Lie Go.Grp
variable{σ h:PHeap}{K:PV->PHeap->Prop}{k:Int}{G:List Pre}{L:List (List Int)}{vG vL vO vP vC:PV}{s t:Nat}{g:Pre}{cap:Cap}
theorem zGj{tg:Nat}(hs:σ.obj s=some [.int .i64 k,.sl tg 0 1 cap,vL])(dw:s<σ.next)(ko:PtrG σ tg vO vP vC)(hp:IsPr vO vP vC g.1 g.2.1 g.2.2)(sz:SzP g.1 g.2.1 g.2.2)(hL:FII vL L)(bF:SzL L)(jM:k=2∨k=3∨k=6)(hc:ZF k [g] L)
  (hk:K (.tup [.bool (resC k [g] L).1,.int .i64 (resC k [g] L).2]) σ):zA Tryz.prog 33 [.ptr s 0] σ K:=by
 have e0:σ.rd1 s 0=some (.int .i64 k):=by rw[zF hs];rfl
 have e1:σ.rd1 s 1=some (.sl tg 0 1 cap):=by rw[zF hs];rfl
 have e2:σ.rd1 s 2=some vL:=by rw[zF hs];rfl
 have np:(0:Int)<((1:Nat):Int):=by decide
 unfold resC at hk
 rw[if_neg (fun h=>h hc)]at hk
 have rN:[g].getD 0 pre0=g:=rfl;rw[rN]at hk
 rw[if_neg (by omega:¬k=1)]at hk
 refine qB mix Tryz.func33 ?_;rcases jM with rfl|rfl|rfl
 ·rw[if_pos rfl]at hk
  simp only[Z3,seval,-ah,e0,e1,e2,np];refine zCq ko hp sz hL bF fun t ht=>?_
  rw[qQ ht]at hk
  simp only[Z3,seval,-ah];exact hk
 ·rw[if_neg (by decide),if_pos rfl]at hk
  simp only[Z3,seval,-ah,e0,e1,e2,np];refine zCO ko hp sz hL bF fun t ht=>?_
  rw[qQ ht]at hk
  simp only[Z3,seval,-ah];exact hk
 ·rw[if_neg (by decide),if_neg (by decide),if_neg (by decide),if_pos rfl]at hk
  simp only[Z3,seval,-ah,e0,e1,e2,np];refine zDZ ko hp sz hL bF fun t ht=>?_
  rw[qQ ht]at hk
  simp only[Z3,seval,-ah];exact hk
theorem zBz(hG:FG vG G)(cY:SzG G)(hL:FII vL L)(bF:SzL L)(cK:ZF k G L->k=1∨k=4∨k=5)
  (hk:K (.tup [.bool (resC k G L).1,.int .i64 (resC k G L).2]) σ):zA Tryz.prog 8 [.agg [.int .i64 k,vG,vL]] σ K:=by
 have h1:=hG.one;have h2:=hL.one;refine zA.gh ?_;refine zB mix Tryz.func8 ?_;simp only[Z3,seval,-ah,h1,h2];have ob:(σ.new [.int .i64 k,vG,vL]).obj σ.next=some [.int .i64 k,vG,vL]:=by rw[zH,if_pos rfl]
 have kH:=zD σ [.int .i64 k,vG,vL];have l1:σ.next<(σ.new [.int .i64 k,vG,vL]).next:=Nat.lt_succ_self _;generalize σ.new [.int .i64 k,vG,vL]=H at *
 refine zDb (k:=k) ob hG cY hL bF fun t ht=>?_
 cases t with
 |false=>
  have nc:¬ZF k G L:=fun h=>by have:=ht.2 h;cases this
  unfold resC at hk
  rw[if_pos nc]at hk
  simp only[Z3,seval,-ah];exact Gh.fin0 kH ⟨trivial,trivial,trivial⟩ hk
 |true=>
  simp only[Z3,seval,-ah];refine zGk ob l1 hG cY hL bF (ht.1 rfl) (cK (ht.1 rfl)) ?_;simp only[Z3,seval,-ah];exact Gh.fin0 kH ⟨trivial,trivial,trivial⟩ hk
theorem zBy{tg:Nat}(ko:PtrG σ tg vO vP vC)(hp:IsPr vO vP vC g.1 g.2.1 g.2.2)(sz:SzP g.1 g.2.1 g.2.2)(hL:FII vL L)(bF:SzL L)(jM:k=2∨k=3∨k=6)
  (hk:K (.tup [.bool (resC k [g] L).1,.int .i64 (resC k [g] L).2]) σ):zA Tryz.prog 8 [.agg [.int .i64 k,.sl tg 0 1 cap,vL]] σ K:=by
 have h2:=hL.one;obtain⟨ot,iD⟩:=ko;refine zA.gh ?_;refine zB mix Tryz.func8 ?_;simp only[Z3,seval,-ah,h2];have ob:(σ.new [.int .i64 k,.sl tg 0 1 cap,vL]).obj σ.next=some [.int .i64 k,.sl tg 0 1 cap,vL]:=by rw[zH,if_pos rfl]
 have At:(σ.new [.int .i64 k,.sl tg 0 1 cap,vL]).obj tg=some [vO,vP,vC]:=by rw[zH,if_neg (by omega)];exact ot
 have kH:=zD σ [.int .i64 k,.sl tg 0 1 cap,vL];have l1:σ.next<(σ.new [.int .i64 k,.sl tg 0 1 cap,vL]).next:=Nat.lt_succ_self _;have l2:tg<(σ.new [.int .i64 k,.sl tg 0 1 cap,vL]).next:=by show tg<σ.next+1;omega
 generalize σ.new [.int .i64 k,.sl tg 0 1 cap,vL]=H at *
 have gX:need k=1:=by rcases jM with rfl|rfl|rfl<;>rfl
 refine zDa ob l1 ⟨At,l2⟩ hp sz hL bF (by omega) gX fun t ht=>?_
 cases t with
 |false=>
  have nc:¬ZF k [g] L:=fun h=>by have:=ht.2 h;cases this
  unfold resC at hk
  rw[if_pos nc]at hk
  simp only[Z3,seval,-ah];exact Gh.fin0 kH ⟨trivial,trivial,trivial⟩ hk
 |true=>
  simp only[Z3,seval,-ah];refine zGj ob l1 ⟨At,l2⟩ hp sz hL bF jM (ht.1 rfl) ?_;simp only[Z3,seval,-ah];exact Gh.fin0 kH ⟨trivial,trivial,trivial⟩ hk
end Go.Proofs
