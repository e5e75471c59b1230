/- . -/
import Derived.Test.YtgkbfiilhocioaaGreatFP5
import Derived.Test.YtgkbfiilhocioaaGreatRows
import Derived.Lib.SmallJoins
import Derived.WalkKit
import Derived.ProofKit
open Nat renaming le_refl→vM
open Int renaming reduceNatCast'->ae
set_option maxRecDepth 100000
namespace Go.Grp
end Go.Grp
set_option linter.unusedSimpArgs false
set_option linter.unusedVariables false
namespace Go.Proofs
open Go.Ab Go.Lie Go.Grp
variable{σ:PHeap}{K:PV->PHeap->Prop}{O:V1}{P:V2}{C:V3}{vO vP vC vx vy vL:PV}{x y a b:V1}{L:V2}{rb:List PV}{D:List (Option V1)}{d sp ss sb:Nat}
theorem Keep.self{rb:List PV}{h:PHeap}(hb:σ.obj sb=some rb)(k:Keep σ h):Keep (σ.set sb rb) h:=⟨k.next,k.top,λt ht=>by
 rw[k.obj t ht,zH];split
 .rename_i e;rw[e];exact hb
 .rfl⟩
theorem Gh.finB{σ0 σ1:PHeap}{rb:List PV}{v:PV}(Io:sb<σ0.next)(hk:Keep (σ0.set sb rb) σ1)(hb:Bels 0 rb)(hv:Bel σ0.next v)(k:K v (σ0.set sb rb)):Gh σ0 K v σ1:=λw=>
 Gh.cut (σ2:=σ0.set sb rb) rfl hk.top (λt cs ht=>by
  have ah:t<σ0.next:=by
   rw[zH]at ht;split at ht
   .rename_i e;rw[e];exact Io
   .exact w.lt ht
  refine⟨ah,by rw[hk.obj t ah];exact ht,?_⟩;rw[zH]at ht;split at ht
  .cases ht;exact .inr (hb.up (Nat.zero_le _))
  .exact .inl ht) hv k w
theorem zCx(s:Shp O P C)(F:Full O P C O.length)(hs:PtrG σ sp vO vP vC)(hR:IsPr vO vP vC O P C)(hx:gS O x)(hy:gS O y)(aX:FI vx x)(fw:FI vy y)(hk:∀v,FI v (gcom O P C x y)->K v σ):
  zA Tryz.prog 235 [.ptr sp 0,vx,vy] σ K:=by
 have G:=F.g;have up:∀{z:V1},gS O z->TT O (O.length-O.length) z:=λh=>by rw[Nat.sub_self];exact h
 have dn:∀{z:V1},TT O (O.length-O.length) z->gS O z:=λh=>by rw[Nat.sub_self]at h;exact h
 refine zD mix Tryz.func235 ?_
 conv=>arg 2;cbv
 refine zF rfl ?_;simp only[Z3,seval,-ae];refine zGp s F hs hR (up hx) aX λv1 z1 h1 e1 f1=>?_;simp only[Z3,seval,-ae];refine zAH s F hs hR (up hx) (up hy) aX fw λv2 z2 h2 e2 f2=>?_;simp only[Z3,seval,-ae];refine zBy s F hs hR h1 h2 f1 f2 λv3 f3=>?_;simp only[Z3,seval,-ae];have e:mu O P C O.length z1 z2=gcom O P C x y:=by
  refine G.com_eq hx hy (G.cl (dn h1) (dn h2)) ?_;have i1:z1=ginv (gS O) (gm O P C) (zv O) x:=G.inv_eq hx (dn h1) e1;show gm O P C (gm O P C y x) (gm O P C z1 z2)=gm O P C x y;have H7:gm O P C x (gm O P C z1 z2)=z2:=by rw[<-G.as hx (dn h1) (dn h2),show gm O P C x z1=zv O from e1,G.l1 (dn h2)]
  rw[G.as hy hx (G.cl (dn h1) (dn h2)),H7];exact e2
 rw[e]at f3;exact hk v3 f3
theorem zNp(s:Shp O P C)(F:Full O P C O.length)(hC:Cent O C)(hp:∀o∈O,isP o)(hq:SeqG σ ss sb sp O.length rb vO vP vC)(hR:IsPr vO vP vC O P C)(hD:OkD O D)(bD:All2 (DRow O.length) rb D)(wI:QI O P C D [])(hL:FII vL L)(hg:∀x∈L,gS O x)(yK:L.length<=1000000)
  (hk:∀(t:Bool) rb' D',All2 (DRow O.length) rb' D'->OkD O D'->QI O P C D' []->(∀N,gB O P C N->(InD N D'↔(InD N D/\∀q∈L,N q)))->free D'<=free D->(t=true->free D'<free D)->K (.bool t) (σ.set sb rb')):
  zA Tryz.prog 194 [.ptr ss 0,vL] σ K:=by
 have aN:=s.le;have CG:=zBC D;rw[hD.len]at CG;have G:=F.g;have up:∀{z:V1},gS O z->TT O (O.length-O.length) z:=λh=>by rw[Nat.sub_self];exact h
 obtain⟨wl,al,rl,rfl,bp⟩:=hL;have aJ:=hR;obtain⟨⟨w0,a0,rfl⟩,_,_⟩:=hR;refine zA.gh ?_;refine zN mix Tryz.func194 cf194 rfl ?_;dsimp only[if194,qI,eI,qD,eD,mI0,kI0,tI0,lI0,fI0,xI0,bI0,cI0,sI0,pI0,C1,C2,C3,mD0,lD0,fD0,xD0,pD0,I0,yI0,vI0,R0,S0];simp only[Z3,seval,-ae];refine zI2 bp.1 (bp.bI 0) (by omega) λvQ h1 k1 q1=>?_;simp only[Z3,seval,-ae];refine zG (λm vs h'=>∃g Q vQ rb' D' rq,m=10*free D'+Q.length/\vs=[.ptr ss 0,.bool g,vQ]/\Keep (σ.set sb rb') h'/\PQ σ.next h' vQ Q.length rq/\All2 FI rq Q/\(∀x∈Q,gS O x)/\All2 (DRow O.length) rb' D'/\OkD O D'/\QI O P C D' Q/\(∀N,gB O P C N->((InD N D'/\∀q∈Q,N q)↔(InD N D/\∀q∈L,N q)))/\free D'<=free D/\(g=true->free D'<free D)/\Q.length+10*free D'<=L.length+10*free D) (10*free D+L.length) ?_ ?_
 .exact⟨false,L,vQ,rb,D,rl,rfl,rfl,Keep.self hq.bobj k1,q1,bp,hg,bD,hD,wI.mem (λq hq=>by cases hq),λN _=>Iff.rfl,vM _,by simp,vM _⟩
 clear k1 q1 vQ h1
 as_aux_lemma=>
 rintro m vs h' ⟨g,Q,vQ,rb',D',rq,rfl,rfl,aq,sI,je,vw,fH,jY,C7,hS,E2,E1,hb⟩
 have bm:=(hq.setB rb').keep aq;cases Q with
 |nil=>
  have hlen:pLen vQ=some (.int .i64 0):=sI.pLen;simp only[Z3,seval,-ae,hlen];exact Gh.finB hq.blt aq (DRow.bels fH 0) trivial (hk g rb' D' fH jY C7 (λN hN=>⟨λh=>(hS N hN).1 ⟨h,λq hq=>(by cases hq)⟩,λh=>((hS N hN).2 h).1⟩) E2 E1)
 |cons x Q=>
  have hlen:=sI.pLen;obtain⟨c,fv,rfl,hc,gw⟩:∃c fv,rq=c::fv/\FI c x/\All2 FI fv Q:=by
   cases rq with
   |nil=>exact absurd je.1 (by simp)
   |cons c fv=>exact⟨c,fv,rfl,je.2 0 c x rfl rfl,⟨by simpa using je.1,λk a b ha hb=>je.2 (k+1) a b (by simpa using ha) (by simpa using hb)⟩⟩
  obtain⟨sq,off,cap,ef,rfl,bM,aF,kz,mX⟩:=sI.uncons;have oB:=hc;obtain⟨w4,a4,rfl⟩:=hc;have hx:=vw x (by simp);have kX:∀q∈Q,gS O q:=λq hq=>vw q (List.mem_cons_of_mem _ hq);have CF:=zBC D';rw[jY.len]at CF;simp only[List.length_cons]at hlen kz mX aF hb ⊢;have jj:(0:Int)<((Q.length+1:Nat):Int):=by omega
  rw[Nat.add_sub_cancel]at mX;simp only[Z3,seval,-ae,hlen,jj,aF,bM,kz];refine zPR s F hC bm aJ jY fH hx oB λvz z fz gz cE cf=>?_;obtain⟨wz,az,rfl⟩:=fz;have dQ:=gz.len;simp only[Z3,seval,-ae,hlen,jj,aF,bM,kz];refine zAG rfl (by omega) ?_;by_cases hd:dep z<O.length;rotate_left
  .have dY:dep z=O.length:=by have:=Zz z;omega
   have ck:=zDP gz (by omega);simp only[Z3,seval,-ae,dQ,dY];refine⟨_,?_,g,Q,ef,rb',D',fv,rfl,rfl,aq,mX,gw,kX,fH,jY,C7.drop (by rw[<-ck];exact cf),λN hN=>?_,E2,E1,by omega⟩
   .omega
   .rw[<-hS N hN];refine⟨λ⟨h1,h2⟩=>⟨h1,λq hq=>?_⟩,λ⟨h1,h2⟩=>⟨h1,λq hq=>h2 q (List.mem_cons_of_mem _ hq)⟩⟩;rcases List.mem_cons.1 hq with rfl|hq
    .rw[cf.iff F hN h1,ck];exact hN.one
    .exact h2 q hq
  have hdz:dep z<z.length:=by omega
  have wN:=hp _ (List.getElem_mem hd);have bO:=wN.bd;have bz:=gz.bd _ hd;have nz:=qa hdz;rw[at_eq hdz]at bz nz;rw[at_eq hd]at bz;have dY:((dep z:Int)=(z.length:Int))=False:=by simp;omega
  have rr:∀{h:PHeap},SeqG h ss sb sp O.length rb' (.fz w0 a0 O.length (pis O)) vP vC->h.rd1 ss 0=some (.ptr sp 0)/\h.rd1 ss 1=some (.sl sb 0 O.length (.known O.length))/\h.rd1 sp 0=some (.fz w0 a0 O.length (pis O)):=λq=>⟨by rw[zI q.obj];rfl,by rw[zI q.obj];rfl,by rw[zI q.pg.obj];rfl⟩
  obtain⟨r0,r1,e0⟩:=rr bm;simp only[Z3,seval,-ae,hd,dY,r0,e0,zU,gi hdz,gi hd,hdz];refine zCt wN ⟨by omega,bz.2⟩ λq qb q1 q2 q3=>?_;simp only[Z3,seval,-ae,hd,dY,r0,e0,zU,gi hdz,gi hd,hdz];refine PQ.push (bytes:=24) (σb:=σ.set sb rb') aq mX (by omega) (by omega) λv1 h1 k1 p1=>?_;have yn:=(hq.setB rb').keep k1;obtain⟨s0,s1,f0⟩:=rr yn;simp only[Z3,seval,-ae,s0,s1,f0];refine zOG s F (by omega) yn.pg aJ gz ⟨wz,az,rfl⟩ (k:=q) (by omega) λoy mc=>?_;obtain⟨y1,y2⟩:=zAR s F hC hd (zAg gz) q.toNat;have kj:at_ (Grp.pw (gm O P C) (zv O) z q.toNat) (dep z)=1:=by
   rw[y2,at_eq hdz,at_eq hd,Int.toNat_of_nonneg q1,Int.mul_comm];exact q3
  have Db:∀N,gB O P C N->N z->N (Grp.pw (gm O P C) (zv O) z q.toNat):=λN hN h=>hN.pw h _;generalize Grp.pw (gm O P C) (zv O) z q.toNat=y at *
  have yS:gS O y:=y1.mono (Nat.zero_le _);have dz:=yS.len;simp only[Z3,seval,-ae,s0,s1,f0,zU,gi hd,hd];refine zEY s F yn.pg aJ (up yS) ⟨true,.sl oy 0 O.length mc,by rw[dz]⟩ (k:=O[dep z]) (by omega) λvo fo=>?_;have KJ:=fo;obtain⟨wo,ao,rfl⟩:=fo;simp only[Z3,seval,-ae,s0,s1,f0,zU,gi hd,hd];refine PQ.push (bytes:=24) (σb:=σ.set sb rb') k1 p1 (by omega) (by omega) λv2 h2 k2 p2=>?_;have mY:=(hq.setB rb').keep k2;obtain⟨t0,t1,g0⟩:=rr mY;have Ds:gS O (Grp.pw (gm O P C) (zv O) y O[dep z].toNat):=G.pw yS _;have xj:FI (.fz wz az z.length (pis z)) z:=⟨wz,az,rfl⟩;have BM:All2 FI ((fv++[.fz wz az z.length (pis z)])++[.fz wo ao _ (pis (Grp.pw (gm O P C) (zv O) y O[dep z].toNat))]) ((Q++[z])++[Grp.pw (gm O P C) (zv O) y O[dep z].toNat]):=(gw.snoc xj).snoc KJ;have rE:∀q∈(Q++[z])++[Grp.pw (gm O P C) (zv O) y O[dep z].toNat],gS O q:=λq hq=>by
   rcases List.mem_append.1 hq with hq|hq
   .rcases List.mem_append.1 hq with hq|hq
    .exact kX q hq
    .rw[List.mem_singleton.1 hq];exact gz
   .rw[List.mem_singleton.1 hq];exact Ds
  simp only[Z3,seval,-ae,t0,t1,g0];generalize lI:(Q++[z])++[Grp.pw (gm O P C) (zv O) y O[dep z].toNat]=Q2 at *
  have rR:Q2.length=Q.length+1+1:=by rw[<-lI];simp
  have Ce:z∈Q2:=by rw[<-lI];simp
  have Ch:∀q∈Q,q∈Q2:=λq hq=>by rw[<-lI];simp[hq]
  have oi:Grp.pw (gm O P C) (zv O) y O[dep z].toNat∈Q2:=by rw[<-lI];simp
  have lL:∀N,gB O P C N->N y->((∀q∈Q2,N q)↔(∀q∈Q,N q)/\N z):=λN hN hy=>by
   rw[<-lI];refine⟨λh=>⟨λq hq=>h q (by simp[hq]),h z (by simp)⟩,λ⟨h3,h4⟩ q hq=>?_⟩;rcases List.mem_append.1 hq with hq|hq
   .rcases List.mem_append.1 hq with hq|hq
    .exact h3 q hq
    .rw[List.mem_singleton.1 hq];exact h4
   .rw[List.mem_singleton.1 hq];exact hN.pw hy _
  generalize (fv++[PV.fz wz az z.length (pis z)])++[.fz wo ao _ (pis (Grp.pw (gm O P C) (zv O) y O[dep z].toNat))]=G3 at *
  rw[<-rR]at p2;refine zG (λm us h3=>∃(i:Nat) (vQ:PV) (E:V2) (re:List PV),i<=O.length/\m=O.length-i/\us=[.ptr ss 0,.bool true,vQ,.fz true (.sl oy 0 O.length mc) O.length (pis y),.int .i64 (dep z),.sl sb 0 O.length (.known O.length),.int .i64 O.length,.int .i64 i]/\Keep (σ.set sb rb') h3/\PQ σ.next h3 vQ (Q2++E).length re/\All2 FI re (Q2++E)/\(∀q∈E,gS O q)/\E.length<=i/\(∀(e:Nat) (b:V1),e<i->D'[e]? = some (some b)->gcom O P C b y∈E)/\∀N,gB O P C N->InD N D'->N y->∀q∈E,N q) O.length ?_ ?_
  .exact⟨0,v2,[],_,by omega,by omega,rfl,k2,by rw[List.append_nil];exact p2,by rw[List.append_nil];exact BM,λq hq=>(by cases hq),vM _,λe b h=>(by omega),λN _ _ _ q hq=>(by cases hq)⟩
  clear k2 p2 v2 h2 mY t0 t1 g0
  as_aux_lemma=>
  rintro m us h3 ⟨i,vQ,E,re,hi,rfl,rfl,k3,p3,jT,ow,Km,oD,oM⟩
  have oa:=(hq.setB rb').keep k3;obtain⟨t0,t1,g0⟩:=rr oa;simp only[Z3,seval,-ae];refine iteI (λah=>?_) λaG=>?_;rotate_left
  .have ny:dep z<rb'.length:=by rw[fH.1,jY.len];exact hd
   have jc:h3.wr sb (dep z) [.fz true (.sl oy 0 O.length mc) O.length (pis y)]=some (h3.set sb (rb'.set (dep z) (.fz true (.sl oy 0 O.length mc) O.length (pis y)))):=by
    rw[qC oa.bobj,if_pos ⟨by rw[List.length_singleton];omega,rfl⟩,List.append_assoc,List.singleton_append,List.length_singleton,take_set _ ny]
   simp only[Z3,seval,-ae,t1,hd,jc];have dW:D'[dep z]? = some none:=cE hd;have dL:=zEl (y:=y) dW;refine⟨_,?_,true,Q2++E,vQ,_,D'.set (dep z) (some y),re,rfl,rfl,?_,?_,jT,?_,DRow.put (o:=oy) (cap:=mc) fH,jY.put hd y1 kj,C7.put cf dW (by simp[Ce]) (λq hq=>by simp[Ch q hq]) (by rw[at_eq hd];simp[oi]) (λe b hb=>.inl (by
    have:=oD e b (by
     rcases Nat.lt_or_ge e D'.length with h|h
     .have:=jY.len;omega
     .rw[List.getElem?_eq_none h]at hb;cases hb) hb
    simp[this])),λN hN=>?_,by omega,λ_=>by omega,?_⟩
   .simp only[List.length_append];omega
   .exact⟨k3.next,k3.top,λt ht=>by
     rw[zH,zH];split
     .rfl
     .rename_i e
      have:=k3.obj t ht
      rw[zH,if_neg e]at this;exact this⟩
   .exact p3.set hq.blt _
   .intro q hq;rcases List.mem_append.1 hq with hq|hq
    .exact rE q hq
    .exact ow q hq
   .rw[<-hS N hN,InD.put dW];constructor
    .rintro⟨⟨g1,g2⟩,g3⟩
     obtain⟨g4,g5⟩:=(lL N hN g2).1 λq hq=>g3 q (by simp[hq]);refine⟨g1,λq hq=>?_⟩;rcases List.mem_cons.1 hq with rfl|hq
     .exact(cf.iff F hN g1).2 g5
     .exact g4 q hq
    .rintro⟨g1,g2⟩
     have wW:=(cf.iff F hN g1).1 (g2 x (by simp));have gy:=Db N hN wW;refine⟨⟨g1,gy⟩,λq hq=>?_⟩;rcases List.mem_append.1 hq with hq|hq
     .exact(lL N hN gy).2 ⟨λq hq=>g2 q (List.mem_cons_of_mem _ hq),wW⟩ q hq
     .exact oM N hN g1 gy q hq
   .simp only[List.length_append];omega
  have aE:i<O.length:=by omega
  have dG:=zI oa.bobj i;rcases DRow.get fH (d:=i) (by rw[jY.len];exact aE)with ⟨e1,e2⟩|⟨oo,cap,b,e1,e2⟩
  .rw[e1]at dG;simp only[Z3,seval,-ae,aE,dG,wrapS aE (by omega:O.length<=4611686018427387904)];refine⟨_,by omega,i+1,vQ,E,re,by omega,rfl,rfl,k3,p3,jT,ow,by omega,λe b h1 h2=>?_,oM⟩;rcases Nat.lt_or_ge e i with h|h
   .exact oD e b h h2
   .rw[show e=i by omega,e2]at h2;cases h2
  .rw[e1]at dG;have bS:gS O b:=(jY.row _ _ e2).1.mono (Nat.zero_le _);simp only[Z3,seval,-ae,aE,dG,t0];refine zCx s F oa.pg aJ bS yS ⟨true,_,by rw[bS.len]⟩ ⟨true,_,by rw[dz]⟩ λvc fc=>?_;have KN:=fc;obtain⟨wc,ac,rfl⟩:=fc;simp only[Z3,seval,-ae];refine PQ.push (bytes:=24) (σb:=σ.set sb rb') k3 p3 (by rw[List.length_append];omega) (by rw[List.length_append];omega) λv4 h4 k4 p4=>?_;simp only[Z3,seval,-ae,wrapS aE (by omega:O.length<=4611686018427387904)];refine⟨_,by omega,i+1,v4,E++[gcom O P C b y],re++[.fz wc ac (gcom O P C b y).length (pis (gcom O P C b y))],by omega,rfl,rfl,k4,?_,?_,?_,?_,?_,?_⟩;rotate_left
   .rw[<-List.append_assoc];exact jT.snoc KN
   .intro q hq;rcases List.mem_append.1 hq with hq|hq
    .exact ow q hq
    .rw[List.mem_singleton.1 hq];exact G.com_in bS yS
   .simp;omega
   .intro e b' h1 h2;rcases Nat.lt_or_ge e i with h|h
    .simp[oD e b' h h2]
    .rw[show e=i by omega,e2]at h2;cases h2;simp
   .intro N hN wS hy q hq;rcases List.mem_append.1 hq with hq|hq
    .exact oM N hN wS hy q hq
    .rw[List.mem_singleton.1 hq];exact hN.com_in (wS _ _ e2) hy
   .rw[<-List.append_assoc,List.length_append,List.length_singleton];exact p4
end Go.Proofs
namespace Go.Proofs
open Go.Ab Go.Lie Go.Grp
variable{σ:PHeap}{K:PV->PHeap->Prop}{O:V1}{P:V2}{C:V3}{vO vP vC vx vU:PV}{x z a b:V1}{u:V2}{j sp:Nat}
def Ones(O:V1)(u:V2):Prop:=∀v∈u,gS O v/\dep v<O.length/\at_ v (dep v)=1
theorem zOj{o z:Int}(ho:2<=o)(hz:0<=z/\z<o)(h0:z≠0):((o-(z+1) % o) % o).toNat<((o-z) % o).toNat:=by
 have e:(o-z) % o=o-z:=Int.emod_eq_of_lt (by omega) (by omega);rw[e];by_cases h:z+1=o
 .rw[h,Int.emod_self,Int.sub_zero,Int.emod_self];omega
 .rw[Int.emod_eq_of_lt (a:=z+1) (by omega) (by omega),Int.emod_eq_of_lt (by omega) (by omega)];omega
theorem zA0(s:Shp O P C)(F:Full O P C O.length)(hC:Cent O C)(hn:0<O.length)(hs:PtrG σ sp vO vP vC)(hR:IsPr vO vP vC O P C)(hU:FII vU u)(hu:Ones O u)(jO:u.Pairwise λa b=>dep a<dep b)(cq:u.length<=1000)(hx:gS O x)(aX:FI vx x)
  (hk:∀o cap z,gS O z->(∀t,(∀v∈u,t<dep v)->∀j,j<=t->at_ z j=at_ x j)->(∀v∈u,at_ z (dep v)=0)->(∀N,gB O P C N->(∀v∈u,N v)->(N x↔N z))->K (.fz true (.sl o 0 O.length cap) O.length (pis z)) σ):
  zA Tryz.prog 209 [.ptr sp 0,vU,vx] σ K:=by
 have aN:=s.le;have aW:=hx.len;have bK:=hs.lt;obtain⟨wx,ax,rfl⟩:=aX;have oH:=hU;obtain⟨wl,al,rl,rfl,bp⟩:=hU;refine zA.gh ?_;refine zD mix Tryz.func209 ?_
 conv=>arg 2;cbv
 refine zF rfl ?_;simp only[Z3,seval,-ae];refine Zh rfl (by omega) ⟨λh0=>absurd aW (by rw[h0];simp;omega),λcap hc=>?_⟩;rw[aW]at hc ⊢;simp only[Z3,seval,-ae];refine zBe oH (λv hv=>⟨by rw[(hu v hv).1.len];exact(hu v hv).2.1,by rw[(hu v hv).1.len];omega⟩) (by omega) λvp=>?_;simp only[Z3,seval,-ae];refine zG (λm vs h'=>∃(i:Nat) (z:V1),i<=u.length/\m=u.length-i/\vs=[.ptr sp 0,.fz wl al u.length rl,.sl σ.next 0 O.length cap,.fz true vp u.length (pis (deps u)),.int .i64 u.length,.int .i64 i]/\h'=σ.new (pis z)/\gS O z/\(∀t,(∀v∈u,t<dep v)->∀j,j<=t->at_ z j=at_ x j)/\(∀k (hk:k<u.length),k<i->at_ z (dep u[k])=0)/\(∀N,gB O P C N->(∀v∈u,N v)->(N x↔N z))) u.length ⟨0,x,by omega,by omega,rfl,rfl,hx,λ_ _ _ _=>rfl,λk _ h=>by omega,λ_ _ _=>Iff.rfl⟩ ?_
 rintro m vs h' ⟨i,z,hi,rfl,rfl,rfl,hz,hj,h0,hN⟩
 simp only[Z3,seval,-ae];refine iteI (λah=>?_) λaG=>?_;rotate_left
 .exact Gh.finF (zC σ _) (by simp only[Z3,seval,-ae]) (vM _) (zL _ _) hc.ok λo=>hk o cap z hz hj (λv hv=>by
   obtain⟨k,di,rfl⟩:=List.mem_iff_getElem.1 hv;exact h0 k di (by omega)) hN
 obtain⟨w4,a4,hr⟩:=bp.rowI ah;obtain⟨u1,u2,u3⟩:=hu _ (List.getElem_mem ah);have aM:u[i]∈u:=List.getElem_mem ah;have yo:(deps u)[i]? = some (dep u[i]:Int):=by simp[deps,ah]
 simp only[Z3,seval,-ae,ah,zU,yo];refine zG (λm vs h'=>∃(z:V1),m=((at_ O (dep u[i])-at_ z (dep u[i])) % at_ O (dep u[i])).toNat/\vs=[.ptr sp 0,.fz wl al u.length rl,.sl σ.next 0 O.length cap,.int .i64 i,.int .i64 (dep u[i]),.fz true vp u.length (pis (deps u)),.int .i64 u.length,.int .i64 i]/\h'=σ.new (pis z)/\gS O z/\(∀t,(∀v∈u,t<dep v)->∀j,j<=t->at_ z j=at_ x j)/\(∀k (hk:k<u.length),k<i->at_ z (dep u[k])=0)/\(∀N,gB O P C N->(∀v∈u,N v)->(N x↔N z))) _ ⟨z,rfl,rfl,rfl,hz,hj,h0,hN⟩ ?_;clear hz hj hN h0 z
 rintro m vs h' ⟨z,rfl,rfl,rfl,hz,hj,h0,hN⟩
 have dQ:=hz.len;have hdz:dep u[i] < z.length:=by omega
 have bz:=hz.bd _ u2;have bO:=s.pr _ u2;simp only[Z3,seval,-ae,u2,pisAt hdz];refine iteI (λheq=>?_) λkI=>?_
 .simp only[Z3,seval,-ae,wrapS ah (by omega:u.length<=4611686018427387904)];refine⟨_,by omega,i+1,z,by omega,rfl,rfl,rfl,hz,hj,λk di hk=>?_,hN⟩;rcases Nat.lt_or_ge k i with h|h
  .exact h0 k di h
  .have e:k=i:=by omega
   subst e;exact heq
 .obtain⟨g1,g2,g3⟩:=zN7 s F hC u2 hz (zAg u1) u3;simp only[Z3,seval,-ae,ah,hr];refine QZ s F (hs.new _) hR (x:=z) (by simp only[Z3,seval,-ae]) (by simp only[Z3,seval,-ae]) (by omega) hc (by rw[Nat.sub_self];exact hz) (by rw[Nat.sub_self];exact u1) ⟨w4,a4,rfl⟩ ?_;simp only[Z3,seval,-ae];refine⟨_,?_,_,rfl,rfl,g1,λt ht j I2=>?_,λk di hk=>?_,λN h1 h2=>(hN N h1 h2).trans ⟨λh=>h1.cl h (h2 _ aM),λh=>h1.quotR F.g (h2 _ aM) hz h⟩⟩
  .show((at_ O (dep u[i])-at_ (gm O P C z u[i]) (dep u[i])) % at_ O (dep u[i])).toNat<_
   rw[g3];exact zOj bO.1 bz kI
  .show at_ (gm O P C z u[i]) j=_;rw[g2 j (by have:=ht _ aM;omega)];exact hj t ht j I2
  .show at_ (gm O P C z u[i]) (dep u[k])=0;rw[g2 _ (List.pairwise_iff_getElem.1 jO k i di ah hk)];exact h0 k di hk
end Go.Proofs
namespace Go.Proofs
open Go.Ab Go.Lie Go.Grp
variable{σ:PHeap}{K:PV->PHeap->Prop}{O:V1}{P:V2}{C:V3}{vO vP vC vU:PV}{x y z a b g:V1}{u:V2}{rb:List PV}{D:List (Option V1)}{d j sp ss sb n:Nat}
theorem zCB(s:Shp O P C)(hs:PtrG σ sp vO vP vC)(hR:IsPr vO vP vC O P C)(hk:∀ss sb h',Keep σ h'->σ.next<=ss->σ.next<=sb->SeqG h' ss sb sp O.length (List.replicate O.length (.fz true .nils 0 [])) vO vP vC->K (.ptr ss 0) h'):
  zA Tryz.prog 193 [.ptr sp 0] σ K:=by
 have aN:=s.le;have bK:=hs.lt;obtain⟨⟨w0,a0,rfl⟩,_,_⟩:=hR;have e0:σ.rd1 sp 0=some (.fz w0 a0 O.length (pis O)):=by rw[zI hs.obj];rfl
 refine zD mix Tryz.func193 ?_
 conv=>arg 2;cbv
 refine zF rfl ?_;simp only[Z3,seval,-ae,e0,mk24 (n:=O.length) (by omega),mkL (n:=O.length) (by omega)];exact hk (σ.next+1) σ.next _ ((zC σ _).new _) (by omega) (vM _) ⟨by simp only[Z3,seval,-ae],by simp only[Z3,seval,-ae],by simp only[Z3,seval,-ae],by simp only[Z3,seval,-ae];omega,(hs.new _).new _,by omega,by omega⟩
theorem zDS(s:Shp O P C)(F:Full O P C O.length)(hC:Cent O C)(hq:SeqG σ ss sb sp O.length rb vO vP vC)(hR:IsPr vO vP vC O P C)(hD:OkD O D)(bD:All2 (DRow O.length) rb D)
  (hk:∀v u,FII v u->CanD O P C D u->K v σ):zA Tryz.prog 195 [.ptr ss 0] σ K:=by
 have aN:=s.le;have r0:σ.rd1 ss 0=some (.ptr sp 0):=by rw[zI hq.obj];rfl
 have r1:σ.rd1 ss 1=some (.sl sb 0 O.length (.known O.length)):=by rw[zI hq.obj];rfl
 have hw:IntKind.i64.wrap ((O.length:Int)-1)=(O.length:Int)-1:=wrap64 (by omega) (by omega);refine zA.gh ?_;refine zD mix Tryz.func195 ?_
 conv=>arg 2;cbv
 refine zF rfl ?_;simp only[Z3,seval,-ae,r1,hw];refine ZG (λm vs h2=>∃(k:Nat) (vO:PV) (u:V2),k<=O.length/\m=k/\vs=[.ptr ss 0,vO,.int .i64 ((k:Int)-1)]/\Keep σ h2/\FII vO u/\Ones O u/\u.length+k<=O.length/\(∀v∈u,k<=dep v)/\(u.Pairwise λa b=>dep a<dep b)/\(∀v∈u,∀w∈u,dep v≠dep w->at_ v (dep w)=0)/\(∀(d:Nat) (y:V1),k<=d->D[d]? = some (some y)->∃v∈u,dep v=d)/\(∀N,gB O P C N->((∀x∈u,N x)↔∀d y,k<=d->D[d]? = some (some y)->N y))) O.length (.here ⟨O.length,_,[],vM _,rfl,rfl,Keep.refl σ,⟨_,_,_,rfl,All2.nil _⟩,λv hv=>(by cases hv),by simp,λv hv=>(by cases hv),List.Pairwise.nil,λv hv=>(by cases hv),λd y h1 h2=>?_,λN hN=>⟨λ_ d y h1 h2=>?_,λ_ x hx=>(by cases hx)⟩⟩) ?_
 .rw[List.getElem?_eq_none (by rw[hD.len];exact h1)]at h2;cases h2
 .rw[List.getElem?_eq_none (by rw[hD.len];exact h1)]at h2;cases h2
 rintro m vs h2 ⟨k,vU,u,bF,rfl,rfl,bV,hU,hu,cq,uE,jO,pV,lA,hN⟩
 rcases Nat.eq_zero_or_pos m with rfl|oi
 .simp only[Z3,seval,-ae,show ¬((0:Int)<=((0:Nat):Int)-1) by omega];exact Gh.fin0 bV (hU.bel _) (hk vU u hU ⟨hu,jO,pV,λd y hy=>lA d y (Nat.zero_le _) hy,by omega,λN h1=>(hN N h1).trans ⟨λh d y hy=>h d y (Nat.zero_le _) hy,λh d y _ hy=>h d y hy⟩⟩)
 obtain⟨k,rfl⟩:∃k,m=k+1:=⟨m-1,by omega⟩
 have e:((k+1:Nat):Int)-1=(k:Int):=by omega
 have dh:k<O.length:=bF;have bM:=zI (hq.keep bV).bobj k;have G6:h2.rd1 ss 0=some (.ptr sp 0):=by rw[zI (hq.keep bV).obj];rfl
 have DZ:h2.rd1 ss 1=some (.sl sb 0 O.length (.known O.length)):=by rw[zI (hq.keep bV).obj];rfl
 rw[e];have gP:IntKind.i64.wrap ((k:Int)-1)=(k:Int)-1:=wrap64 (by omega) (by omega);rcases DRow.get bD (d:=k) (by rw[hD.len];exact dh)with ⟨e1,e2⟩|⟨oo,cap,y,e1,e2⟩
 .rw[e1]at bM;simp only[Z3,seval,-ae,dh,DZ,bM,gP];refine⟨_,Nat.lt_succ_self k,.here ⟨k,vU,u,by omega,rfl,rfl,bV,hU,hu,by omega,λv hv=>by have:=uE v hv;omega,jO,pV,λd y hd hy=>?_,λN h1=>(hN N h1).trans ⟨λh d y hd hy=>?_,λh d y hd hy=>h d y (by omega) hy⟩⟩⟩
  .rcases Nat.lt_or_ge k d with x|x
   .exact lA d y x hy
   .rw[show d=k by omega,e2]at hy;cases hy
  rcases Nat.lt_or_ge k d with x|x
  .exact h d y x hy
  .rw[show d=k by omega,e2]at hy;cases hy
 .rw[e1]at bM;obtain⟨y1,y2⟩:=hD.row _ _ e2;have yS:gS O y:=y1.mono (Nat.zero_le _);simp only[Z3,seval,-ae,dh,G6,DZ,bM,gP];refine zA0 s F hC (by omega) (hq.keep bV).pg hR hU hu jO (by omega) yS ⟨true,_,by rw[y1.len]⟩ λoz cK z zS z1 z0 z2=>?_;have za:∀j,j<=k->at_ z j=at_ y j:=z1 k λv hv=>uE v hv;have zt:TT O k z:=⟨zS.len,zS.bd,λj hj=>by rw[za j (by omega)];exact y1.zero j hj⟩
  have zk:at_ z k=1:=by rw[za k (vM _)];exact y2
  have dQ:=zS.len;have zd:dep z=k:=by
   have h1:=dep_ge zt (by omega);rcases Nat.lt_or_ge k (dep z)with h|h
   .rw[zY h]at zk;omega
   .omega
  obtain⟨wO,aO,rO,rfl,uQ⟩:=hU;simp only[Z3,seval,-ae];refine PSl.cat (bytes:=24) (σb:=h2) (n:=1) (cs:=[.fz true (.sl oz 0 O.length cK) O.length (pis z)]) (zC h2 _) (PSl.new _ 1 rfl (vM _)) uQ.1 (by omega) (by omega) λv3 h3 k3 a3=>?_;obtain⟨s3,me,rfl,rN,yp,Co,rD,bn⟩:=a3;have aj:All2 FI ([.fz true (.sl oz 0 O.length cK) O.length (pis z)]++rO) (z::u):=(All2.nil FI |>.snoc (⟨true,_,by rw[dQ]⟩:FI (.fz true (.sl oz 0 O.length cK) O.length (pis z)) z)).append uQ;have IV:=bV.next;simp only[Z3,seval,-ae,gP];refine⟨k,Nat.lt_succ_self k,.fz s3 _ yp (aj.bI 0) λo1=>.here ⟨k,.fz true (.sl o1 0 (1+u.length) me) (1+u.length) ([.fz true (.sl oz 0 O.length cK) O.length (pis z)]++rO),z::u,by omega,rfl,?_,(bV.trans k3).kill (by omega),⟨true,_,_,by rw[List.length_cons,Nat.add_comm],aj⟩,?_,by simp;omega,?_,?_,?_,?_,λN h1=>?_⟩⟩
  .simp[sbs,Go.Ab.sb,rN.ok]
  .intro v hv;rcases List.mem_cons.1 hv with rfl|hv
   .exact⟨zS,by omega,by rw[zd];exact zk⟩
   .exact hu v hv
  .intro v hv;rcases List.mem_cons.1 hv with rfl|hv
   .omega
   .have:=uE v hv;omega
  .rw[List.pairwise_cons];exact⟨λv hv=>by have:=uE v hv;omega,jO⟩
  .intro v hv w hw ar;rcases List.mem_cons.1 hv with ev|bW
   .rcases List.mem_cons.1 hw with ew|gP
    .rw[ev,ew]at ar;exact absurd rfl ar
    .rw[ev];exact z0 w gP
   .rcases List.mem_cons.1 hw with ew|gP
    .rw[ew];exact zY (by have:=uE v bW;omega)
    .exact pV v bW w gP ar
  .intro d y' hd hy;rcases Nat.lt_or_ge k d with x|x
   .obtain⟨v,hv,e⟩:=lA d y' x hy;exact⟨v,List.mem_cons_of_mem _ hv,e⟩
   .exact⟨z,by simp,by omega⟩
  .have pN:(∀d y,k<=d->D[d]? = some (some y)->N y)↔(N y/\∀d y,k+1<=d->D[d]? = some (some y)->N y):=by
    refine⟨λh=>⟨h k y (vM _) e2,λd y hd hy=>h d y (by omega) hy⟩,λ⟨h3,h4⟩ d y' hd hy=>?_⟩;rcases Nat.lt_or_ge k d with x|x
    .exact h4 d y' x hy
    .rw[show d=k by omega,e2]at hy;cases hy;exact h3
   rw[pN,<-hN N h1,List.forall_mem_cons];refine⟨λ⟨h3,h4⟩=>⟨(z2 N h1 h4).2 h3,h4⟩,λ⟨h3,h4⟩=>⟨(z2 N h1 h4).1 h3,h4⟩⟩
noncomputable abbrev gcnj (O:V1) (P:V2) (C:V3) (x g:V1):V1:=cnj (gS O) (gm O P C) (zv O) x g
end Go.Proofs
namespace Go.Proofs
open Go.Ab Go.Lie Go.Grp
variable{σ:PHeap}{K:PV->PHeap->Prop}{O:V1}{P:V2}{C:V3}{vO vP vC:PV}{a:V1}{v:V2}{j sp:Nat}
theorem isCen.cent(s:Shp O P C)(h:isCen O C):Cent O C:=λi j kV hj=>by
 obtain⟨_,h2⟩:=h i (by omega);have hc:=s.cj i j kV hj;have h3:=h2 (j-i-1) (by omega);unfold cenE at h3;rw[show i+(1+(j-i-1))=j by omega]at h3;refine⟨⟨hc.len,hc.bd,λt ht=>?_⟩,h3.1⟩;have hl:t<(cvec C i j).length:=by rw[hc.len];omega
 rw[at_eq hl];exact h3.2 _ (by rw[List.mem_take_iff_getElem];exact⟨t,by omega,rfl⟩)
theorem zD6(i:Nat):((List.range (i+1)).map (Grp.unit O))=((List.range i).map (Grp.unit O))++[Grp.unit O i]:=by
 rw[List.range_succ,List.map_append];rfl
theorem zCu(s:Shp O P C)(hs:PtrG σ sp vO vP vC)(hR:IsPr vO vP vC O P C)(hk:∀v,FII v (ql O)->K v σ):zA Tryz.prog 227 [.ptr sp 0] σ K:=by
 have aN:=s.le;obtain⟨⟨w0,a0,rfl⟩,_,_⟩:=hR;have e0:∀{h:PHeap},Keep σ h->h.rd1 sp 0=some (.fz w0 a0 O.length (pis O)):=λk=>by rw[zI (hs.keep k).obj];rfl
 refine zA.gh ?_;refine zD mix Tryz.func227 ?_
 conv=>arg 2;cbv
 refine zF rfl ?_;simp only[Z3,seval,-ae,e0 (Keep.refl σ)];refine zG (λm vs h'=>∃(i:Nat) (v:PV) (rows:List PV),i<=O.length/\m=O.length-i/\vs=[.ptr sp 0,v,.int .i64 O.length,.int .i64 i]/\Keep σ h'/\PAcc σ.next 1 h' v i rows/\All2 FI rows ((List.range i).map (Grp.unit O))) O.length ?_ ?_
 .exact⟨0,_,[],by omega,by omega,rfl,Keep.refl σ,PAcc.nil _ _ _,All2.nil _⟩
 rintro m vs h' ⟨i,v,rows,hi,rfl,rfl,aq,ha,aj⟩
 simp only[Z3,seval,-ae];refine iteI (λah=>?_) λaG=>?_;rotate_left
 .have aK:i=O.length:=by omega
  subst aK;exact ha.fin aq (aj.bI 0) λa=>hk _ ⟨true,a,rows,by unfold ql;rw[List.length_map,List.length_range],aj⟩
 have aE:i<O.length:=by omega
 simp only[Z3,seval,-ae,e0 aq];refine qB (by omega) aE λa1=>?_;simp only[Z3,seval,-ae];refine PAcc.push (bytes:=24) aq ha (by omega) (by omega) λv' h2 k2 a2=>?_;simp only[Z3,seval,-ae,wrapS aE (by omega:O.length<=4611686018427387904)];refine⟨_,by omega,i+1,v',_,by omega,rfl,rfl,k2,a2.acc,?_⟩;rw[zD6];exact aj.snoc ⟨true,a1,by simp;rfl⟩
end Go.Proofs
namespace Go.Proofs
open Go.Ab Go.Lie Go.Grp
variable{O:V1}{P:V2}{C:V3}{j:Nat}
theorem Cons.full(s:Shp O P C)(hc:Cons O P C):Full O P C O.length:=full_of s (vM _) λj _ h=>hc j h
theorem qx.isp(h:qx O P C):∀o∈O,isP o:=h.2.2.2.1
end Go.Proofs
namespace Go.Proofs
open Go.Ab Go.Lie Go.Grp
variable{σ:PHeap}{K:PV->PHeap->Prop}{O:V1}{P:V2}{C:V3}{vO vP vC vx:PV}{x:V1}{d:Nat}
structure LG(O:V1)(P:V2)(C:V3):Prop where
 pr:qx O P C
 co:Cons O P C
 ce:isCen O C
theorem LG.s(g:LG O P C):Shp O P C:=g.pr.shp
theorem LG.F(g:LG O P C):Full O P C O.length:=Cons.full g.s g.co
theorem LG.cent(g:LG O P C):Cent O C:=g.ce.cent g.s
theorem zGe{p:Int}:∀{O:V1},(∀o∈O,o=p)->prodL O=p ^ O.length
 |[],_=>by simp[prodL]
 |o::O,h=>by
  rw[prodL,zGe λo ho=>h o (List.mem_cons_of_mem _ ho),h o (by simp),List.length_cons,Int.pow_succ,Int.mul_comm]
theorem zGk(g:LG O P C)(hR:IsPr vO vP vC O P C)(hx:gS O x)(aX:FI vx x){k:Int}(eC:0<=k/\k<=1000)(hk:∀v,FI v (Grp.pw (gm O P C) (zv O) x k.toNat)->K v σ):
  zA Tryz.prog 182 [.agg [vO,vP,vC],vx,.int .i64 k] σ K:=by
 have h0:=hR.O.one;have h1:=hR.P.one;have h2:=hR.C.one;have M:=g.F.g.toMon;have fe:¬k<0:=by omega
 refine zA.gh ?_;refine zD mix Tryz.func182 ?_
 conv=>arg 2;cbv
 refine zF rfl ?_;simp only[Z3,seval,-ae,h0,h1,h2,fe];refine zBV g.s (d:=O.length) (i:=0) (by omega) (zAV g.s (by omega)) M hR hx aX eC λv hv=>?_;simp only[Z3,seval,-ae];exact Gh.fin0 (zC σ _) (hv.bel _) (hk v hv)
end Go.Proofs
set_option linter.unusedSectionVars false
namespace Go.Grp
open Go.Ab Go.Lie
variable{O:V1}{P:V2}{C:V3}{x z a b g:V1}{t k d:Nat}
theorem Gp.pw_inv'{α:Type}[Inhabited α]{S:α->Prop}{m:α->α->α}{e z:α}(G:Gp S m e)(hz:S z)(k:Nat):Grp.pw m e (ginv S m e z) k=ginv S m e (Grp.pw m e z k):=by
 have iz:=(G.inv_in hz).1;refine G.inv_eq (G.pw hz k) (G.pw iz k) ?_
 induction k with
 |zero=>exact G.l1 G.one
 |succ k ih=>
  show m (m (Grp.pw m e z k) z) (m (Grp.pw m e (ginv S m e z) k) (ginv S m e z))=e;rw[G.pw_comm iz k,<-G.as (G.cl (G.pw hz k) hz) iz (G.pw iz k),G.as (G.pw hz k) hz iz,G.inv_r hz,G.r1 (G.pw hz k),ih]
section
variable(s:Shp O P C)(F:Full O P C O.length)(hC:Cent O C)
include s F hC
theorem zFB(ht:t<O.length)(hx:gS O x)(hb:TT O t b)(eU:at_ b t=1):
  gS O (gm O P C x (pw (gm O P C) (zv O) (ginv (gS O) (gm O P C) (zv O) b) (at_ x t).toNat))/\gm O P C (gm O P C x (pw (gm O P C) (zv O) (ginv (gS O) (gm O P C) (zv O) b) (at_ x t).toNat)) (pw (gm O P C) (zv O) b (at_ x t).toNat)=x/\
  Upto O t (gm O P C x (pw (gm O P C) (zv O) (ginv (gS O) (gm O P C) (zv O) b) (at_ x t).toNat)) x/\at_ (gm O P C x (pw (gm O P C) (zv O) (ginv (gS O) (gm O P C) (zv O) b) (at_ x t).toNat)) t=0:=by
 have G:=F.g;have bS:gS O b:=hb.mono (Nat.zero_le _);have ib:=(G.inv_in bS).1;have bx:=hx.bd t ht;have pS:=G.pw bS (at_ x t).toNat;have qS:=G.pw ib (at_ x t).toNat;have hw:=G.cl hx qS;have e:gm O P C (gm O P C x (pw (gm O P C) (zv O) (ginv (gS O) (gm O P C) (zv O) b) (at_ x t).toNat)) (pw (gm O P C) (zv O) b (at_ x t).toNat)=x:=by
  rw[G.as hx qS pS,G.pw_inv' bS,G.inv_l pS,G.r1 hx]
 obtain⟨p1,p2⟩:=zAR s F hC ht hb (at_ x t).toNat;refine⟨hw,e,?_,?_⟩<;>generalize gm O P C x (pw (gm O P C) (zv O) (ginv (gS O) (gm O P C) (zv O) b) (at_ x t).toNat)=w at *
 .obtain⟨g1,g2⟩:=Zf s (d:=O.length) (b:=w) (a:=pw (gm O P C) (zv O) b (at_ x t).toNat) (t:=t) (vM _) (by omega) ht (by rw[Nat.sub_self];exact hw) p1;have e':mu O P C O.length w (pw (gm O P C) (zv O) b (at_ x t).toNat)=x:=e;rw[e']at g1;exactλj hj=>(g1 j hj).symm
 .obtain⟨g1,g2⟩:=Zf s (d:=O.length) (b:=w) (a:=pw (gm O P C) (zv O) b (at_ x t).toNat) (t:=t) (vM _) (by omega) ht (by rw[Nat.sub_self];exact hw) p1;have e':mu O P C O.length w (pw (gm O P C) (zv O) b (at_ x t).toNat)=x:=e;rw[e',p2,eU,Int.mul_one,Int.toNat_of_nonneg bx.1,Int.emod_eq_of_lt bx.1 bx.2,zNo]at g2;exact zEy bx (hw.bd t ht) g2.symm
end
end Go.Grp
namespace Go.Proofs
open Go.Ab Go.Lie Go.Grp
variable{O:V1}{x:V1}{j:Nat}
theorem isExp.gS(h:isExp O x):gS O x:=⟨h.1,λj hj=>by have:=h.2 j (by rw[h.1];exact hj);omega,λj hj=>by omega⟩
end Go.Proofs
namespace Go.Lie
open Go.Ab
variable{p:Int}{n:Nat}{W:V2}
theorem zGA(o:OkW p n W){u:V2}{x:V1}(hu:Base p n W u)(hx:El p n x):(∀j,at_ (redL p W u x) j=0)↔Gen p n W u (at_ x):=by
 have h1:=zBK o hu.els hx;have bg:=Zj o hu.els hx;constructor
 .intro h;refine(zM _).eqv _ _ (Eqv.of_eq λj=>?_) h1;rw[h j];omega
 .intro h;have h2:Gen p n W u (at_ (redL p W u x)):=(zM _).eqv _ _ (Eqv.of_eq λj=>by omega) ((zM _).sub h h1);rcases Nat.lt_or_ge (dep (redL p W u x)) n with hd|hd
  .obtain⟨v,hv,e⟩:=QN o hu bg h2 hd
   have:=(zAQ o hu.led hu.asc hx).1 v hv
   rw[e]at this;exact absurd this (qa (by rw[bg.1];exact hd))
  .intro j;rcases Nat.lt_or_ge j n with g|g
   .exact zY (by omega)
   .exact bg.beyond g
end Go.Lie
namespace Go.Lie
open Go.Ab
def digs(P:Nat):Nat->Nat->V1
 |0,_=>[]
 |m+1,k=>digs P m (k / P)++[((k % P:Nat):Int)]
theorem QQ(P:Nat):∀(m k:Nat),(digs P m k).length=m
 |0,k=>rfl
 |m+1,k=>by rw[digs,List.length_append,QQ P m];rfl
theorem zGQ{P:Nat}(hP:0<P):∀(m k:Nat),El (P:Int) m (digs P m k)
 |0,k=>⟨rfl,λx hx=>by cases hx⟩
 |m+1,k=>by
  refine⟨QQ P _ k,λx hx=>?_⟩;rw[digs,List.mem_append,List.mem_singleton]at hx;rcases hx with hx|rfl
  .exact(zGQ hP m (k / P)).2 x hx
  .have:=Nat.mod_lt k hP
   omega
theorem zGy{P q r:Nat}(hr:r<P)(m:Nat):digs P (m+1) (q*P+r)=digs P m q++[(r:Int)]:=by
 have h1:(q*P+r) / P=q:=by rw[Nat.mul_comm,Nat.mul_add_div (by omega),Nat.div_eq_of_lt hr,Nat.add_zero]
 have h2:(q*P+r) % P=r:=by rw[Nat.mul_comm,Nat.mul_add_mod,Nat.mod_eq_of_lt hr]
 rw[digs,h1,h2]
def allE(P m:Nat):V2:=(List.range (P ^ m)).map (digs P m)
theorem ZX(P m:Nat):(allE P m).length=P ^ m:=by simp[allE]
theorem zCm{P m k:Nat}(h:k<(allE P m).length):(allE P m)[k]=digs P m k:=by simp[allE]
end Go.Lie
namespace Go.Lie
open Go.Ab
variable{p:Int}{n:Nat}{W:V2}
theorem zGV:∀{b a:List Nat},a.Pairwise (· < ·)->b.Pairwise (· < ·)->(∀x∈a,x∈b)->a.length<=b.length/\(b.length<=a.length->a=b)
 |[],[],_,_,_=>⟨vM _,λ_=>rfl⟩
 |[],x::a,_,_,h=>by cases h x (by simp)
 |y::b,[],_,_,_=>⟨by simp,λh=>by simp at h⟩
 |y::b,x::a,ha,hb,h=>by
  have lH:=List.pairwise_cons.1 ha;have gH:=List.pairwise_cons.1 hb;by_cases e:x=y
  .subst e;have ih:=zGV (b:=b) (a:=a) lH.2 gH.2 λz hz=>by
    rcases List.mem_cons.1 (h z (by simp[hz]))with e|e
    .have:=lH.1 z hz;omega
    .exact e
   refine⟨by simp only[List.length_cons];omega,λhl=>?_⟩;rw[ih.2 (by simp only[List.length_cons]at hl;omega)]
  .have hx:x∈b:=by
    rcases List.mem_cons.1 (h x (by simp))with e2|e2
    .exact absurd e2 e
    .exact e2
   have pF:=gH.1 x hx;have ih:=zGV (b:=b) (a:=x::a) ha gH.2 λz hz=>by
    rcases List.mem_cons.1 (h z hz)with e2|e2
    .rcases List.mem_cons.1 hz with e3|e3
     .omega
     .have:=lH.1 z e3;omega
    .exact e2
   exact⟨by have:=ih.1;simp only[List.length_cons]at this ⊢;omega,λhl=>by have:=ih.1;simp only[List.length_cons]at this hl;omega⟩
theorem Base.deps{u:V2}(h:Base p n W u):(u.map dep).Pairwise (· < ·):=by
 have:=h.asc
 unfold Asc at this;rw[List.pairwise_map];exact this
theorem zKn(o:OkW p n W){u v:V2}(hu:Base p n W u)(hv:Base p n W v)(h:∀f,Gen p n W u f->Gen p n W v f):u.length<=v.length/\(v.length<=u.length->∀f,Gen p n W v f->Gen p n W u f):=by
 have hd:∀x∈u.map dep,x∈v.map dep:=λx hx=>by
  obtain⟨y,hy,rfl⟩:=List.mem_map.1 hx;have ly:=hu.led y hy;obtain⟨z,hz,e⟩:=QN o hv ly.1 (h _ (zQ hy)) ly.2.1;exact List.mem_map.2 ⟨z,hz,e⟩
 have hs:=zGV hu.deps hv.deps hd;simp only[List.length_map]at hs;refine⟨hs.1,λhl f hf=>?_⟩;have he:=hs.2 hl;obtain⟨z,hz,e,hg⟩:=zDt o hv.els hf;refine(zM u).eqv _ _ e ((zGA o hu hz).1 ?_);have h1:=zBK o hu.els hz;have bg:=Zj o hu.els hz;have h2:Gen p n W v (at_ (redL p W u z)):=(zM v).eqv _ _ (Eqv.of_eq λj=>by omega) ((zM v).sub hg (h _ h1));rcases Nat.lt_or_ge (dep (redL p W u z)) n with hd|hd
 .obtain⟨x,hx,ex⟩:=QN o hv bg h2 hd;have hm:dep x∈u.map dep:=by rw[he];exact List.mem_map_of_mem hx
  obtain⟨y,hy,ey⟩:=List.mem_map.1 hm
  have:=(zAQ o hu.led hu.asc hz).1 y hy
  rw[ey,ex]at this;exact absurd this (qa (by rw[bg.1];exact hd))
 .intro j;rcases Nat.lt_or_ge j n with g|g
  .exact zY (by omega)
  .exact bg.beyond g
theorem zKf{P:Nat}(hP:0<P):∀{m:Nat} {x:V1},El (P:Int) m x->∃k,k<P ^ m/\x=digs P m k
 |0,x,h=>⟨0,by simp,by rw[List.length_eq_zero_iff.1 h.1];rfl⟩
 |m+1,x,h=>by
  have hl:=h.1;have ar:x≠[]:=λe=>by rw[e]at hl;simp at hl
  have hx:=List.dropLast_concat_getLast ar;have hd:El (P:Int) m x.dropLast:=⟨by rw[List.length_dropLast,hl];rfl,λy hy=>h.2 y ((List.dropLast_sublist x).subset hy)⟩
  obtain⟨q,hq,e⟩:=zKf hP hd;have hb:=h.2 _ (List.getLast_mem ar);obtain⟨r,hr⟩:=Int.eq_ofNat_of_zero_le hb.1;have Iu:r<P:=by omega
  refine⟨q*P+r,?_,?_⟩
  .rw[Nat.pow_succ]
   have:=Nat.mul_le_mul_right P (show q+1<=P ^ m by omega)
   rw[Nat.add_mul]at this;omega
  .rw[zGy Iu,<-e,<-hr,hx]
theorem zFo{P n:Nat}(hP:0<P){x:V1}(h:El (P:Int) n x):x∈allE P n:=by
 obtain⟨k,hk,e⟩:=zKf hP h;exact List.mem_map.2 ⟨k,List.mem_range.2 hk,e.symm⟩
theorem zIs{P n:Nat}(hP:0<P){x:V1}(h:x∈allE P n):El (P:Int) n x:=by
 obtain⟨k,hk,rfl⟩:=List.mem_map.1 h;exact zGQ hP _ _
theorem Canon.self{L u:V2}(c:Canon p n W L u):Canon p n W u u:=⟨c.base,c.red,λf=>Iff.rfl⟩
theorem Canon.els{L u:V2}(c:Canon p n W L u):∀v∈u,El p n v:=c.base.els
theorem Canon.len{L u:V2}(c:Canon p n W L u):u.length<=n:=ZV (λv hv=>(c.base.led v hv).2.1) c.base.asc
end Go.Lie
namespace Go.Proofs
open Go.Ab Go.Lie
variable{σ:PHeap}{K:PV->PHeap->Prop}{p:Int}{n:Nat}{W:V2}{vP vB:PV}{s:Nat}
theorem zL8{P m q r:Nat}(hr:r<P)(h:q<P ^ m):((List.range (q*P+r+1)).map (digs P (m+1)))=((List.range (q*P+r)).map (digs P (m+1)))++[digs P m q++[(r:Int)]]:=by
 rw[List.range_succ,List.map_append,List.map_cons,List.map_nil,zGy hr]
theorem zNw{w:Bool}{a:AV}{xs:V1}{l:Nat}(hl:l=xs.length)(hb:xs.length<=4294967296)(hk:∀v h',Keep σ h'->PAcc σ.next 1 h' v l (pis xs)->K v h'):zA Tryz.prog 206 [.fz w a l (pis xs)] σ K:=by
 subst hl;exact Zh rfl hb ⟨λh0=>hk _ _ (Keep.refl _) (.inl ⟨rfl,by rw[h0];rfl,by rw[h0];rfl⟩),λcap hc=>hk _ _ (zC _ _) (PSl.own hc (by simp[PHeap.new]) (by simp[pis]) (vM _) (by simp[PHeap.new])).acc⟩
theorem zNn{P:Nat}(hs:PtrR σ s p vP vB)(hP:FII vP W)(hW:W.length=n)(hn:n<=6)(hp:p=(P:Int))(C9:2<=P/\P<=7)(hb:P ^ n<=729)(hk:∀v,FII v (allE P n)->K v σ):zA Tryz.prog 170 [.ptr s 0] σ K:=by
 subst hp;obtain⟨wp,ap,rp,rfl,jf⟩:=hP;have pb:∀m,m<=n->P ^ m<=729:=λm hm=>Nat.le_trans (Nat.pow_le_pow_right (by omega) hm) hb;refine zA.pwf λw=>zA.gh ?_;have e1:σ.rd1 s 1=some (.fz wp ap W.length rp):=by rw[zI hs.obj];rfl
 have e0:σ.rd1 s 0=some (.int .i64 P):=by rw[zI hs.obj];rfl
 have bK:=hs.lt;refine zD mix Tryz.func170 ?_
 conv=>arg 2;cbv
 refine zF rfl ?_;have dX:¬s=σ.next:=by omega
 have sM:¬s=σ.next+1:=by omega
 simp only[Z3,seval,-ae,e1,dX,sM];have w0:(allE P 0)=[[]]:=by simp[allE,digs]
 refine ZG (λm vs h'=>∃(i:Nat) (v:PV),i<=n/\m=n-i/\vs=[.ptr s 0,v,.int .i64 W.length,.int .i64 i]/\Keep σ h'/\FII v (allE P i)) n ?_ ?_
 .simp only[Z3,seval,-ae];refine .fzh σ.next [] (by simp only[Z3,seval,-ae]) trivial λo1=>?_;refine .fz (σ.next+1) [.fz true (.sl o1 0 0 (.known 0)) 0 []] ?_ ⟨trivial,trivial⟩ λo2=>.here ⟨0,.fz true (.sl o2 0 1 (.known 1)) 1 [.fz true (.sl o1 0 0 (.known 0)) 0 []],by omega,by omega,?_,?_,?_⟩
  .simp[PHeap.sub,PHeap.kill,PHeap.new,sbs,sb,capOK]
  .simp[sbs,sb,capOK]
  .exact((((zC σ _).new _).kill (by omega)).sub w (by omega)).kill (by omega)
  .rw[w0];exact⟨_,_,_,rfl,(All2.nil FI).snoc ⟨_,_,rfl⟩⟩
 rintro m vs h' ⟨i,v,hi,rfl,rfl,aq,hv⟩
 have nQ:=hv;obtain⟨wv,av,rv,rfl,fW⟩:=hv;simp only[Z3,seval,-ae];refine iteI (λah=>?_) λaG=>?_;rotate_left
 .have aK:i=n:=by omega
  subst aK;exact Gh.fin0 aq trivial (hk _ nQ)
 have aE:i<n:=by omega
 have B2:=pb i (by omega);have B0:=pb (i+1) (by omega);rw[Nat.pow_succ]at B0;have bg:=ZX P i;refine zG (λm vs h2=>∃(q:Nat) (vA:PV) (rows:List PV),q<=P ^ i/\m=P ^ i-q/\vs=[.ptr s 0,vA,.int .i64 W.length,.int .i64 i,.fz wv av (allE P i).length rv,.int .i64 (allE P i).length,.int .i64 q]/\Keep σ h2/\PAcc σ.next 1 h2 vA (q*P) rows/\All2 FI rows ((List.range (q*P)).map (digs P (i+1)))) (P ^ i) ?_ ?_
 .exact⟨0,_,[],by omega,by omega,rfl,aq,by rw[Nat.zero_mul];exact PAcc.nil _ _ _,by rw[Nat.zero_mul];exact All2.nil _⟩
 rintro m vs h2 ⟨q,vA,rows,hq,rfl,rfl,bV,ha,an⟩
 have fA:=hs.keep bV;have Lj:h2.rd1 s 0=some (.int .i64 P):=by rw[zI fA.obj];rfl
 simp only[Z3,seval,-ae];refine iteI (λjF=>?_) λrn=>?_;rotate_left
 .have gR:q=P ^ i:=by omega
  subst gR;have aF:0<P ^ i*P:=Nat.mul_pos (Nat.pow_pos (by omega)) (by omega);obtain⟨t,cap,rfl,hc,q2,q3,q4,q5⟩:=ha.pos aF;simp only[Z3,seval,-ae,wrapS ah (by omega:W.length<=4611686018427387904)];refine⟨n-(i+1),by omega,.fz t rows q2 (an.bI 0) λo1=>.here ⟨i+1,.fz true (.sl o1 0 (P ^ i*P) cap) (P ^ i*P) rows,by omega,rfl,?_,bV.kill q4,_,_,rows,by rw[ZX,Nat.pow_succ],?_⟩⟩
  .simp[sbs,sb,hc.ok]
  .unfold allE;rw[Nat.pow_succ];exact an
 have yk:q<(allE P i).length:=jF;rw[bg]at jF;have Mf:q*P+P<=P ^ i*P:=by
  have:=Nat.mul_le_mul_right P (show q+1<=P ^ i by omega)
  rw[Nat.add_mul]at this;omega
 obtain⟨w4,a4,hr⟩:=fW.rowI yk;rw[zCm yk,QQ]at hr;simp only[Z3,seval,-ae,yk,hr,Lj];refine ZG (λm vs h3=>∃(r:Nat) (vA:PV) (rows:List PV),r<=P/\m=P-r/\vs=[.ptr s 0,vA,.fz w4 a4 i (pis (digs P i q)),.int .i64 W.length,.int .i64 i,.fz wv av (allE P i).length rv,.int .i64 (allE P i).length,.int .i64 q,.int .i64 P,.int .i64 r]/\Keep σ h3/\PAcc σ.next 1 h3 vA (q*P+r) rows/\All2 FI rows ((List.range (q*P+r)).map (digs P (i+1)))) P ?_ ?_
 .exact .here ⟨0,vA,rows,by omega,by omega,rfl,bV,ha,an⟩
 clear ha an rows vA
 rintro m vs h3 ⟨r,vA,rows,fX,rfl,rfl,mC,ha,an⟩
 simp only[Z3,seval,-ae];refine iteI (λIM=>?_) λJe=>?_;rotate_left
 .have jT:r=P:=by omega
  subst jT;simp only[Z3,seval,-ae,wrapS yk (by omega:(allE r i).length<=4611686018427387904)];refine⟨_,by omega,q+1,vA,rows,by omega,rfl,rfl,mC,by rw[Nat.add_mul,Nat.one_mul];exact ha,by rw[Nat.add_mul,Nat.one_mul];exact an⟩
 have oj:r<P:=by omega
 simp only[Z3,seval,-ae];refine zNw (QQ _ _ _).symm (by rw[QQ];omega) λvC h4 k4 Lt=>?_;simp only[Z3,seval,-ae];refine PAcc.push (bytes:=8) (σb:=h3) k4 Lt (by omega) (by omega) λvR h5 k5 a5=>?_;obtain⟨sR,cR,rfl,fZ,g2,g3,g4,g5⟩:=a5;simp only[Z3,seval,-ae];refine PAcc.pushS (bytes:=24) (σb:=σ) (mC.trans k5) (ha.keep k5) rfl (by omega) (by omega) λv6 h6 k6 a6 o6 n6 l6=>?_;simp only[Z3,seval,-ae,wrapS oj (by omega:P<=4611686018427387904)];have JE:Bels 0 (pis (digs P i q)++[.int .i64 r]):=by
  have:=zL 0 (digs P i q++[(r:Int)])
  simpa [pis]using this
 refine⟨P-(r+1),by omega,.fzh sR _ (by rw[o6 sR g5 (ha.ne g4)];exact g2) JE λo1=>.here ⟨r+1,v6,rows++[.fz true (.sl o1 0 (i+1) cR) (i+1) (pis (digs P i q)++[.int .i64 r])],by omega,rfl,?_,?_,?_,?_⟩⟩
 .have:=(PSl.fzr w k6 a6 (s:=sR) (cs:=pis (digs P i q)++[.int .i64 r]) (by have:=mC.next;omega) (n6 sR g5) o1).2.2
  simp only[sbs,sb,this]
 .exact(PSl.fzr w k6 a6 (by have:=mC.next;omega) (n6 sR g5) o1).1
 .have:=(PSl.fzr w k6 a6 (s:=sR) (cs:=pis (digs P i q)++[.int .i64 r]) (by have:=mC.next;omega) (n6 sR g5) o1).2.1
  rw[zB6 (an.bI 0) fZ.ok]at this;exact this.acc
 .rw[<-Nat.add_assoc,zL8 oj jF];refine an.snoc ⟨true,.sl o1 0 (i+1) cR,?_⟩;rw[List.length_append,QQ];simp[pis]
end Go.Proofs
namespace Go.Proofs
open Go.Ab Go.Lie
variable{σ:PHeap}{K:PV->PHeap->Prop}{p:Int}{n:Nat}{W:V2}{B:V3}{vP vB:PV}{s:Nat}
theorem zOq{P k0:Nat}(hR:IsR vP vB W B)(hW:W.length=n)(hn:n<=6)(hp:p=(P:Int))(C9:2<=P/\P<=7)(eC:k0<=1000000)(hk:∀v,FI v (digs P n k0)->K v σ):zA Tryz.prog 114 [.agg [.int .i64 p,vP,vB],.int .i64 k0] σ K:=by
 subst hp;have h1:=hR.P.one;have h2:=hR.B.one;refine zA.gh ?_;refine zD mix Tryz.func114 ?_
 conv=>arg 2;cbv
 refine zF rfl ?_;simp only[Z3,seval,-ae,h1,h2];refine zBz hR hW (by omega) λcap hc=>?_;have ew:IntKind.i64.wrap ((n:Int)-1)=(n:Int)-1:=wrap64 (by omega) (by omega);simp only[Z3,seval,-ae,ew];refine zG (λm vs h'=>∃(c kk:Nat) (out:V1),c<=n/\m=c/\vs=[.int .i64 kk,.ptr σ.next 0,.sl (σ.next+1) 0 n cap,.int .i64 ((c:Int)-1)]/\h'=(σ.new [.int .i64 P,vP,vB]).new (pis out)/\out.length=n/\kk<=k0/\digs P c kk++out.drop c=digs P n k0) n ?_ ?_
 .refine⟨n,k0,List.replicate n 0,vM _,rfl,rfl,rfl,by simp,vM _,?_⟩;rw[List.drop_of_length_le (by simp),List.append_nil]
 rintro m vs h' ⟨c,kk,out,yB,rfl,rfl,rfl,fI,fL,hd⟩
 rcases Nat.eq_zero_or_pos m with rfl|aF
 .simp only[Z3,seval,-ae,show ¬((0:Int)<=((0:Nat):Int)-1) by omega];have he:out=digs P n k0:=by simpa [digs]using hd
  rw[<-he]at hk;clear he hd;rw[<-fI]at hc ⊢;exact Gh.finF (s:=σ.next+1) ((zC σ _).new _) (by simp only[Z3,seval,-ae]) (by omega) (zL _ _) hc.ok λo1=>hk _ ⟨_,_,rfl⟩
 .obtain⟨c,rfl⟩:∃c,m=c+1:=⟨m-1,by omega⟩
  have e:((c+1:Nat):Int)-1=(c:Int):=by omega
  have ln:c<out.length:=by omega
  have iO:c<n:=by omega
  have o7:IntKind.i64.wrap ((c:Int)-1)=(c:Int)-1:=wrap64 (by omega) (by omega);rw[e];have wK:¬(P:Int)=0:=by omega
  have et:(kk:Int).tmod (P:Int)=((kk % P:Nat):Int):=rfl;have ed:(kk:Int).tdiv (P:Int)=((kk / P:Nat):Int):=rfl;have dZ:kk / P<=kk:=Nat.div_le_self _ _;have mb:∀q:Nat,q<=kk->IntKind.i64.wrap (q:Int)=(q:Int):=λq hq=>wrap64 (by omega) (by omega);have mb:=mb _ dZ;have ll:c+1<=out.length:=ln;have bY:=zX ln (x:=((kk % P:Nat):Int));simp only[Z3,seval,-ae,wK,et,ed,mb,iO,ll,zJ,bY,o7];refine⟨c,Nat.lt_succ_self c,c,kk / P,out.set c ((kk % P:Nat):Int),by omega,rfl,rfl,rfl,by rw[List.length_set];exact fI,Nat.le_trans dZ fL,?_⟩;rw[<-hd,digs,List.append_assoc];congr 1;rw[List.drop_eq_getElem_cons (by rw[List.length_set];exact ln),List.getElem_set_self,List.drop_set_of_lt (by omega)];rfl
end Go.Proofs
namespace Go.Proofs
open Go.Ab
def if7:IFn:=⟨[0],[(.tmp 2)],(S0 (R0 [0] [tI0 2 false])
 (S0 (.seq (R0 [0,30] [mI0 29 0,C1 30 24 29])
 (.cond (.t 30) (S0 (R0 [2] [tI0 2 true])
 .ret) .skip))
 (S0 (R0 [3,4] [mI0 32 0,C1 33 48 32,mI0 31 33,eI0 34 31 0,eI0 35 31 1,eI 3 (.alloc [(.int .i64 0),.nils,.nils]),vI0 3 3 34,mI0 4 35])
 (S0 (R0 [3,4,5,6] [LI0 37 3,mI0 38 4,C2 39 16 37 38,mI0 36 39,eI0 40 36 0,eI0 41 36 1,mI0 5 40,mI0 6 41])
 (S0 (R0 [3,4,5,6,7,8] [LI0 43 3,mI0 44 4,C2 45 13 43 44,mI0 42 45,eI0 46 42 0,eI0 47 42 1,mI0 7 46,mI0 8 47])
 (S0 (.seq (R0 [3,4,6,7,56] [mI0 48 6,mI0 49 8,bI0 50 .neq 48 49,mI0 51 50,gm0 52 5 51 false,gm0 53 7 51 false,G0 54 (.call 26 [(.t 52),(.t 53)]) false 51 false,G0 55 (.un .not (.t 54)) true 51 false,oI0 56 51 55])
 (.cond (.t 56) (S0 (R0 [2] [tI0 2 false])
 .ret) .skip))
 (S0 (.seq (R0 [3,4,7,58] [mI0 57 6,cI0 58 .neq 57 0])
 (.cond (.t 58) (S0 (R0 [2] [tI0 2 true])
 .ret) .skip))
 (S0 (R0 [3,4,7,9,10] [LI0 60 3,C1 61 37 60,mI0 59 61,eI0 62 59 0,eI0 63 59 1,eI 9 (.alloc [.nils,.nils,.nils]),vI0 3 9 62,mI0 10 63])
 (S0 (R0 [3,4,7,9,10,11] [LI0 65 3,C1 66 28 65,mI0 64 66,eI0 67 64 0,eI0 68 64 1,eI 11 (.alloc [.nils,.nils,.nils]),vI0 3 11 67,mI0 12 68])
 (S0 (R0 [3,4,7,9,10,11,13,14] [LI0 70 3,mI0 71 7,C2 72 23 70 71,mI0 69 72,eI0 73 69 0,eI0 74 69 1,mI0 13 73,mI0 14 74])
 (S0 (.seq (R0 [3,4,7,11,99] [mI0 75 10,cI0 76 .neq 75 0,mI0 77 76,G0 78 (.load true 3 (.t 9)) true 77 false,G0 79 (.load true 3 (.t 11)) true 77 false,G0 80 (.call 39 [(.t 78),(.t 79)]) false 77 false,G0 81 (.un .not (.t 80)) true 77 false,oI0 82 77 81,mI0 83 82,gm0 84 14 83 false,G0 85 (.bin .neq .other (.t 84) (I0 0)) true 83 false,oI0 86 83 85,mI0 87 86,gm0 88 13 87 false,gm0 89 4 87 false,G0 90 (.call 26 [(.t 88),(.t 89)]) false 87 false,G0 91 (.un .not (.t 90)) true 87 false,oI0 92 87 91,mI0 93 92,gm0 94 7 93 false,G0 95 (.len (.t 94)) true 93 false,gm0 96 4 93 false,G0 97 (.len (.t 96)) true 93 false,G0 98 (.bin .neq .other (.t 95) (.t 97)) true 93 false,oI0 99 93 98])
 (.cond (.t 99) (S0 (R0 [2] [tI0 2 false])
 .ret) .skip))
 (S0 (R0 [3,7,11,15,16] [LI0 101 3,mI0 102 4,C2 103 49 101 102,mI0 100 103,eI0 104 100 0,eI0 105 100 1,mI0 15 104,mI0 16 105])
 (S0 (R0 [3,11,15,16,17,18] [LI0 107 11,mI0 108 7,C2 109 50 107 108,mI0 106 109,eI0 110 106 0,eI0 111 106 1,mI0 17 110,mI0 18 111])
 (S0 (.seq (R0 [3,11,122] [mI0 112 16,cI0 113 .neq 112 0,mI0 114 113,gm0 115 18 114 false,G0 116 (.bin .neq .other (.t 115) (I0 0)) true 114 false,oI0 117 114 116,mI0 118 117,gm0 119 15 118 false,gm0 120 17 118 false,G0 121 (.bin .neq .bool (.t 119) (.t 120)) true 118 false,oI0 122 118 121])
 (.cond (.t 122) (S0 (R0 [2] [tI0 2 false])
 .ret) .skip))
 (S0 (R0 [3,11,19,20] [LI0 124 3,C1 125 51 124,mI0 123 125,eI0 126 123 0,eI0 127 123 1,mI0 19 126,mI0 20 127])
 (S0 (R0 [3,11,19,20,21] [LI0 129 3,C1 130 52 129,mI0 128 130,eI0 131 128 0,eI0 132 128 1,mI0 21 131,mI0 22 132])
 (S0 (R0 [11,19,20,21,23,24] [LI0 134 3,mI0 135 21,C2 136 16 134 135,mI0 133 136,eI0 137 133 0,eI0 138 133 1,mI0 23 137,mI0 24 138])
 (S0 (R0 [11,19,20,21,23,24,25,26] [LI0 140 11,C1 141 53 140,mI0 139 141,eI0 142 139 0,eI0 143 139 1,mI0 25 142,mI0 26 143])
 (S0 (R0 [19,20,21,23,24,25,26,27] [LI0 145 11,C1 146 54 145,mI0 144 146,eI0 147 144 0,eI0 148 144 1,mI0 27 147,mI0 28 148])
 (S0 (R0 [2] [mI0 149 20,cI0 150 .eql 149 0,mI0 151 150,gm0 152 19 151 true,gm0 153 21 151 true,G0 154 (.call 26 [(.t 152),(.t 153)]) false 151 true,aI0 155 151 154,mI0 156 155,gm0 157 24 156 true,G0 158 (.bin .eql .other (.t 157) (I0 0)) true 156 true,aI0 159 156 158,mI0 160 159,gm0 161 26 160 true,G0 162 (.bin .eql .other (.t 161) (I0 0)) true 160 true,aI0 163 160 162,mI0 164 163,gm0 165 25 164 true,gm0 166 27 164 true,G0 167 (.call 26 [(.t 165),(.t 166)]) false 164 true,aI0 168 164 167,mI0 169 168,gm0 170 23 169 true,gm0 171 27 169 true,G0 172 (.call 26 [(.t 170),(.t 171)]) false 169 true,aI0 173 169 172,mI0 2 173])
 .ret))))))))))))))))))))⟩
theorem cf7:cF Tryz.prog Tryz.f7=some if7:=by kernel_rfl
end Go.Proofs
namespace Go.Proofs.YtgkbfiilhocioaaGreat
open Go.ChangeShapes Go.WideShapes Go.ChangeAt Go.RowKit Go.Ab Go.Joins Go.Lie Go.Proofs
theorem own:ownKnob Tryz.prog.godebug=none:=by kernel_rfl
theorem laidOut:laidOutB Tryz.prog=true:=by kernel_rfl
end Go.Proofs.YtgkbfiilhocioaaGreat
namespace Go.Proofs
open Go.Ab Go.Lie
variable{σ:PHeap}{K:PV->PHeap->Prop}{p:Int}{n:Nat}{W:V2}{B:V3}{vP vB:PV}{s:Nat}
theorem zA.fzITx{P:Program}{f:FuncId}{args:List PV}{D:V1->Prop}(c:∀K':PV->PHeap->Prop,(∀z,D z->ResI σ K' z)->zA P f args σ K')(k:∀z v t,D z->FI v z->Own σ.top t v->σ.top<=t->K v (σ.up t)):zA P f args σ K:=
 zA.gh (c _ λz hz=>⟨λh0=>by subst h0;exact Gh.ret (k _ _ σ.top hz ⟨true,.nils,rfl⟩ (Own.empty _ _ _ _ _) (vM _)),λcap hc=>Gh.own (zC σ _) (by simp[PHeap.new]) (vM _) (zL _ _) hc.ok (Owns.pis _ _ _) λo t h1 h2=>k _ _ t hz ⟨true,_,rfl⟩ h1 h2⟩)
theorem zCw{l:Nat}{w:Bool}{av:AV}{k:Int}{x:V1}(hs:PtrR σ s p vP vB)(hP:FII vP W)(o:OkW p n W)(e9:ipow p n<=729)(hx:El p n x)(hl:l=x.length)
  (hk:∀z,DivL p n W k x z->ResI σ K z):zA Tryz.prog 292 [.ptr s 0,.fz w av l (pis x),.int .i64 k] σ K:=by
 have aN:=o.le;have bw:=o.pr;have aW:=hx.1;have gU:σ.rd1 s 0=some (.int .i64 p):=by rw[zI hs.obj];rfl
 subst hl;refine zD mix Tryz.func292 ?_
 conv=>arg 2;cbv
 refine zF rfl ?_;simp only[Z3,seval,-ae];refine Z8 rfl (by omega) ?_;by_cases hz:isZ x
 .simp only[Z3,seval,-ae,hz,decide_true];have hd:DivL p n W k x x:=⟨hx,λ_=>rfl,λ_=>by
   refine Eqv.of_eq λj=>?_;rw[ZP hz,Int.mul_zero]⟩
  refine Zh rfl (by omega) ⟨λh0=>?_,λcap hc=>?_⟩
  .simp only[Z3,seval,-ae];exact(hk x hd).1 h0
  .simp only[Z3,seval,-ae];exact(hk x hd).2 cap hc
 .have hn:0<n:=by
   rcases Nat.eq_zero_or_pos n with h|h
   .exact absurd (by rw[List.eq_nil_of_length_eq_zero (aW.trans h)];intro y hy;cases hy) hz
   .exact h
  have Cj:2<=ipow p n:=by
   obtain⟨n',rfl⟩:∃n',n=n'+1:=⟨n-1,by omega⟩
   have h1:∀k:Nat,1<=ipow p k:=λk=>by
    induction k with
    |zero=>simp[ipow]
    |succ k ih=>
     have:=Int.mul_le_mul_of_nonneg_left (show(1:Int)<=p by have:=bw.1;omega) (show 0<=ipow p k by omega)
     rw[ipow];omega
   have:=Int.mul_le_mul_of_nonneg_left (show(2:Int)<=p from bw.1) (show 0<=ipow p n' by have:=h1 n';omega)
   have:=h1 n'
   rw[ipow];omega
  simp only[Z3,seval,-ae,hz,decide_false,gU,aW];refine zBk bw aN ?_;simp only[Z3,seval,-ae];refine zCS (by omega) (by omega) ?_;simp only[Z3,seval,-ae];refine zJ1 (Int.emod_nonneg _ (by omega)) (Int.emod_lt_of_pos _ (by omega)) (by omega) λy yb h1 h2 h3=>?_;simp only[Z3,seval,-ae];have hd:DivL p n W k x (lmul p W y x):=DivL.mk' o hx hz (m:=ipow p n) (by
   rw[zCG];exact Qr o λj hj=>hx.beyond hj) λhc=>by
    obtain⟨z,w',A7⟩:=zAY hc hn;rw[<-zCG]at A7;have em:=Int.mul_ediv_add_emod k (ipow p n);obtain⟨t,ht⟩:=h3 ⟨z,w'-k / ipow p n*z,by grind⟩;exact⟨t+k / ipow p n*y,by grind⟩
  refine zBs hs hP o hx aW.symm (by omega) ⟨λh0=>?_,λcap hc=>?_⟩
  .simp only[Z3,seval,-ae];exact(hk _ hd).1 h0
  .simp only[Z3,seval,-ae];exact(hk _ hd).2 cap hc
theorem CodeL.zero{xs:V2}(h:CodeL p W B xs 0):(isLie p W B/\Els p W.length xs)/\isLz p W.length W B:=by
 rcases h with ⟨_,h⟩|⟨_,_,h⟩|⟨h1,h2,_⟩
 .omega
 .omega
 .exact⟨h1,h2⟩
theorem zPt{v:PV}{x:V1}{w:Bool}{a:AV}(hx:FI v x):FII (.fz w a 1 [v]) [x]:=⟨w,a,[v],rfl,by simpa using (All2.nil _).snoc hx⟩
end Go.Proofs
namespace Go.Proofs
open Go.Ab Go.Lie
variable{p:Int}{n:Nat}{W:V2}{B:V3}{c k:Nat}{f g:Vec}
def Lw(p:Int)(n:Nat)(W:V2)(B:V3)(k:Nat)(f:Vec):Prop:=∃u,Low p n W B k u/\Gen p n W u f
structure Rg(p:Int)(n:Nat)(W:V2)(B:V3)(c:Nat):Prop where
 o:OkW p n W
 q:OkB p n B
 nf:qE p W B n
 cls:Cls p n W B c
theorem zH4:∀{m:Nat} {u:V2},Low p n W B m u->∀k,k<=m->∃v,Low p n W B k v
 |0,u,h,k,hk=>by
  have:k=0:=by omega
  subst this;exact⟨u,h⟩
 |m+1,u,h,k,hk=>by
  by_cases e:k=m+1
  .subst e;exact⟨u,h⟩
  .cases h with
   |succ h hc=>exact zH4 h k (by omega)
theorem Rg.low(r:Rg p n W B c)(k:Nat):∃u,Low p n W B k u:=by
 rcases Nat.le_total k c with x|x
 .exact zH4 r.cls.1 k x
 .obtain⟨u,⟨h,_⟩|h⟩:=zKk r.o r.q r.cls k
  .exact⟨u,h⟩
  .exact⟨[],by omega⟩
theorem Rg.sub(r:Rg p n W B c)(k:Nat):IsSub p n W (Lw p n W B k):=by
 obtain⟨u,hu⟩:=r.low k;have hs:=zM (p:=p) (n:=n) (W:=W) u;have e:∀{f:Vec},Lw p n W B k f->Gen p n W u f:=λ{f} ⟨v,hv,hg⟩=>by rw[hu.unique r.o hv];exact hg
 exact⟨⟨u,hu,hs.zero⟩,λf g a b=>⟨u,hu,hs.add _ _ (e a) (e b)⟩,λk f a=>⟨u,hu,hs.mul _ _ (e a)⟩,λf g a b=>⟨u,hu,hs.eqv _ _ a (e b)⟩⟩
theorem Rg.all(r:Rg p n W B c){x:V1}(hx:El p n x):Lw p n W B 0 (at_ x):=⟨_,.zero,zGu r.o hx⟩
theorem Rg.brk(r:Rg p n W B c)(hf:Lw p n W B k f)(g:Vec):Lw p n W B (k+1) (brv B n f g):=by
 obtain⟨u,hu,hg⟩:=hf;obtain⟨v,hv⟩:=r.low (k+1);cases hv with
 |succ h hc=>
  rw[h.unique r.o hu]at hc;exact⟨v,.succ hu hc,zP6 r.o r.q r.nf hc hg g⟩
theorem Rg.brk2(r:Rg p n W B c)(hg:Lw p n W B k g)(f:Vec):Lw p n W B (k+1) (brv B n f g):=
 (r.sub _).eqv _ _ (Eqv.of_eq λt=>zZ f g t) ((r.sub _).mul (-1) _ (r.brk hg f))
theorem Rg.top(r:Rg p n W B c)(hk:c<=k)(hf:Lw p n W B k f):Eqv p n W f λ_=>0:=by
 obtain⟨u,hu,hg⟩:=hf;obtain⟨v,⟨hv,h0⟩|h⟩:=zKk r.o r.q r.cls k
 .rw[hu.unique r.o hv,h0 hk]at hg;exact zKX hg
 .omega
theorem Rg.down(r:Rg p n W B c):∀{k:Nat} {f:Vec},Lw p n W B (k+1) f->Lw p n W B k f
 |0,f,⟨u,hu,hg⟩=>⟨_,.zero,qw (λv hv=>zGu r.o ((hu.els r.o).1 v hv)) hg⟩
 |k+1,f,⟨u,hu,hg⟩=>by
  cases hu with
  |succ h hc=>
   rename_i w;refine Zk (r.sub (k+1)) (λv hv=>?_) ((hc.gen f).2 hg);obtain⟨x,hx,hv⟩:=List.mem_flatMap.1 hv;obtain⟨e,he,rfl⟩:=List.mem_map.1 hv;exact(r.sub _).eqv _ _ (qg r.o r.q x e) (r.brk (r.down ⟨w,h,zQ hx⟩) (at_ e))
theorem Rg.le(r:Rg p n W B c){j k:Nat}(h:j<=k){f:Vec}(hf:Lw p n W B k f):Lw p n W B j f:=by
 induction k with
 |zero=>
   have:j=0:=by omega
   subst this;exact hf
 |succ k ih=>
  by_cases e:j=k+1
  .subst e;exact hf
  .exact ih (by omega) (r.down hf)
theorem Rg.zero(r:Rg p n W B c)(hk:c<=k){z:V1}(hz:El p n z)(hf:Lw p n W B k (at_ z)):isZ z:=Zo r.o hz (r.top hk hf)
theorem Rg.bL(r:Rg p n W B c){x y:V1}(hf:Lw p n W B k (at_ x)):Lw p n W B (k+1) (at_ (br p W B n x y)):=(r.sub _).eqv _ _ (qg r.o r.q x y) (r.brk hf _)
theorem Rg.bR(r:Rg p n W B c){x y:V1}(hf:Lw p n W B k (at_ y)):Lw p n W B (k+1) (at_ (br p W B n x y)):=(r.sub _).eqv _ _ (qg r.o r.q x y) (r.brk2 hf _)
theorem Rg.addL(r:Rg p n W B c){x y:V1}(hx:El p n x)(hy:El p n y)(h1:Lw p n W B k (at_ x))(h2:Lw p n W B k (at_ y)):Lw p n W B k (at_ (ladd p W x y)):=(r.sub _).eqv _ _ (qP r.o hx hy) ((r.sub _).add _ _ h1 h2)
theorem Rg.mulL(r:Rg p n W B c){x:V1}(hx:El p n x)(m:Int)(h1:Lw p n W B k (at_ x)):Lw p n W B k (at_ (lmul p W m x)):=(r.sub _).eqv _ _ (qO r.o hx m) ((r.sub _).mul m _ h1)
def ZB(p:Int)(W:V2)(B:V3)(n:Nat)(x y:V1):V1:=ladd p W (br p W B n x (br p W B n x y)) (br p W B n y (lmul p W (-1) (br p W B n x y)))
theorem Za(o:OkW p n W)(q:OkB p n B){x y:V1}:El p n (ZB p W B n x y):=zK o (br_el o q) (br_el o q)
theorem Rg.thd(r:Rg p n W B c){x y:V1}(hf:Lw p n W B k (at_ (br p W B n x y))):Lw p n W B (k+1) (at_ (ZB p W B n x y)):=
 r.addL (br_el r.o r.q) (br_el r.o r.q) (r.bR hf) (r.bR (r.mulL (br_el r.o r.q) (-1) hf))
theorem zGR{p:Int}(hp:isP p)(h:p≠2):Cop p 2/\Cop p (-2):=by
 rcases hp with rfl|rfl|rfl|rfl
 .exact absurd rfl h
 .exact⟨⟨2,1,by decide⟩,⟨1,-1,by decide⟩⟩
 .exact⟨⟨3,1,by decide⟩,⟨2,-1,by decide⟩⟩
 .exact⟨⟨4,1,by decide⟩,⟨3,-1,by decide⟩⟩
theorem zFq{p:Int}(hp:isP p)(h:p≠2)(h3:p≠3):Cop p 12/\Cop p (-12):=by
 rcases hp with rfl|rfl|rfl|rfl
 .exact absurd rfl h
 .exact absurd rfl h3
 .exact⟨⟨3,7,by decide⟩,⟨2,-5,by decide⟩⟩
 .exact⟨⟨3,5,by decide⟩,⟨4,-7,by decide⟩⟩
theorem Rg.two(r:Rg p n W B c)(hp:isP p)(hc:(c:Int)<p){z:V1}(hz:El p n z)(h:Lw p n W B 1 (at_ z)):isZ z\/(Cop p 2/\Cop p (-2)):=by
 by_cases h2:p=2
 .exact .inl (r.zero (by omega) hz h)
 .exact .inr (zGR hp h2)
theorem Rg.twelve(r:Rg p n W B c)(hp:isP p)(hc:(c:Int)<p){z:V1}(hz:El p n z)(h:Lw p n W B 2 (at_ z)):isZ z\/(Cop p 12/\Cop p (-12)):=by
 by_cases h2:p=2
 .exact .inl (r.zero (by omega) hz h)
 .by_cases h3:p=3
  .exact .inl (r.zero (by omega) hz h)
  .exact .inr (zFq hp h2 h3)
noncomputable def dv(p:Int)(n:Nat)(W:V2)(k:Int)(x:V1):V1:=Classical.epsilon (DivL p n W k x)
theorem dv_eq(o:OkW p n W){k:Int}{x z:V1}(hx:El p n x)(h:DivL p n W k x z)(hk:isZ x\/Cop p k):z=dv p n W k x:=
 h.unique o hx (Classical.epsilon_spec ⟨z,h⟩) hk
theorem zQ6(o:OkW p n W){k:Int}{x:V1}(hx:El p n x):∃z,DivL p n W k x z:=by
 by_cases hz:isZ x
 .exact⟨x,hx,λ_=>rfl,λ_=>Eqv.of_eq λj=>by rw[ZP hz,Int.mul_zero]⟩
 .by_cases hc:Cop p k
  .have hn:0<n:=by
    rcases Nat.eq_zero_or_pos n with h|h
    .exact absurd (by rw[List.eq_nil_of_length_eq_zero (hx.1.trans h)];intro y hy;cases hy) hz
    .exact h
   obtain⟨y,w,hy⟩:=zAY hc hn;exact⟨_,DivL.mk' o hx hz (y:=y) (Qr o λj hj=>hx.beyond hj) λ_=>⟨w,hy⟩⟩
  .exact⟨x,hx,λh=>absurd h hz,λh=>absurd h hc⟩
theorem ZZ(o:OkW p n W){k:Int}{x:V1}(hx:El p n x):DivL p n W k x (dv p n W k x):=Classical.epsilon_spec (zQ6 o hx)
theorem dv_el(o:OkW p n W){k:Int}{x:V1}(hx:El p n x):El p n (dv p n W k x):=(ZZ o hx).el
theorem zCJ(o:OkW p n W){S:Vec->Prop}(hs:IsSub p n W S){k:Int}{x z:V1}(h:DivL p n W k x z)(hk:isZ x\/Cop p k)(hx:S (at_ x)):S (at_ z):=by
 rcases hk with hz|hc
 .rw[h.nil hz];exact hx
 .rcases Nat.eq_zero_or_pos n with hn|hn
  .refine hs.eqv _ _ (Eqv.of_eq λj=>?_) hs.zero;exact h.el.beyond (by omega)
  .obtain⟨a,w,ha⟩:=zAY (p:=p) hc hn;have k1:=(Qr o (f:=at_ z) (λj hj=>h.el.beyond hj)).mul w;have k2:=(Eqv.refl (p:=p) (n:=n) (W:=W) (at_ z)).add k1;refine hs.eqv _ _ ?_ (hs.mul a _ hx);refine(((Eqv.of_eq λj=>?_).trans k2.symm).trans (Eqv.of_eq λj=>?_)).trans ((h.eqv hc).mul a)
   .omega
   .grind
noncomputable def bch(p:Int)(n:Nat)(W:V2)(B:V3)(x y:V1):V1:=
 ladd p W (ladd p W (ladd p W x y) (dv p n W 2 (br p W B n x y))) (dv p n W 12 (ZB p W B n x y))
theorem Z5(o:OkW p n W)(q:OkB p n B){x y:V1}(hx:El p n x)(hy:El p n y):El p n (bch p n W B x y):=
 zK o (zK o (zK o hx hy) (dv_el o (br_el o q))) (dv_el o (Za o q))
noncomputable def fold(p:Int)(n:Nat)(W:V2)(B:V3)(xs:V2):V1:=xs.foldl (bch p n W B) (List.replicate n 0)
theorem zGw(xs:V2){i:Nat}(hi:i<xs.length):fold p n W B (xs.take (i+1))=bch p n W B (fold p n W B (xs.take i)) xs[i]:=by
 unfold fold;rw[List.take_succ_eq_append_getElem hi,List.foldl_append];rfl
theorem zAX(o:OkW p n W)(q:OkB p n B):∀{xs:V2},Els p n xs->El p n (fold p n W B xs):=by
 have:∀(xs:V2) (a:V1),Els p n xs->El p n a->El p n (xs.foldl (bch p n W B) a):=by
  intro xs
  induction xs with
  |nil=>exactλa _ ha=>ha
  |cons x xs ih=>exactλa hx ha=>ih _ (λy hy=>hx y (by simp[hy])) (Z5 o q ha (hx x (by simp)))
 exactλ{xs} h=>this xs _ h (ZO o.pr)
noncomputable def comm(p:Int)(n:Nat)(W:V2)(B:V3)(x y:V1):V1:=fold p n W B [lmul p W (-1) x,lmul p W (-1) y,x,y]
theorem Rg.brD(r:Rg p n W B c){x y:V1}(hx:El p n x):Lw p n W B 1 (at_ (br p W B n x y)):=r.bL (r.all hx)
theorem Rg.of_lie(hl:isLie p W B)(hz:isLz p W.length W B):∃c,Rg p W.length W B c/\(c:Int)<p:=by
 obtain⟨c,hc,hp⟩:=hz;exact⟨c,⟨hl.1.w,hl.1.b,hl.2,hc⟩,hp⟩
end Go.Proofs
namespace Go.Proofs
open Go.Ab Go.Lie
variable{σ:PHeap}{K:PV->PHeap->Prop}{p:Int}{n c:Nat}{W:V2}{B:V3}{vP vB:PV}{s:Nat}{x y:V1}{vx vy:PV}
structure Lz(p:Int)(n:Nat)(W:V2)(B:V3)(c:Nat):Prop where
 r:Rg p n W B c
 hp:isP p
 hc:(c:Int)<p
 pow:ipow p n<=729
theorem Lz.of(hl:isLie p W B)(hz:isLz p W.length W B):∃c,Lz p W.length W B c:=by
 obtain⟨c,r,hc⟩:=Rg.of_lie hl hz;exact⟨c,r,hl.1.1,hc,hl.1.2.2.2.1⟩
theorem Lz.d2(z:Lz p n W B c)(hx:El p n x):isZ (br p W B n x y)\/Cop p 2:=(z.r.two z.hp z.hc (br_el z.r.o z.r.q) (z.r.brD hx)).imp id (·.1)
theorem Lz.d12(z:Lz p n W B c)(hx:El p n x):isZ (ZB p W B n x y)\/Cop p 12:=(z.r.twelve z.hp z.hc (Za z.r.o z.r.q) (z.r.thd (z.r.brD hx))).imp id (·.1)
theorem zLw(z:Lz p n W B c)(hs:PtrR σ s p vP vB)(hR:IsR vP vB W B)(hx:El p n x)(hy:El p n y)(aX:FI vx x)(fw:FI vy y)
  (hk:∀a v1 v2 v3 t,FI v1 (ladd p W x y)->FI v2 (dv p n W 2 (br p W B n x y))->FI v3 (dv p n W 12 (ZB p W B n x y))->Own σ.top t (.fz true a 3 [v1,v2,v3])->σ.top<=t->K (.fz true a 3 [v1,v2,v3]) (σ.up t)):
  zA Tryz.prog 220 [.ptr s 0,vx,vy] σ K:=by
 have o:=z.r.o;have q:=z.r.q;have aW:=hx.1;have dz:=hy.1;obtain⟨wx,ax,rfl⟩:=aX;obtain⟨wy,ay,rfl⟩:=fw;refine zA.gh ?_;have bel:=br_el o q (a:=x) (b:=y);refine zD mix Tryz.func220 ?_
 conv=>arg 2;cbv
 refine zF rfl ?_;simp only[Z3,seval,-ae];refine qo hs hR o q hx hy rfl rfl λv1=>?_;simp only[Z3,seval,-ae];refine qo hs hR o q hx bel rfl bel.1.symm λv2=>?_;simp only[Z3,seval,-ae];refine QJ hs hR.P o bel bel.1.symm (by decide) λv3=>?_;have m1:El p n (lmul p W (-1) (br p W B n x y)):=zK o bel bel;simp only[Z3,seval,-ae];refine qo hs hR o q hy m1 rfl m1.1.symm λv4=>?_;simp only[Z3,seval,-ae];have e2:El p n (br p W B n x (br p W B n x y)):=br_el o q;have e4:El p n (br p W B n y (lmul p W (-1) (br p W B n x y))):=br_el o q;refine Q5 hs hR.P o e2 e4 e2.1.symm e4.1.symm λv5=>?_;simp only[Z3,seval,-ae];refine zA.fzIT (λK'=>zDZ hs hR.P o hx hy rfl rfl) λw1 t1 f1 o1 BE=>?_;have dF:PtrR (σ.up t1) s p vP vB:=⟨hs.obj,hs.lt⟩;simp only[Z3,seval,-ae];refine zA.fzITx (λK'=>zCw dF hR.P o z.pow bel bel.1.symm) λz2 w2 t2 d2 f2 o2 gQ=>?_;have fA:PtrR (σ.up t2) s p vP vB:=⟨hs.obj,hs.lt⟩;simp only[Z3,seval,-ae];have te:=Za o q (x:=x) (y:=y);refine zA.fzITx (λK'=>zCw fA hR.P o z.pow (x:=ZB p W B n x y) te te.1.symm) λz3 w3 t3 d3 f3 o3 mw=>?_;rw[dv_eq o bel d2 (z.d2 hx)]at f2;rw[dv_eq o te d3 (z.d12 hx)]at f3;simp only[zKM]at o2 gQ o3 mw;simp only[Z3,seval,-ae,f1.cells,f1.one,f2.cells,f2.one,f3.cells,f3.one];have Iz:=(((Owns.nil σ.top σ.top).snoc o1 (vM _) BE).snoc o2 BE gQ).snoc o3 (Nat.le_trans BE gQ) mw;exact Gh.own (cs:=[w1,w2,w3]) ((Keep.refl σ).new _ |>.up (by simp only[zHh];omega)) (by simp only[Z3,seval,-ae]) (vM _) ⟨f1.bel 0,f2.bel 0,f3.bel 0,trivial⟩ (by simp[capOK]) (Iz.mono (vM _) (vM _)) λo4 t4 h1 h2=>hk _ w1 w2 w3 t4 f1 f2 f3 h1 h2
theorem zJ8(z:Lz p n W B c)(hs:PtrR σ s p vP vB)(hR:IsR vP vB W B)(hx:El p n x)(hy:El p n y)(aX:FI vx x)(fw:FI vy y)
  (hk:∀a v1 v2 v3,FI v1 (ladd p W x y)->FI v2 (dv p n W 2 (br p W B n x y))->FI v3 (dv p n W 12 (ZB p W B n x y))->K (.fz true a 3 [v1,v2,v3]) σ):
  zA Tryz.prog 220 [.ptr s 0,vx,vy] σ K:=
 zA.gh (zLw z hs hR hx hy aX fw λa v1 v2 v3 t f1 f2 f3 _ ht=>Gh.fin0 ((Keep.refl σ).up ht) trivial (hk a v1 v2 v3 f1 f2 f3))
theorem zFv(z:Lz p n W B c)(hs:PtrR σ s p vP vB)(hR:IsR vP vB W B)(hx:El p n x)(hy:El p n y)(aX:FI vx x)(fw:FI vy y)(hk:ResI σ K (bch p n W B x y)):
  zA Tryz.prog 131 [.ptr s 0,vx,vy] σ K:=by
 have o:=z.r.o;have q:=z.r.q;refine zD mix Tryz.func131 ?_
 conv=>arg 2;cbv
 refine zF rfl ?_;simp only[Z3,seval,-ae];refine zJ8 z hs hR hx hy aX fw λa v1 v2 v3 f1 f2 f3=>?_;obtain⟨w1,a1,rfl⟩:=f1;obtain⟨w2,a2,rfl⟩:=f2;obtain⟨w3,a3,rfl⟩:=f3;have e1:El p n (ladd p W x y):=zK o hx hy;have e2:=dv_el o (k:=2) (br_el o q (a:=x) (b:=y));have e3:=dv_el o (k:=12) (Za o q (x:=x) (y:=y));have e4:El p n (ladd p W (ladd p W x y) (dv p n W 2 (br p W B n x y))):=zK o e1 e2;have c0:(0:Int)<((3:Nat):Int):=by decide
 have c1:(1:Int)<((3:Nat):Int):=by decide
 have c2:(2:Int)<((3:Nat):Int):=by decide
 simp only[Z3,seval,-ae,c0,c1,c2];refine Q5 hs hR.P o e1 e2 rfl rfl λv4=>?_;simp only[Z3,seval,-ae];refine zDZ hs hR.P o e4 e3 e4.1.symm rfl ⟨λh0=>?_,λcap hc=>?_⟩
 .simp only[Z3,seval,-ae];exact hk.1 h0
 .simp only[Z3,seval,-ae];exact hk.2 cap hc
theorem zJh(z:Lz p n W B c)(hR:IsR vP vB W B)(hx:El p n x)(hy:El p n y)(aX:FI vx x)(fw:FI vy y)
  (hk:∀a v1 v2 v3,FI v1 (ladd p W x y)->FI v2 (dv p n W 2 (br p W B n x y))->FI v3 (dv p n W 12 (ZB p W B n x y))->K (.fz true a 3 [v1,v2,v3]) σ):
  zA Tryz.prog 221 [.agg [.int .i64 p,vP,vB],vx,vy] σ K:=by
 have o:=z.r.o;have q:=z.r.q;have aW:=hx.1;have dz:=hy.1;have h1:=hR.P.one;have h2:=hR.B.one;obtain⟨wx,ax,rfl⟩:=aX;obtain⟨wy,ay,rfl⟩:=fw;refine zA.gh ?_;have bel:=br_el o q (a:=x) (b:=y);refine zD mix Tryz.func221 ?_
 conv=>arg 2;cbv
 refine zF rfl ?_;simp only[Z3,seval,-ae,h1,h2];refine qF hR o q hx hy rfl rfl λv1=>?_;simp only[Z3,seval,-ae];refine qF hR o q hx bel rfl bel.1.symm λv2=>?_;simp only[Z3,seval,-ae];refine qF hR o q hy bel rfl bel.1.symm λv3=>?_;simp only[Z3,seval,-ae];have e2:El p n (br p W B n x (br p W B n x y)):=br_el o q;have e3:El p n (br p W B n y (br p W B n x y)):=br_el o q;refine qW hR o e2 e3 e2.1.symm e3.1.symm (by decide) (by decide) λv4=>?_;have te:=Za o q (x:=x) (y:=y);have Ii:=third o q z.r.nf (x:=x) (y:=y) bel;rw[<-Ii];simp only[Z3,seval,-ae];refine qW hR o hx hy rfl rfl (by decide) (by decide) λv5=>?_;simp only[Z3,seval,-ae];refine zFV hR o z.pow bel bel.1.symm λw6 v6 z2 d2=>?_;simp only[Z3,seval,-ae];refine zFV hR o z.pow (x:=ZB p W B n x y) te te.1.symm λw7 v7 z3 d3=>?_;have cf:=dv_eq o bel d2 (z.d2 hx);have Bj:=dv_eq o te d3 (z.d12 hx);subst cf;subst Bj;simp only[Z3,seval,-ae];exact Gh.finF (s:=σ.next+1) (cs:=[.fz true v5 n (pis (ladd p W x y)),.fz w6 v6 n (pis (dv p n W 2 (br p W B n x y))),.fz w7 v7 n (pis (dv p n W 12 (ZB p W B n x y)))]) (((zC σ _).new _)) (by simp only[Z3,seval,-ae]) (by omega) ⟨trivial,trivial,trivial,trivial⟩ (by simp[capOK]) λo4=>hk _ _ _ _ ⟨true,v5,by rw[show(ladd p W x y).length=n from(zK o hx hy).1]⟩ ⟨w6,v6,by rw[d2.el.1]⟩ ⟨w7,v7,by rw[d3.el.1]⟩
theorem zGi(z:Lz p n W B c)(hR:IsR vP vB W B)(hx:El p n x)(hy:El p n y)(aX:FI vx x)(fw:FI vy y)(hk:∀v,FI v (bch p n W B x y)->K v σ):
  zA Tryz.prog 132 [.agg [.int .i64 p,vP,vB],vx,vy] σ K:=by
 have o:=z.r.o;have q:=z.r.q;have h1:=hR.P.one;have h2:=hR.B.one;refine zA.gh ?_;refine zD mix Tryz.func132 ?_
 conv=>arg 2;cbv
 refine zF rfl ?_;simp only[Z3,seval,-ae,h1,h2];refine zJh z hR hx hy aX fw λa v1 v2 v3 f1 f2 f3=>?_;obtain⟨w1,a1,rfl⟩:=f1;obtain⟨w2,a2,rfl⟩:=f2;obtain⟨w3,a3,rfl⟩:=f3;have e1:El p n (ladd p W x y):=zK o hx hy;have e2:=dv_el o (k:=2) (br_el o q (a:=x) (b:=y));have e3:=dv_el o (k:=12) (Za o q (x:=x) (y:=y));have e4:El p n (ladd p W (ladd p W x y) (dv p n W 2 (br p W B n x y))):=zK o e1 e2;have c0:(0:Int)<((3:Nat):Int):=by decide
 have c1:(1:Int)<((3:Nat):Int):=by decide
 have c2:(2:Int)<((3:Nat):Int):=by decide
 simp only[Z3,seval,-ae,c0,c1,c2];refine qW hR o e1 e2 rfl rfl (by decide) (by decide) λv4=>?_;simp only[Z3,seval,-ae];refine qW hR o (a:=ladd p W (ladd p W x y) (dv p n W 2 (br p W B n x y))) e4 e3 e4.1.symm rfl (by decide) (by decide) λv5=>?_;simp only[Z3,seval,-ae];exact Gh.fin0 (zC σ _) trivial (hk _ ⟨true,v5,by rw[(Z5 o q hx hy).1];rfl⟩)
theorem zNG(o:OkW p n W)(hR:IsR vP vB W B)(hx:El p n x)(aX:FI vx x)(hk:∀v,FI v (lmul p W (-1) x)->K v σ):
  zA Tryz.prog 275 [.agg [.int .i64 p,vP,vB],vx] σ K:=by
 have h1:=hR.P.one;have h2:=hR.B.one;have aW:=hx.1;obtain⟨wx,ax,rfl⟩:=aX;refine zA.gh ?_;refine zD mix Tryz.func275 ?_
 conv=>arg 2;cbv
 refine zF rfl ?_;simp only[Z3,seval,-ae,h1,h2];refine qW hR o hx hx rfl rfl (by decide) (by decide) λv5=>?_;simp only[Z3,seval,-ae];exact Gh.fin0 (zC σ _) trivial (hk _ ⟨true,v5,by rw[show(lmul p W (-1) x).length=n from(zK o hx hx).1]⟩)
end Go.Proofs
namespace Go.Proofs
open Go.Ab Go.Lie
variable{σ:PHeap}{K:PV->PHeap->Prop}{p:Int}{n c:Nat}{W:V2}{B:V3}{vP vB vL:PV}{s:Nat}{x y:V1}{vx vy:PV}{xs:V2}
theorem zLx(z:Lz p n W B c)(hs:PtrR σ s p vP vB)(hR:IsR vP vB W B)(hL:FII vL xs)(hx:Els p n xs)(hb:xs.length<=1048576)(hk:ResI σ K (fold p n W B xs)):zA Tryz.prog 192 [.ptr s 0,vL] σ K:=by
 have o:=z.r.o;have q:=z.r.q;have aN:=o.le;have eV:=o.len;have aJ:=hR;obtain⟨wl,al,rl,rfl,bp⟩:=hL;obtain⟨⟨w1,a1,rP,rfl,hP⟩,hB⟩:=hR;refine zA.gh ?_;have ar:¬s=σ.next:=Nat.ne_of_lt hs.lt;refine zD mix Tryz.func192 ?_
 conv=>arg 2;cbv
 refine zF rfl ?_;simp only[Z3,seval,-ae,zI hs.obj,ar,List.length_replicate,qA,mk8 (n:=W.length) (by omega),mkL (n:=W.length) (by omega)];refine zG (λm vs h'=>∃i v,i<=xs.length/\m=xs.length-i/\vs=[.ptr s 0,v,.fz wl al xs.length rl,.int .i64 xs.length,.int .i64 (i:Nat)]/\Keep σ h'/\PAcc σ.next 1 h' v n (pis (fold p n W B (xs.take i)))) xs.length ?_ ?_
 .refine⟨0,_,by omega,by omega,rfl,zC σ _,.inr ?_⟩;rw[eV];exact PSl.new σ.next 1 (h:=σ) (n:=n) (cs:=pis (List.replicate n 0)) (by rw[zJ];simp) (vM _)
 .rintro m vs h' ⟨i,v,hi,rfl,rfl,aq,ha⟩
  simp only[Z3,seval,-ae];refine iteI (λah=>?_) λaG=>?_
  .obtain⟨w4,a4,cw⟩:=bp.rowI ah;have bg:=zAX o q (xs:=xs.take i) λy hy=>hx y (List.mem_of_mem_take hy);have mq:=hx _ (List.getElem_mem ah);have e:∀{v':PV} {H:PHeap},Keep σ H->PAcc σ.next 1 H v' n (pis (bch p n W B (fold p n W B (xs.take i)) xs[i]))->∃n',n'<xs.length-i/\∃i' v,i'<=xs.length/\n'=xs.length-i'/\[PV.ptr s 0,v',.fz wl al xs.length rl,.int .i64 xs.length,.int .i64 ((i+1:Nat):Int)]=[.ptr s 0,v,.fz wl al xs.length rl,.int .i64 xs.length,.int .i64 (i':Nat)]/\Keep σ H/\PAcc σ.next 1 H v n (pis (fold p n W B (xs.take i'))):=λ{v' H} k1 k2=>by
    refine⟨_,by omega,i+1,v',by omega,rfl,rfl,k1,?_⟩;rw[zGw xs ah];exact k2
   have bl:=(Z5 o q bg mq).1;simp only[Z3,seval,-ae,ah,cw];rcases ha with ⟨rfl,h0,h1⟩|⟨s',cap,rfl,hc,q2,q3,q4,q5⟩
   .refine zFv z (hs.keep aq) aJ bg mq ⟨true,.nils,by rw[h1,show(fold p n W B (xs.take i)).length=0 by rw[bg.1];exact h0]⟩ ⟨_,_,rfl⟩ ⟨λh2=>?_,λcap hc=>?_⟩
    .simp only[Z3,seval,-ae,wrapS ah (by omega:xs.length<=4611686018427387904)];exact e aq (.inl ⟨rfl,h0,by rw[h2];rfl⟩)
    .simp only[Z3,seval,-ae,wrapS ah (by omega:xs.length<=4611686018427387904)];refine e (aq.new _) (.inr ⟨_,cap,by rw[bl],by rw[<-bl];exact hc,by simp only[Z3,seval,-ae],by rw[zJ,bl,Nat.mul_one],aq.next,by simp[PHeap.new]⟩)
   .refine zA.frz (s:=s') (cs:=pis (fold p n W B (xs.take i))) q2 (zL _ _) λo1=>?_;have lj:=hc.ok;simp only[sbs,sb,lj,and_self,if_true];have bV:Keep σ (h'.kill s'):=aq.kill q4;refine zFv z (hs.keep bV) aJ bg mq ⟨true,_,by rw[bg.1]⟩ ⟨_,_,rfl⟩ ⟨λh2=>?_,λcap hc=>?_⟩
    .simp only[Z3,seval,-ae,wrapS ah (by omega:xs.length<=4611686018427387904)];exact e bV (.inl ⟨rfl,by rw[<-bl,h2];rfl,by rw[h2];rfl⟩)
    .simp only[Z3,seval,-ae,wrapS ah (by omega:xs.length<=4611686018427387904)];refine e (bV.new _) (.inr ⟨_,cap,by rw[bl];rfl,by rw[<-bl];exact hc,by simp only[Z3,seval,-ae],by rw[zJ,bl,Nat.mul_one],bV.next,by simp[PHeap.new]⟩)
  .have aK:i=xs.length:=by omega
   subst aK;rw[List.take_length]at ha;exact ha.res aq (zAX o q hx).1.symm hk
theorem zLX(z:Lz p n W B c)(hR:IsR vP vB W B)(hL:FII vL xs)(hx:Els p n xs)(hb:xs.length<=1048576)(hk:∀v,FI v (fold p n W B xs)->K v σ):zA Tryz.prog 274 [.agg [.int .i64 p,vP,vB],vL] σ K:=by
 have o:=z.r.o;have q:=z.r.q;have aN:=o.le;have eV:=o.len;have h1:=hR.P.one;have h2:=hR.B.one;obtain⟨wl,al,rl,rfl,bp⟩:=hL;refine zA.gh ?_;refine zD mix Tryz.func274 ?_
 conv=>arg 2;cbv
 refine zF rfl ?_;simp only[Z3,seval,-ae,h1,h2];refine zCc hR eV (by omega) λv0=>?_;simp only[Z3,seval,-ae];refine zG (λm vs h'=>∃i v,i<=xs.length/\m=xs.length-i/\vs=[.fz wl al xs.length rl,.ptr σ.next 0,v,.int .i64 (i:Nat)]/\h'=σ.new [.int .i64 p,vP,vB]/\FI v (fold p n W B (xs.take i))) xs.length ?_ ?_
 .exact⟨0,_,by omega,by omega,rfl,rfl,⟨true,v0,by rw[List.take_zero,show fold p n W B []=List.replicate n 0 from rfl,List.length_replicate];rfl⟩⟩
 .rintro m vs h' ⟨i,v,hi,rfl,rfl,rfl,hv⟩
  simp only[Z3,seval,-ae];refine iteI (λah=>?_) λaG=>?_
  .obtain⟨w4,a4,cw⟩:=bp.rowI ah;have bg:=zAX o q (xs:=xs.take i) λy hy=>hx y (List.mem_of_mem_take hy);have mq:=hx _ (List.getElem_mem ah);simp only[Z3,seval,-ae,ah,cw];refine zGi z hR bg mq hv ⟨_,_,rfl⟩ λv' eg=>?_;simp only[Z3,seval,-ae,wrapS ah (by omega:xs.length<=4611686018427387904)];exact⟨_,by omega,i+1,v',by omega,rfl,rfl,by rw[zGw xs ah];exact eg⟩
  .have aK:i=xs.length:=by omega
   subst aK;rw[List.take_length]at hv;exact Gh.fin0 (zC σ _) (hv.bel _) (hk v hv)
theorem rows3{v1 v2 v3:PV}{x1 x2 x3:V1}{w:Bool}{a:AV}(h1:FI v1 x1)(h2:FI v2 x2)(h3:FI v3 x3):FII (.fz w a 3 [v1,v2,v3]) [x1,x2,x3]:=⟨w,a,_,rfl,by simpa using (((All2.nil _).snoc h1).snoc h2).snoc h3⟩
theorem zAl(o:OkW p n W)(hx:El p n x):El p n (lmul p W (-1) x):=zK o hx hx
theorem els4{x1 x2 x3 x4:V1}(h1:El p n x1)(h2:El p n x2)(h3:El p n x3)(h4:El p n x4):Els p n [x1,x2,x3,x4]:=λy hy=>by simp at hy;rcases hy with rfl|rfl|rfl|rfl<;>assumption
theorem els3{x1 x2 x3:V1}(h1:El p n x1)(h2:El p n x2)(h3:El p n x3):Els p n [x1,x2,x3]:=λy hy=>by simp at hy;rcases hy with rfl|rfl|rfl<;>assumption
theorem zAb(o:OkW p n W)(hs:PtrR σ s p vP vB)(hP:FII vP W)(hx:El p n x)(aX:FI vx x){k:Int}(kS:-1000000000<=k/\k<=1000000000)(hk:∀v,FI v (lmul p W k x)->K v σ):zA Tryz.prog 191 [.ptr s 0,.int .i64 k,vx] σ K:=by
 obtain⟨wx,ax,rfl⟩:=aX;exact QJ hs hP o hx rfl kS λv=>hk _ ⟨_,_,by rw[show(lmul p W k x).length=n from(zK o hx hx).1]⟩
noncomputable def conj(p:Int)(n:Nat)(W:V2)(B:V3)(x y:V1):V1:=fold p n W B [lmul p W (-1) y,x,y]
theorem zLZ(z:Lz p n W B c)(hR:IsR vP vB W B)(hx:El p n x)(hy:El p n y)(aX:FI vx x)(fw:FI vy y)(hk:∀v,FI v (conj p n W B x y)->K v σ):
  zA Tryz.prog 186 [.agg [.int .i64 p,vP,vB],vx,vy] σ K:=by
 have o:=z.r.o;have q:=z.r.q;have h1:=hR.P.one;have h2:=hR.B.one;refine zA.gh ?_;refine zD mix Tryz.func186 ?_
 conv=>arg 2;cbv
 refine zF rfl ?_;simp only[Z3,seval,-ae,h1,h2];refine zNG o hR hy fw λv1 f1=>?_;simp only[Z3,seval,-ae,f1.one,f1.cells,aX.one,aX.cells,fw.one,fw.cells];refine zA.frz (s:=σ.next+1) (cs:=[v1,vx,vy]) (by simp only[Z3,seval,-ae]) ⟨f1.bel 0,aX.bel 0,fw.bel 0,trivial⟩ λo1=>?_;simp only[sbs,sb,capOK,and_self,if_true,decide_true,vM,hR.P.sb,hR.B.sb];refine zLX z hR (rows3 f1 aX fw) (els3 (zAl o hy) hx hy) (by simp) λv hv=>?_;simp only[Z3,seval,-ae];exact Gh.fin0 (((zC σ _).new _).kill (by omega)) (hv.bel _) (hk v hv)
end Go.Proofs
namespace Go.Proofs
open Go.Ab Go.Lie
variable{p:Int}{n c:Nat}{W:V2}{B:V3}{x y:V1}
theorem zIj(f:Vec)(t:Nat):brv B n f f t=0:=by
 have:=zZ (B:=B) (n:=n) f f t
 omega
theorem zBD(z:Lz p n W B c)(hx:El p n x)(hy:El p n y):El p n (comm p n W B x y):=zAX z.r.o z.r.q (els4 (zAl z.r.o hx) (zAl z.r.o hy) hx hy)
end Go.Proofs
namespace Go.Proofs
open Go.Ab Go.Lie
variable{p:Int}{n:Nat}{W:V2}{B:V3}{x y:V1}
noncomputable def sumP(p:Int)(n:Nat)(W:V2)(B:V3)(x y:V1):V1:=
 fold p n W B [x,y,lmul p W (-1) (dv p n W 2 (comm p n W B x y)),dv p n W 12 (comm p n W B (comm p n W B x y) x),lmul p W (-1) (dv p n W 12 (comm p n W B (comm p n W B x y) y))]
noncomputable def brkP(p:Int)(n:Nat)(W:V2)(B:V3)(x y:V1):V1:=
 fold p n W B [comm p n W B x y,lmul p W (-1) (dv p n W 2 (comm p n W B (comm p n W B x y) x)),lmul p W (-1) (dv p n W 2 (comm p n W B (comm p n W B x y) y))]
end Go.Proofs
namespace Go.Proofs
open Go.Ab Go.Lie
variable{p:Int}{n:Nat}{W:V2}{B:V3}{x y:V1}
def adj(p:Int)(n:Nat)(W:V2)(B:V3)(y x:V1):Nat->V1
 |0=>x
 |j+1=>br p W B n (adj p n W B y x j) y
def fact:Nat->Int
 |0=>1
 |j+1=>fact j*(j+1:Nat)
noncomputable def cterm(p:Int)(n:Nat)(W:V2)(B:V3)(y x:V1)(j:Nat):V1:=dv p n W (fact j) (adj p n W B y x j)
theorem zRD(o:OkW p n W)(q:OkB p n B)(hx:El p n x):∀j,El p n (adj p n W B y x j)
 |0=>hx
 |j+1=>br_el o q
end Go.Proofs
namespace Go.Proofs
open Go.Ab Go.Lie
variable{p:Int}{n:Nat}{W:V2}{B:V3}{c k:Nat}{f g h:Vec}
theorem Qs(f g g':Vec)(t:Nat):brv B n f (λj=>g j+g' j) t=brv B n f g t+brv B n f g' t:=by
 rw[zZ,ZM,zZ g f,zZ g' f];grind
theorem zLu(f g:Vec)(t:Nat):brv B n f g t=sumN n λk=>f k*brv B n (at_ (unitL n k)) g t:=by
 rw[zZ,zBm f g,<-Zb];refine qM λk hk=>?_;rw[zZ g (at_ (unitL n k))];grind
theorem QG{f f' g g':Vec}(h:∀j,f j=f' j)(h':∀j,g j=g' j)(t:Nat):brv B n f g t=brv B n f' g' t:=zAt (λj _=>h j) (λj _=>h' j) t
def jac(B:V3)(n:Nat)(f g h:Vec):Vec:=λt=>brv B n (brv B n f g) h t+brv B n (brv B n g h) f t+brv B n (brv B n h f) g t
theorem zKV(f g h:Vec)(t:Nat):jac B n f g h t=jac B n g h f t:=by
 simp only[jac];omega
theorem zEt(f g h:Vec)(t:Nat):brv B n (brv B n f g) h t=-1*brv B n (brv B n g f) h t:=by
 rw[QG (f':=λj=>-1*brv B n g f j) (g':=h) (λj=>zZ f g j) (λ_=>rfl),zq]
theorem zIH(f g h:Vec)(t:Nat):jac B n f g h t=-1*jac B n g f h t:=by
 simp only[jac];rw[zEt f g,zEt g h,zEt h f];omega
theorem zOr(f h:Vec)(t:Nat):jac B n f f h t=0:=by
 have:=zIH (B:=B) (n:=n) f f h t
 omega
theorem zQA(f g h:Vec)(t:Nat):jac B n f g h t=sumN n λk=>f k*jac B n (at_ (unitL n k)) g h t:=by
 simp only[jac];rw[QG (f':=λj=>sumN n λk=>f k*brv B n (at_ (unitL n k)) g j) (g':=h) (λj=>zLu f g j) (λ_=>rfl),zBF (t:=t) (g:=h) n (λk j=>f k*brv B n (at_ (unitL n k)) g j),
  zBm f (brv B n g h),QG (f':=λj=>sumN n λk=>f k*brv B n h (at_ (unitL n k)) j) (g':=g) (λj=>zBm f h j) (λ_=>rfl),zBF (t:=t) (g:=g) n (λk j=>f k*brv B n h (at_ (unitL n k)) j),<-QT,<-QT]
 refine qM λk hk=>?_;rw[zq,zq];grind
theorem zII(hu:∀k,k<n->Eqv p n W (jac B n (at_ (unitL n k)) g h) λ_=>0):Eqv p n W (jac B n f g h) λ_=>0:=
 (Eqv.of_eq λt=>zQA f g h t).trans (zCj n (λk t=>f k*jac B n (at_ (unitL n k)) g h t) λk hk=>((hu k hk).mul (f k)).trans (Eqv.of_eq λt=>by grind))
theorem zAW(o:OkW p n W)(q:OkB p n B)(nf:qE p W B n){i j k:Nat}(kV:i<j)(sS:j<k)(hk:k<n):Eqv p n W (jac B n (at_ (unitL n i)) (at_ (unitL n j)) (at_ (unitL n k))) λ_=>0:=by
 have h:=nf.2 i j k kV sS hk;unfold F2 at h;have e:∀a b c:V1,Eqv p n W (at_ (br p W B n (br p W B n a b) c)) (brv B n (brv B n (at_ a) (at_ b)) (at_ c)):=λa b c=>(qg o q _ _).trans (Z4 o q nf _ (qg o q a b));have ev2:=(((qP o (zK o (br_el o q) (br_el o q)) (br_el o q)).symm.trans (Eqv.of_eq (ZP h))));refine Eqv.trans ?_ ev2;refine(Eqv.of_eq λt=>rfl).trans (Eqv.add (Eqv.trans ?_ (qP o (br_el o q) (br_el o q)).symm) (e _ _ _).symm);exact Eqv.add (e _ _ _).symm (e _ _ _).symm
theorem zNN(o:OkW p n W)(q:OkB p n B)(nf:qE p W B n){i j k:Nat}(hi:i<n)(hj:j<n)(hk:k<n):Eqv p n W (jac B n (at_ (unitL n i)) (at_ (unitL n j)) (at_ (unitL n k))) λ_=>0:=by
 have gf:∀{a b c:Vec},Eqv p n W (jac B n b c a) (λ_=>0)->Eqv p n W (jac B n a b c) λ_=>0:=λh=>(Eqv.of_eq λt=>zKV _ _ _ t).trans h;have swp:∀{a b c:Vec},Eqv p n W (jac B n b a c) (λ_=>0)->Eqv p n W (jac B n a b c) λ_=>0:=λh=>(Eqv.of_eq λt=>zIH _ _ _ t).trans ((h.mul (-1)).trans (Eqv.of_eq λt=>rfl));have tn:∀{a c:Vec},Eqv p n W (jac B n a a c) (λ_=>0):=Eqv.of_eq λt=>zOr _ _ t;rcases Nat.lt_trichotomy i j with h1|rfl|h1
 .rcases Nat.lt_trichotomy j k with h2|rfl|h2
  .exact zAW o q nf h1 h2 hk
  .exact gf tn
  .rcases Nat.lt_trichotomy i k with h3|rfl|h3
   .exact gf (swp (gf (gf (zAW o q nf h3 h2 hj))))
   .exact gf (gf tn)
   .exact gf (gf (zAW o q nf h3 h1 hj))
 .exact tn
 .rcases Nat.lt_trichotomy j k with h2|rfl|h2
  .rcases Nat.lt_trichotomy i k with h3|rfl|h3
   .exact swp (zAW o q nf h1 h3 hk)
   .exact gf (gf tn)
   .exact gf (zAW o q nf h2 h3 hi)
  .exact gf tn
  .exact swp (gf (gf (zAW o q nf h2 h1 hi)))
theorem zEh(o:OkW p n W)(q:OkB p n B)(nf:qE p W B n)(f g h:Vec):Eqv p n W (jac B n f g h) λ_=>0:=by
 have gf:∀{a b c:Vec},Eqv p n W (jac B n b c a) (λ_=>0)->Eqv p n W (jac B n a b c) λ_=>0:=λh=>(Eqv.of_eq λt=>zKV _ _ _ t).trans h;refine zII λi hi=>gf (zII λj hj=>gf (zII λk hk=>gf ?_));exact zNN o q nf hi hj hk
theorem Rg.brk3(r:Rg p n W B c)(hh:Lw p n W B k h)(f g:Vec):Lw p n W B (k+2) (brv B n (brv B n f g) h):=by
 have h1:=r.brk2 (r.brk2 hh g) f;have h2:=r.brk2 (r.brk2 hh f) g;refine(r.sub _).eqv _ _ ?_ ((r.sub _).add _ _ h1 ((r.sub _).mul (-1) _ h2));have h0:=zEh r.o r.q r.nf f g h;refine(Eqv.of_eq λt=>?_).trans ((((Eqv.refl (λt=>brv B n f (brv B n g h) t + -1*brv B n g (brv B n f h) t)).add h0)).trans (Eqv.of_eq λt=>by omega));simp only[jac];have ev1:=zZ (B:=B) (n:=n) (brv B n g h) f t;have ev2:=zZ (B:=B) (n:=n) (brv B n h f) g t;have ev3:brv B n g (brv B n h f) t=-1*brv B n g (brv B n f h) t:=by
  rw[QG (f':=g) (g':=λj=>-1*brv B n f h j) (λ_=>rfl) (λj=>zZ h f j),Zp]
 omega
section
variable{X Y Z:Vec}
def ev1(X Y Z:Vec)(a:V1):Vec:=λt=>at_ a 0*X t+at_ a 1*Y t+at_ a 2*Z t
def ev2(B:V3)(n:Nat)(X Y Z:Vec)(a:V1):Vec:=λt=>at_ a 3*brv B n X Y t+at_ a 4*brv B n X Z t+at_ a 5*brv B n Y Z t
def ev3(B:V3)(n:Nat)(X Y Z:Vec)(a:V1):Vec:=λt=>
 at_ a 6*brv B n X (brv B n X Y) t+at_ a 7*brv B n Y (brv B n X Y) t+at_ a 8*brv B n Z (brv B n X Y) t+at_ a 9*brv B n X (brv B n X Z) t
 + at_ a 10*brv B n Y (brv B n X Z) t+at_ a 11*brv B n Z (brv B n X Z) t+at_ a 12*brv B n Y (brv B n Y Z) t+at_ a 13*brv B n Z (brv B n Y Z) t
def evv(B:V3)(n:Nat)(X Y Z:Vec)(a:V1):Vec:=λt=>ev1 X Y Z a t+(ev2 B n X Y Z a t+ev3 B n X Y Z a t)
def tbl(a b:V1):V1:=
  [0,0,0,at_ a 0*at_ b 1-at_ a 1*at_ b 0,at_ a 0*at_ b 2-at_ a 2*at_ b 0,at_ a 1*at_ b 2-at_ a 2*at_ b 1,
   at_ a 0*at_ b 3-at_ b 0*at_ a 3,at_ a 1*at_ b 3-at_ b 1*at_ a 3,at_ a 2*at_ b 3-at_ a 0*at_ b 5-(at_ b 2*at_ a 3-at_ b 0*at_ a 5),
   at_ a 0*at_ b 4-at_ b 0*at_ a 4,at_ a 1*at_ b 4+at_ a 0*at_ b 5-(at_ b 1*at_ a 4+at_ b 0*at_ a 5),at_ a 2*at_ b 4-at_ b 2*at_ a 4,
   at_ a 1*at_ b 5-at_ b 1*at_ a 5,at_ a 2*at_ b 5-at_ b 2*at_ a 5]
theorem zDW(a b:V1):at_ (tbl a b) 0=0/\at_ (tbl a b) 1=0/\at_ (tbl a b) 2=0/\at_ (tbl a b) 3=at_ a 0*at_ b 1-at_ a 1*at_ b 0/\at_ (tbl a b) 4=at_ a 0*at_ b 2-at_ a 2*at_ b 0
  /\at_ (tbl a b) 5=at_ a 1*at_ b 2-at_ a 2*at_ b 1/\at_ (tbl a b) 6=at_ a 0*at_ b 3-at_ b 0*at_ a 3/\at_ (tbl a b) 7=at_ a 1*at_ b 3-at_ b 1*at_ a 3
  /\at_ (tbl a b) 8=at_ a 2*at_ b 3-at_ a 0*at_ b 5-(at_ b 2*at_ a 3-at_ b 0*at_ a 5)/\at_ (tbl a b) 9=at_ a 0*at_ b 4-at_ b 0*at_ a 4
  /\at_ (tbl a b) 10=at_ a 1*at_ b 4+at_ a 0*at_ b 5-(at_ b 1*at_ a 4+at_ b 0*at_ a 5)/\at_ (tbl a b) 11=at_ a 2*at_ b 4-at_ b 2*at_ a 4
  /\at_ (tbl a b) 12=at_ a 1*at_ b 5-at_ b 1*at_ a 5/\at_ (tbl a b) 13=at_ a 2*at_ b 5-at_ b 2*at_ a 5:=⟨rfl,rfl,rfl,rfl,rfl,rfl,rfl,rfl,rfl,rfl,rfl,rfl,rfl,rfl⟩
theorem zNd(a:V1)(g:Vec)(t:Nat):brv B n (ev1 X Y Z a) g t=at_ a 0*brv B n X g t+at_ a 1*brv B n Y g t+at_ a 2*brv B n Z g t:=by
 unfold ev1;rw[ZM,ZM,zq,zq,zq]
theorem zQ8(a:V1)(g:Vec)(t:Nat):brv B n g (ev1 X Y Z a) t=at_ a 0*brv B n g X t+at_ a 1*brv B n g Y t+at_ a 2*brv B n g Z t:=by
 unfold ev1;rw[Qs,Qs,Zp,Zp,Zp]
theorem zQ7(a:V1)(g:Vec)(t:Nat):brv B n g (ev2 B n X Y Z a) t=at_ a 3*brv B n g (brv B n X Y) t+at_ a 4*brv B n g (brv B n X Z) t+at_ a 5*brv B n g (brv B n Y Z) t:=by
 unfold ev2;rw[Qs,Qs,Zp,Zp,Zp]
theorem zQ4(a:V1)(g:Vec)(t:Nat):brv B n (ev2 B n X Y Z a) g t=at_ a 3*brv B n (brv B n X Y) g t+at_ a 4*brv B n (brv B n X Z) g t+at_ a 5*brv B n (brv B n Y Z) g t:=by
 unfold ev2;rw[ZM,ZM,zq,zq,zq]
theorem br11(a b:V1)(t:Nat):brv B n (ev1 X Y Z a) (ev1 X Y Z b) t=ev2 B n X Y Z (tbl a b) t:=by
 simp only[zNd,zQ8,zIj,zZ (B:=B) (n:=n) Y X,zZ (B:=B) (n:=n) Z X,zZ (B:=B) (n:=n) Z Y,ev2];obtain⟨_,_,_,h3,h4,h5,_⟩:=zDW a b;rw[h3,h4,h5];grind
theorem br123(a b:V1)(t:Nat):brv B n (ev1 X Y Z a) (ev2 B n X Y Z b) t+brv B n (ev2 B n X Y Z a) (ev1 X Y Z b) t
  = ev3 B n X Y Z (tbl a b) t+(at_ b 0*at_ a 5-at_ a 0*at_ b 5)*jac B n Z X Y t:=by
 rw[zZ (ev2 B n X Y Z a)];simp only[zNd,zQ7,ev3,jac];obtain⟨_,_,_,_,_,_,h6,h7,h8,h9,s8,Dm,s7,Dl⟩:=zDW a b;rw[h6,h7,h8,h9,s8,Dm,s7,Dl,zZ (brv B n Z X),zZ (brv B n X Y),zZ (brv B n Y Z),
  QG (f:=Y) (f':=Y) (g':=λj=>-1*brv B n X Z j) (λ_=>rfl) (λj=>zZ Z X j),Zp]
 grind
theorem Rg.e1_lw(r:Rg p n W B c)(hX:Lw p n W B 0 X)(hY:Lw p n W B 0 Y)(hZ:Lw p n W B 0 Z)(a:V1):Lw p n W B 0 (ev1 X Y Z a):=
 (r.sub 0).add _ _ ((r.sub 0).add _ _ ((r.sub 0).mul _ _ hX) ((r.sub 0).mul _ _ hY)) ((r.sub 0).mul _ _ hZ)
theorem Rg.e2_lw(r:Rg p n W B c)(hY:Lw p n W B 0 Y)(hZ:Lw p n W B 0 Z)(a:V1):Lw p n W B 1 (ev2 B n X Y Z a):=
 (r.sub 1).add _ _ ((r.sub 1).add _ _ ((r.sub 1).mul _ _ (r.brk2 hY _)) ((r.sub 1).mul _ _ (r.brk2 hZ _))) ((r.sub 1).mul _ _ (r.brk2 hZ _))
theorem Rg.e3_lw(r:Rg p n W B c)(hY:Lw p n W B 0 Y)(hZ:Lw p n W B 0 Z)(a:V1):Lw p n W B 2 (ev3 B n X Y Z a):=by
 have b2:∀{e f g:Vec},Lw p n W B 0 g->Lw p n W B 2 (brv B n e (brv B n f g)):=λh=>r.brk2 (r.brk2 h _) _;have s:=r.sub 2;exact s.add _ _ (s.add _ _ (s.add _ _ (s.add _ _ (s.add _ _ (s.add _ _ (s.add _ _ (s.mul _ _ (b2 hY)) (s.mul _ _ (b2 hY))) (s.mul _ _ (b2 hY))) (s.mul _ _ (b2 hZ))) (s.mul _ _ (b2 hZ))) (s.mul _ _ (b2 hZ))) (s.mul _ _ (b2 hZ))) (s.mul _ _ (b2 hZ))
theorem Rg.evv_brv(r:Rg p n W B c)(hc:c<=3)(hX:Lw p n W B 0 X)(hY:Lw p n W B 0 Y)(hZ:Lw p n W B 0 Z)(a b:V1):
  Eqv p n W (brv B n (evv B n X Y Z a) (evv B n X Y Z b)) (evv B n X Y Z (tbl a b)):=by
 have s:=λk=>r.sub k;have l1:=λa=>r.e1_lw hX hY hZ a;have l2:=λa=>r.e2_lw (X:=X) hY hZ a;have l3:=λa=>r.e3_lw (X:=X) hY hZ a;have z3:∀{f:Vec},Lw p n W B 3 f->Eqv p n W f λ_=>0:=λh=>r.top hc h;have y1:Eqv p n W (brv B n (ev3 B n X Y Z a) (evv B n X Y Z b)) λ_=>0:=z3 (r.brk (l3 a) _);have y2:Eqv p n W (brv B n (ev1 X Y Z a) (ev3 B n X Y Z b)) λ_=>0:=z3 (r.brk2 (l3 b) _);have y4:Eqv p n W (brv B n (ev2 B n X Y Z a) (λj=>ev2 B n X Y Z b j+ev3 B n X Y Z b j)) λ_=>0:=by
  have hl:Lw p n W B 1 (λj=>ev2 B n X Y Z b j+ev3 B n X Y Z b j):=(s 1).add _ _ (l2 b) (r.down (l3 b));refine z3 ((s 3).eqv _ _ (Eqv.of_eq λt=>zQ4 a _ t) ?_);exact(s 3).add _ _ ((s 3).add _ _ ((s 3).mul _ _ (r.brk3 hl _ _)) ((s 3).mul _ _ (r.brk3 hl _ _))) ((s 3).mul _ _ (r.brk3 hl _ _))
 have yj:=(zEh r.o r.q r.nf Z X Y).mul (at_ b 0*at_ a 5-at_ a 0*at_ b 5);have all:=((y1.add y2).add y4).add yj;refine(Eqv.of_eq λt=>?_).trans (((Eqv.refl (evv B n X Y Z (tbl a b))).add all).trans (Eqv.of_eq λt=>by simp));have q1:=br11 (B:=B) (n:=n) (X:=X) (Y:=Y) (Z:=Z) a b t;have q2:=br123 (B:=B) (n:=n) (X:=X) (Y:=Y) (Z:=Z) a b t;have q3:brv B n (evv B n X Y Z a) (evv B n X Y Z b) t=brv B n (ev1 X Y Z a) (evv B n X Y Z b) t+(brv B n (ev2 B n X Y Z a) (evv B n X Y Z b) t+brv B n (ev3 B n X Y Z a) (evv B n X Y Z b) t):=by
  rw[show evv B n X Y Z a=λj=>ev1 X Y Z a j+(λj=>ev2 B n X Y Z a j+ev3 B n X Y Z a j) j from rfl,ZM,ZM]
 have q4:∀f:Vec,brv B n f (evv B n X Y Z b) t=brv B n f (ev1 X Y Z b) t+brv B n f (λj=>ev2 B n X Y Z b j+ev3 B n X Y Z b j) t:=λf=>by
  rw[show evv B n X Y Z b=λj=>ev1 X Y Z b j+(λj=>ev2 B n X Y Z b j+ev3 B n X Y Z b j) j from rfl,Qs]
 have q5:∀f:Vec,brv B n f (λj=>ev2 B n X Y Z b j+ev3 B n X Y Z b j) t=brv B n f (ev2 B n X Y Z b) t+brv B n f (ev3 B n X Y Z b) t:=λf=>Qs _ _ _ t;have q6:=q4 (ev1 X Y Z a);have q7:=q4 (ev2 B n X Y Z a);have q8:=q5 (ev1 X Y Z a);have q9:ev1 X Y Z (tbl a b) t=0:=by
  obtain⟨h0,h1,h2,_⟩:=zDW a b;simp only[ev1];rw[h0,h1,h2];omega
 have LU:evv B n X Y Z (tbl a b) t=ev1 X Y Z (tbl a b) t+(ev2 B n X Y Z (tbl a b) t+ev3 B n X Y Z (tbl a b) t):=rfl;omega
end
end Go.Proofs
namespace Go.Proofs
open Go.Ab Go.Lie
variable{p:Int}{n m:Nat}{W:V2}{B:V3}{c:Nat}{X Y Z:Vec}{a b:V1}{x y:V1}
def kadd(a b:V1):V1:=[at_ a 0+at_ b 0,at_ a 1+at_ b 1,at_ a 2+at_ b 2,at_ a 3+at_ b 3,at_ a 4+at_ b 4,at_ a 5+at_ b 5,at_ a 6+at_ b 6,at_ a 7+at_ b 7,at_ a 8+at_ b 8,at_ a 9+at_ b 9,at_ a 10+at_ b 10,at_ a 11+at_ b 11,at_ a 12+at_ b 12,at_ a 13+at_ b 13]
def kmul(k:Int)(a:V1):V1:=[k*at_ a 0,k*at_ a 1,k*at_ a 2,k*at_ a 3,k*at_ a 4,k*at_ a 5,k*at_ a 6,k*at_ a 7,k*at_ a 8,k*at_ a 9,k*at_ a 10,k*at_ a 11,k*at_ a 12,k*at_ a 13]
def kdiv(a:V1)(k:Int):V1:=[at_ a 0 / k,at_ a 1 / k,at_ a 2 / k,at_ a 3 / k,at_ a 4 / k,at_ a 5 / k,at_ a 6 / k,at_ a 7 / k,at_ a 8 / k,at_ a 9 / k,at_ a 10 / k,at_ a 11 / k,at_ a 12 / k,at_ a 13 / k]
theorem at_lt{f:Nat->Int}{l:V1}(h0:at_ l 0=f 0/\at_ l 1=f 1/\at_ l 2=f 2/\at_ l 3=f 3/\at_ l 4=f 4/\at_ l 5=f 5/\at_ l 6=f 6/\at_ l 7=f 7/\at_ l 8=f 8/\at_ l 9=f 9/\at_ l 10=f 10/\at_ l 11=f 11/\at_ l 12=f 12/\at_ l 13=f 13):∀i,i<14->at_ l i=f i:=λi hi=>by
 obtain⟨h0,h1,h2,h3,h4,h5,h6,h7,h8,h9,s8,Dm,s7,Dl⟩:=h0
 match i,hi with
 |0,_=>exact h0
 |1,_=>exact h1
 |2,_=>exact h2
 |3,_=>exact h3
 |4,_=>exact h4
 |5,_=>exact h5
 |6,_=>exact h6
 |7,_=>exact h7
 |8,_=>exact h8
 |9,_=>exact h9
 |10,_=>exact s8
 |11,_=>exact Dm
 |12,_=>exact s7
 |13,_=>exact Dl
theorem zKp(a b:V1):∀i,i<14->at_ (kadd a b) i=at_ a i+at_ b i:=at_lt (f:=λi=>at_ a i+at_ b i) ⟨rfl,rfl,rfl,rfl,rfl,rfl,rfl,rfl,rfl,rfl,rfl,rfl,rfl,rfl⟩
theorem zGT(k:Int)(a:V1):∀i,i<14->at_ (kmul k a) i=k*at_ a i:=at_lt (f:=λi=>k*at_ a i) ⟨rfl,rfl,rfl,rfl,rfl,rfl,rfl,rfl,rfl,rfl,rfl,rfl,rfl,rfl⟩
theorem zGU(k:Int)(a:V1):∀i,i<14->at_ (kdiv a k) i=at_ a i / k:=at_lt (f:=λi=>at_ a i / k) ⟨rfl,rfl,rfl,rfl,rfl,rfl,rfl,rfl,rfl,rfl,rfl,rfl,rfl,rfl⟩
theorem zQF(t:Nat):evv B n X Y Z (kadd a b) t=evv B n X Y Z a t+evv B n X Y Z b t:=by
 have h:=zKp a b;simp only[evv,ev1,ev2,ev3];rw[h 0 (by omega),h 1 (by omega),h 2 (by omega),h 3 (by omega),h 4 (by omega),h 5 (by omega),h 6 (by omega),h 7 (by omega),h 8 (by omega),h 9 (by omega),h 10 (by omega),h 11 (by omega),h 12 (by omega),h 13 (by omega)];grind
theorem zKc(k:Int)(t:Nat):evv B n X Y Z (kmul k a) t=k*evv B n X Y Z a t:=by
 have h:=zGT k a;simp only[evv,ev1,ev2,ev3];rw[h 0 (by omega),h 1 (by omega),h 2 (by omega),h 3 (by omega),h 4 (by omega),h 5 (by omega),h 6 (by omega),h 7 (by omega),h 8 (by omega),h 9 (by omega),h 10 (by omega),h 11 (by omega),h 12 (by omega),h 13 (by omega)];grind
structure Md(p:Int)(c m:Nat):Prop where
 c3:c<=3
 cut:m=14\/(m=6/\c<=2)\/(m=3/\c<=1)
 d2:m<=3\/(Cop p 2/\Cop p (-2))
 d12:m<=6\/(Cop p 12/\Cop p (-12))
structure Cx(p:Int)(n:Nat)(W:V2)(B:V3)(c m:Nat)(X Y Z:Vec):Prop where
 z:Lz p n W B c
 md:Md p c m
 x:Lw p n W B 0 X
 y:Lw p n W B 0 Y
 w:Lw p n W B 0 Z
structure EV(p:Int)(n:Nat)(W:V2)(B:V3)(X Y Z:Vec)(a x:V1):Prop where
 el:El p n x
 eqv:Eqv p n W (at_ x) (evv B n X Y Z a)
theorem Cx.cut(k:Cx p n W B c m X Y Z)(h:∀i,i<m->at_ a i=at_ b i):Eqv p n W (evv B n X Y Z a) (evv B n X Y Z b):=by
 have r:=k.z.r;rcases k.md.cut with rfl|⟨rfl,hc⟩|⟨rfl,hc⟩
 .refine Eqv.of_eq λt=>?_;simp only[evv,ev1,ev2,ev3];rw[h 0 (by omega),h 1 (by omega),h 2 (by omega),h 3 (by omega),h 4 (by omega),h 5 (by omega),h 6 (by omega),h 7 (by omega),h 8 (by omega),h 9 (by omega),h 10 (by omega),h 11 (by omega),h 12 (by omega),h 13 (by omega)]
 .have h3:∀a,Eqv p n W (ev3 B n X Y Z a) λ_=>0:=λa=>r.top hc (r.e3_lw k.y k.w a);refine(((Eqv.refl (ev1 X Y Z a)).add ((Eqv.refl (ev2 B n X Y Z a)).add (h3 a))).trans (Eqv.of_eq λt=>?_)).trans ((Eqv.refl (ev1 X Y Z b)).add ((Eqv.refl (ev2 B n X Y Z b)).add (h3 b))).symm;simp only[ev1,ev2];rw[h 0 (by omega),h 1 (by omega),h 2 (by omega),h 3 (by omega),h 4 (by omega),h 5 (by omega)]
 .have h3:∀a,Eqv p n W (ev3 B n X Y Z a) λ_=>0:=λa=>r.top (by omega) (r.e3_lw k.y k.w a);have h2:∀a,Eqv p n W (ev2 B n X Y Z a) λ_=>0:=λa=>r.top (by omega) (r.e2_lw k.y k.w a);refine(((Eqv.refl (ev1 X Y Z a)).add ((h2 a).add (h3 a))).trans (Eqv.of_eq λt=>?_)).trans ((Eqv.refl (ev1 X Y Z b)).add ((h2 b).add (h3 b))).symm;simp only[ev1];rw[h 0 (by omega),h 1 (by omega),h 2 (by omega)]
theorem zQx(k:Cx p n W B c m X Y Z)(a:V1):Lw p n W B 0 (evv B n X Y Z a):=
 (k.z.r.sub 0).add _ _ (k.z.r.e1_lw k.x k.y k.w a) ((k.z.r.sub 0).add _ _ (k.z.r.le (by omega) (k.z.r.e2_lw k.y k.w a)) (k.z.r.le (by omega) (k.z.r.e3_lw k.y k.w a)))
theorem zQy(k:Cx p n W B c m X Y Z)(a:V1):∃z,EV p n W B X Y Z a z:=by
 obtain⟨u,hu,hg⟩:=zQx k a;obtain⟨z,h1,h2,_⟩:=zDt k.z.r.o (hu.els k.z.r.o).1 hg;exact⟨z,h1,h2.symm⟩
theorem EV.same(k:Cx p n W B c m X Y Z)(h:EV p n W B X Y Z a x)(g:EV p n W B X Y Z b y)(e:∀i,i<m->at_ a i=at_ b i):x=y:=
 qQ k.z.r.o h.el.1 g.el.1 h.el.2 g.el.2 (h.eqv.trans ((k.cut e).trans g.eqv.symm))
theorem EV.to(k:Cx p n W B c m X Y Z)(h:EV p n W B X Y Z a x)(e:∀i,i<m->at_ a i=at_ b i):EV p n W B X Y Z b x:=⟨h.el,h.eqv.trans (k.cut e)⟩
theorem EV.add(k:Cx p n W B c m X Y Z)(h:EV p n W B X Y Z a x)(g:EV p n W B X Y Z b y):EV p n W B X Y Z (kadd a b) (ladd p W x y):=
 ⟨zK k.z.r.o h.el g.el,(qP k.z.r.o h.el g.el).trans ((h.eqv.add g.eqv).trans (Eqv.of_eq λt=>(zQF t).symm))⟩
theorem EV.mul(k:Cx p n W B c m X Y Z)(h:EV p n W B X Y Z a x)(q:Int):EV p n W B X Y Z (kmul q a) (lmul p W q x):=
 ⟨zK k.z.r.o h.el h.el,(qO k.z.r.o h.el q).trans ((h.eqv.mul q).trans (Eqv.of_eq λt=>(zKc q t).symm))⟩
theorem EV.brk(k:Cx p n W B c m X Y Z)(h:EV p n W B X Y Z a x)(g:EV p n W B X Y Z b y):EV p n W B X Y Z (tbl a b) (br p W B n x y):=
 ⟨br_el k.z.r.o k.z.r.q,(qg k.z.r.o k.z.r.q x y).trans (((Z4 k.z.r.o k.z.r.q k.z.r.nf _ h.eqv).trans (zEu k.z.r.o k.z.r.q k.z.r.nf _ g.eqv)).trans (k.z.r.evv_brv k.md.c3 k.x k.y k.w a b))⟩
theorem dv_of(o:OkW p n W){k:Int}{x z:V1}(hk:Cop p k)(hx:El p n x)(hz:El p n z)(h:Eqv p n W (λj=>k*at_ z j) (at_ x)):z=dv p n W k x:=by
 refine dv_eq o hx ⟨hz,λh0=>?_,λ_=>h⟩ (.inr hk);rcases Nat.eq_zero_or_pos n with hn|hn
 .have ev1:=hz.1;have ev2:=hx.1;rw[List.eq_nil_of_length_eq_zero (ev1.trans hn),List.eq_nil_of_length_eq_zero (ev2.trans hn)]
 .obtain⟨a,w,ha⟩:=zAY (p:=p) hk hn;have e:Eqv p n W (λj=>k*at_ z j) (λj=>0):=h.trans (Eqv.of_eq (ZP h0));have k1:=(Qr o (f:=at_ z) (λj hj=>hz.beyond hj)).mul w;have k2:=(Eqv.refl (p:=p) (n:=n) (W:=W) (at_ z)).add k1;have ev3:Eqv p n W (at_ z) (at_ x):=(((Eqv.of_eq λj=>(by omega)).trans k2.symm).trans (Eqv.of_eq λj=>(by grind))).trans ((e.mul a).trans (Eqv.of_eq λj=>(by rw[ZP h0,Int.mul_zero])));exact qQ o hz.1 hx.1 hz.2 hx.2 ev3
theorem EV.div(k:Cx p n W B c m X Y Z)(h:EV p n W B X Y Z a x){q:Int}(e:∀i,i<m->at_ a i=q*at_ b i)(hq:Cop p q):EV p n W B X Y Z b (dv p n W q x):=by
 obtain⟨w,hw⟩:=zQy k b;rw[<-dv_of k.z.r.o hq h.el hw.el]
 .exact hw
 .refine((hw.eqv.mul q).trans (Eqv.of_eq λt=>(zKc q t).symm)).trans ((k.cut λi hi=>?_).trans h.eqv.symm);have hm:m<=14:=by rcases k.md.cut with h|h|h<;>omega
  rw[zGT q b i (by omega),e i hi]
theorem EV.divZ(k:Cx p n W B c m X Y Z)(h:EV p n W B X Y Z a x){q:Int}(e:∀i,i<m->at_ a i=0):EV p n W B X Y Z a (dv p n W q x):=by
 have h0:isZ x:=Zo k.z.r.o h.el (h.eqv.trans ((k.cut (b:=[]) λi hi=>e i hi).trans (Eqv.of_eq λt=>by simp[evv,ev1,ev2,ev3])));rw[(ZZ k.z.r.o h.el (k:=q)).nil h0];exact h
def kallm(m:Nat)(f:Nat->Bool):Bool:=(List.range m).all f
theorem zEv{m:Nat}{f:Nat->Bool}(h:kallm m f=true):∀i,i<m->f i=true:=λi hi=>by
 have:=List.all_eq_true.1 h i (List.mem_range.2 hi)
 exact this
def keqm(m:Nat)(a b:V1):Bool:=kallm m λi=>at_ a i == at_ b i
def kdvd(m:Nat)(a:V1)(q:Int):Bool:=kallm m λi=>at_ a i % q == 0
theorem EV.eq(k:Cx p n W B c m X Y Z)(h:EV p n W B X Y Z a x)(g:EV p n W B X Y Z b y)(e:keqm m a b=true):x=y:=h.same k g λi hi=>by simpa using zEv e i hi
theorem EV.dvk(k:Cx p n W B c m X Y Z)(h:EV p n W B X Y Z a x){q:Int}(e:kdvd m a q=true)(hq:Cop p q):EV p n W B X Y Z (kdiv a q) (dv p n W q x):=by
 have hm:m<=14:=by rcases k.md.cut with h|h|h<;>omega
 refine h.div k (λi hi=>?_) hq;rw[zGU q a i (by omega)]
 have:=zEv e i hi
 simp only[beq_iff_eq]at this;exact(Int.mul_ediv_cancel' (Int.dvd_of_emod_eq_zero this)).symm
def zCE(a b:V1):V1:=kadd (tbl a (tbl a b)) (tbl b (kmul (-1) (tbl a b)))
def kbch(a b:V1):V1:=kadd (kadd (kadd a b) (kdiv (tbl a b) 2)) (kdiv (zCE a b) 12)
def kokb(m:Nat)(a b:V1):Bool:=kdvd m (tbl a b) 2 && kdvd m (zCE a b) 12
theorem zF5(a b:V1){i:Nat}(hi:i<3):at_ (tbl a b) i=0:=by
 obtain⟨h0,h1,h2,_⟩:=zDW a b
 match i,hi with
 |0,_=>exact h0
 |1,_=>exact h1
 |2,_=>exact h2
theorem zHT(a b:V1)(hb:∀i,i<3->at_ b i=0){i:Nat}(hi:i<6):at_ (tbl a b) i=0:=by
 obtain⟨h0,h1,h2,h3,h4,h5,_⟩:=zDW a b;have b0:=hb 0 (by omega);have b1:=hb 1 (by omega);have b2:=hb 2 (by omega)
 match i,hi with
 |0,_=>exact h0
 |1,_=>exact h1
 |2,_=>exact h2
 |3,_=>rw[h3,b0,b1];omega
 |4,_=>rw[h4,b0,b2];omega
 |5,_=>rw[h5,b1,b2];omega
theorem zLj(a b:V1){i:Nat}(hi:i<6):at_ (zCE a b) i=0:=by
 rw[zCE,zKp _ _ i (by omega),zHT _ _ (λi hi=>zF5 a b hi) hi,zHT _ _ (λi hi=>by rw[zGT _ _ i (by omega),zF5 a b hi];omega) hi];omega
theorem EV.third(k:Cx p n W B c m X Y Z)(h:EV p n W B X Y Z a x)(g:EV p n W B X Y Z b y):EV p n W B X Y Z (zCE a b) (ZB p W B n x y):=
 (h.brk k (h.brk k g)).add k (g.brk k ((h.brk k g).mul k (-1)))
theorem EV.bch(k:Cx p n W B c m X Y Z)(h:EV p n W B X Y Z a x)(g:EV p n W B X Y Z b y)(e:kokb m a b=true):EV p n W B X Y Z (kbch a b) (bch p n W B x y):=by
 have hm:m<=14:=by rcases k.md.cut with h|h|h<;>omega
 simp only[kokb,Bool.and_eq_true]at e;have z0:∀{a:V1} {q:Int} {v:V1},(∀i,i<m->at_ a i=0)->EV p n W B X Y Z a v->EV p n W B X Y Z (kdiv a q) (dv p n W q v):=λh0 hv=>(hv.divZ k h0).to k λi hi=>by
  rw[zGU _ _ i (by omega),h0 i hi,Int.zero_ediv]
 have h2:EV p n W B X Y Z (kdiv (tbl a b) 2) (dv p n W 2 (br p W B n x y)):=by
  rcases k.md.d2 with hl|hc
  .exact z0 (λi hi=>zF5 a b (by omega)) (h.brk k g)
  .exact(h.brk k g).dvk k e.1 hc.1
 have h3:EV p n W B X Y Z (kdiv (zCE a b) 12) (dv p n W 12 (ZB p W B n x y)):=by
  rcases k.md.d12 with hl|hc
  .exact z0 (λi hi=>zLj a b (by omega)) (h.third k g)
  .exact(h.third k g).dvk k e.2 hc.1
 exact((h.add k g).add k h2).add k h3
theorem EV.zero(k:Cx p n W B c m X Y Z):EV p n W B X Y Z [] (List.replicate n 0):=
 ⟨ZO k.z.r.o.pr,Eqv.of_eq λt=>by rw[zn];simp[evv,ev1,ev2,ev3]⟩
theorem zO9(o:OkW p n W)(q:OkB p n B)(a b:V1):∀j,j<2->at_ (br p W B n a b) j=0:=by
 have hs:∀t,t<2->at_ (bsum B a b n) t=0:=λt ht=>by
  rw[bsum,bi_at q t (vM _)];refine qV _ λi hi=>qV _ λj hj=>?_;rw[(q.get hi hj).2 t (by omega),Int.mul_zero]
 intro j hj;rcases Nat.lt_or_ge j n with x|x
 .exact zAk o (qm q) (d:=min 2 n) (Nat.min_le_right _ _) (λj hj=>hs j (by omega)) j (by omega)
 .exact at_ge (by rw[(br_el o q).1];exact x)
theorem zH5(o:OkW p n W)(q:OkB p n B):∀{k:Nat} {u:V2},Low p n W B (k+1) u->∀x∈u,k+2<=dep x
 |0,u,h,y,hy=>by
  cases h with
  |succ h hc=>
   have hl:=hc.base.led y hy;have hg:=(hc.gen _).2 (zQ hy);have hz:=zCh o (m:=min 2 n) (zCK o q _ _) (Nat.min_le_right _ _) (λv hv j hj=>by
    obtain⟨x,hx,h⟩:=List.mem_flatMap.1 hv;obtain⟨e,he,rfl⟩:=List.mem_map.1 h;exact zO9 o q _ _ j (by omega)) hl.1 hg
   have hd:=dep_ge (v:=y) (d:=min 2 n) (by rw[hl.1.1];exact Nat.min_le_right _ _) hz
   have:=hl.2.1
   omega
 |k+1,u,h,y,hy=>by
  cases h with
  |succ h hc=>exact zCP o q hc (zH5 o q h) y hy
theorem zIM{a b:Int}(hb:0<=b)(h:b<=a):∀k,ipow b k<=ipow a k/\0<=ipow b k
 |0=>⟨Int.le_refl _,by show(0:Int)<=1;decide⟩
 |k+1=>by
  obtain⟨h1,h2⟩:=zIM hb h k;rw[ipow,ipow];exact⟨Int.mul_le_mul h1 h hb (by omega),Int.mul_nonneg h2 hb⟩
theorem Lz.md(z:Lz p n W B c):∃m,Md p c m:=by
 have hc:=z.hc;have hp:=z.hp;have hw:=z.pow;have hn:=z.r.o.le;by_cases h2:p=2
 .exact⟨3,by omega,.inr (.inr ⟨rfl,by omega⟩),.inl (vM _),.inl (by omega)⟩
 .by_cases h3:p=3
  .exact⟨6,by omega,.inr (.inl ⟨rfl,by omega⟩),.inr (zGR hp h2),.inl (vM _)⟩
  .refine⟨14,?_,.inl rfl,.inr (zGR hp h2),.inr (zFq hp h2 h3)⟩;have IK:n<=4:=by
    rcases Nat.lt_or_ge 4 n with hx|hx
    .exfalso;have h5:(5:Int)<=p:=by rcases hp with h|h|h|h<;>omega
     have:=(zIM (a:=p) (b:=5) (by omega) h5 n).1
     have e:n=5\/n=6:=by omega
     rcases e with rfl|rfl
     .have:ipow 5 5=3125:=by decide
      omega
     .have:ipow 5 6=15625:=by decide
      omega
    .exact hx
   rcases Nat.lt_or_ge 3 c with hx|hx
   .exfalso;obtain⟨u,hu⟩:=z.r.low 3;have ar:=z.r.cls.2 3 u hx hu;cases u with
    |nil=>exact ar rfl
    |cons v t=>
     have hd:=zH5 z.r.o z.r.q hu v (by simp);cases hu with
     |succ h bE=>
      have:=(bE.base.led v (by simp)).2.1
      omega
   .exact hx
def scl(m:Nat):Int:=if m=14 then 1728 else if m=6 then 16 else 1
theorem Md.scl(h:Md p c m)(hp:isP p):Cop p (scl m):=by
 have one:Cop p 1:=⟨1,0,by omega⟩
 have mul:∀{a b:Int},Cop p a->Cop p b->Cop p (a*b):=λ{a b} ⟨e,t,h⟩ ⟨f,s,g⟩=>⟨e*f,t+s+p*t*s,by grind⟩
 rcases h.cut with rfl|⟨rfl,_⟩|⟨rfl,_⟩
 .rcases h.d12 with h|h
  .omega
  .exact mul (mul h.1 h.1) h.1
 .rcases h.d2 with h|h
  .omega
  .exact mul (mul (mul h.1 h.1) h.1) h.1
 .exact one
theorem scaled(o:OkW p n W){q:Int}(hq:Cop p q)(hx:El p n x):Eqv p n W (at_ x) λj=>q*at_ (dv p n W q x) j:=((ZZ o hx).eqv hq).symm
theorem Lz.cx(z:Lz p n W B c){x y w:V1}(hx:El p n x)(hy:El p n y)(hw:El p n w):∃m X Y Z,Cx p n W B c m X Y Z/\EV p n W B X Y Z [scl m] x/\EV p n W B X Y Z [0,scl m] y/\EV p n W B X Y Z [0,0,scl m] w/\(m=14\/m=6\/m=3):=by
 obtain⟨m,md⟩:=z.md;have hq:=md.scl z.hp;have o:=z.r.o;refine⟨m,at_ (dv p n W (scl m) x),at_ (dv p n W (scl m) y),at_ (dv p n W (scl m) w),⟨z,md,z.r.all (dv_el o hx),z.r.all (dv_el o hy),z.r.all (dv_el o hw)⟩,⟨hx,(scaled o hq hx).trans (Eqv.of_eq λt=>?_)⟩,⟨hy,(scaled o hq hy).trans (Eqv.of_eq λt=>?_)⟩,⟨hw,(scaled o hq hw).trans (Eqv.of_eq λt=>?_)⟩,by rcases md.cut with h|h|h<;>omega⟩
 all_goals simp[evv,ev1,ev2,ev3]
theorem Lz.assoc(z:Lz p n W B c){x y w:V1}(hx:El p n x)(hy:El p n y)(hw:El p n w):Go.Proofs.bch p n W B (Go.Proofs.bch p n W B x y) w=Go.Proofs.bch p n W B x (Go.Proofs.bch p n W B y w):=by
 obtain⟨m,X,Y,Z,k,ex,ey,ew,hm⟩:=z.cx hx hy hw;rcases hm with rfl|rfl|rfl<;>exact((ex.bch k ey (by decide)).bch k ew (by decide)).eq k (ex.bch k (ey.bch k ew (by decide)) (by decide)) (by decide)
end Go.Proofs
namespace Go.Proofs
open Go.Ab Go.Lie
variable{p:Int}{n m:Nat}{W:V2}{B:V3}{c:Nat}{X Y Z:Vec}{a b:V1}{x y:V1}
def kok2(m:Nat)(a:V1):Bool:=kdvd m a 2 && (decide (3<m) || keqm m a [])
def kok12(m:Nat)(a:V1):Bool:=kdvd m a 12 && (decide (6<m) || keqm m a [])
theorem EV.dv0(k:Cx p n W B c m X Y Z)(h:EV p n W B X Y Z a x){q:Int}(e:keqm m a []=true):EV p n W B X Y Z (kdiv a q) (dv p n W q x):=by
 have hm:m<=14:=by rcases k.md.cut with h|h|h<;>omega
 have h0:∀i,i<m->at_ a i=0:=λi hi=>by simpa using zEv e i hi
 exact(h.divZ k h0).to k λi hi=>by rw[zGU _ _ i (by omega),h0 i hi,Int.zero_ediv]
theorem EV.dv2(k:Cx p n W B c m X Y Z)(h:EV p n W B X Y Z a x)(e:kok2 m a=true):EV p n W B X Y Z (kdiv a 2) (dv p n W 2 x):=by
 simp only[kok2,Bool.and_eq_true,Bool.or_eq_true,decide_eq_true_eq]at e;rcases e.2 with h3|h3
 .rcases k.md.d2 with hl|hc
  .omega
  .exact h.dvk k e.1 hc.1
 .exact h.dv0 k h3
theorem EV.dv12(k:Cx p n W B c m X Y Z)(h:EV p n W B X Y Z a x)(e:kok12 m a=true):EV p n W B X Y Z (kdiv a 12) (dv p n W 12 x):=by
 simp only[kok12,Bool.and_eq_true,Bool.or_eq_true,decide_eq_true_eq]at e;rcases e.2 with h3|h3
 .rcases k.md.d12 with hl|hc
  .omega
  .exact h.dvk k e.1 hc.1
 .exact h.dv0 k h3
def kf3(a b d:V1):V1:=kbch (kbch (kbch [] a) b) d
def kok3(m:Nat)(a b d:V1):Bool:=kokb m [] a && kokb m (kbch [] a) b && kokb m (kbch (kbch [] a) b) d
theorem EV.fold3(k:Cx p n W B c m X Y Z){d w:V1}(hx:EV p n W B X Y Z a x)(hy:EV p n W B X Y Z b y)(hw:EV p n W B X Y Z d w)(e:kok3 m a b d=true):EV p n W B X Y Z (kf3 a b d) (fold p n W B [x,y,w]):=by
 simp only[kok3,Bool.and_eq_true]at e;exact(((EV.zero k).bch k hx e.1.1).bch k hy e.1.2).bch k hw e.2
def kf4(a b d e:V1):V1:=kbch (kf3 a b d) e
def kok4(m:Nat)(a b d e:V1):Bool:=kok3 m a b d && kokb m (kf3 a b d) e
theorem EV.fold4(k:Cx p n W B c m X Y Z){d w d' w':V1}(hx:EV p n W B X Y Z a x)(hy:EV p n W B X Y Z b y)(hw:EV p n W B X Y Z d w)(hv:EV p n W B X Y Z d' w')(e:kok4 m a b d d'=true):EV p n W B X Y Z (kf4 a b d d') (fold p n W B [x,y,w,w']):=by
 simp only[kok4,Bool.and_eq_true]at e;exact(EV.fold3 k hx hy hw e.1).bch k hv e.2
def kcomm(a b:V1):V1:=kf4 (kmul (-1) a) (kmul (-1) b) a b
def kokc(m:Nat)(a b:V1):Bool:=kok4 m (kmul (-1) a) (kmul (-1) b) a b
theorem EV.comm(k:Cx p n W B c m X Y Z)(hx:EV p n W B X Y Z a x)(hy:EV p n W B X Y Z b y)(e:kokc m a b=true):EV p n W B X Y Z (kcomm a b) (comm p n W B x y):=EV.fold4 k (hx.mul k _) (hy.mul k _) hx hy e
def kconj(a b:V1):V1:=kf3 (kmul (-1) b) a b
theorem EV.conj(k:Cx p n W B c m X Y Z)(hx:EV p n W B X Y Z a x)(hy:EV p n W B X Y Z b y)(e:kok3 m (kmul (-1) b) a b=true):EV p n W B X Y Z (kconj a b) (conj p n W B x y):=EV.fold3 k (hy.mul k _) hx hy e
theorem Lz.inv_l(z:Lz p n W B c)(hx:El p n x):bch p n W B (lmul p W (-1) x) x=List.replicate n 0:=by
 obtain⟨m,X,Y,Z,k,ex,ey,ew,hm⟩:=z.cx hx hx hx;rcases hm with rfl|rfl|rfl<;>exact((ex.mul k _).bch k ex (by decide)).eq k (EV.zero k) (by decide)
theorem Lz.inv_r(z:Lz p n W B c)(hx:El p n x):bch p n W B x (lmul p W (-1) x)=List.replicate n 0:=by
 obtain⟨m,X,Y,Z,k,ex,ey,ew,hm⟩:=z.cx hx hx hx;rcases hm with rfl|rfl|rfl<;>exact(ex.bch k (ex.mul k _) (by decide)).eq k (EV.zero k) (by decide)
theorem Lz.one_l(z:Lz p n W B c)(hx:El p n x):bch p n W B (List.replicate n 0) x=x:=by
 obtain⟨m,X,Y,Z,k,ex,ey,ew,hm⟩:=z.cx hx hx hx;rcases hm with rfl|rfl|rfl<;>exact((EV.zero k).bch k ex (by decide)).eq k ex (by decide)
theorem Lz.one_r(z:Lz p n W B c)(hx:El p n x):bch p n W B x (List.replicate n 0)=x:=by
 obtain⟨m,X,Y,Z,k,ex,ey,ew,hm⟩:=z.cx hx hx hx;rcases hm with rfl|rfl|rfl<;>exact(ex.bch k (EV.zero k) (by decide)).eq k ex (by decide)
theorem Lz.sumP(z:Lz p n W B c)(hx:El p n x)(hy:El p n y):Go.Proofs.sumP p n W B x y=ladd p W x y:=by
 obtain⟨m,X,Y,Z,k,ex,ey,ew,hm⟩:=z.cx hx hy hx;have out:∀{e:V1},keqm m (kcomm [scl m] [0,scl m]) e=true->True:=λ_=>trivial;rcases hm with rfl|rfl|rfl<;>
  exact(((((EV.zero k).bch k ex (by decide)).bch k ey (by decide)).bch k (((ex.comm k ey (by decide)).dv2 k (by decide)).mul k (-1)) (by decide)).bch k (((ex.comm k ey (by decide)).comm k ex (by decide)).dv12 k (by decide)) (by decide)
   |>.bch k ((((ex.comm k ey (by decide)).comm k ey (by decide)).dv12 k (by decide)).mul k (-1)) (by decide)).eq k (ex.add k ey) (by decide)
theorem Lz.brkP(z:Lz p n W B c)(hx:El p n x)(hy:El p n y):Go.Proofs.brkP p n W B x y=br p W B n x y:=by
 obtain⟨m,X,Y,Z,k,ex,ey,ew,hm⟩:=z.cx hx hy hx;rcases hm with rfl|rfl|rfl<;>
  exact(EV.fold3 k (ex.comm k ey (by decide)) ((((ex.comm k ey (by decide)).comm k ex (by decide)).dv2 k (by decide)).mul k (-1)) ((((ex.comm k ey (by decide)).comm k ey (by decide)).dv2 k (by decide)).mul k (-1)) (by decide)).eq k (ex.brk k ey) (by decide)
end Go.Proofs
namespace Go.Proofs
open Go.Ab Go.Lie
variable{p:Int}{n m:Nat}{W:V2}{B:V3}{c:Nat}{X Y Z:Vec}{a:V1}{x y:V1}
noncomputable def tsum(p:Int)(n:Nat)(W:V2)(B:V3)(y x:V1):Nat->V1
 |0=>List.replicate n 0
 |j+1=>ladd p W (tsum p n W B y x j) (cterm p n W B y x j)
theorem zCk(o:OkW p n W)(q:OkB p n B)(hx:El p n x)(j:Nat):El p n (cterm p n W B y x j):=dv_el o (zRD o q hx j)
theorem zF4(o:OkW p n W)(q:OkB p n B)(hx:El p n x):∀j,El p n (tsum p n W B y x j)
 |0=>ZO o.pr
 |j+1=>zK o (zF4 o q hx j) (zCk o q hx j)
theorem zNF(o:OkW p n W){s z:V1}(hs:El p n s)(hz:El p n z)(h0:isZ z):ladd p W s z=s:=
 qQ o (zK o hs hz).1 hs.1 (zK o hs hz).2 hs.2 ((qP o hs hz).trans (Eqv.of_eq λt=>by rw[ZP h0,Int.add_zero]))
theorem EV.dv1(k:Cx p n W B c m X Y Z)(h:EV p n W B X Y Z a x):EV p n W B X Y Z a (dv p n W 1 x):=by
 rw[<-dv_of k.z.r.o ⟨1,0,by omega⟩ h.el h.el (Eqv.of_eq λj=>Int.one_mul _)];exact h
theorem Lz.conj_sum3(z:Lz p n W B c)(hx:El p n x)(hy:El p n y):tsum p n W B y x 3=Go.Proofs.conj p n W B x y:=by
 obtain⟨m,X,Y,Z,k,ex,ey,ew,hm⟩:=z.cx hx hy hx;rcases hm with rfl|rfl|rfl<;>
  exact((((EV.zero k).add k (ex.dv1 k)).add k ((ex.brk k ey).dv1 k)).add k (((ex.brk k ey).brk k ey).dv2 k (by decide))).eq k (ex.conj k ey (by decide)) (by decide)
theorem Lz.conj_move(z:Lz p n W B c)(hx:El p n x)(hy:El p n y):bch p n W B y (Go.Proofs.conj p n W B x y)=bch p n W B x y:=by
 obtain⟨m,X,Y,Z,k,ex,ey,ew,hm⟩:=z.cx hx hy hx;rcases hm with rfl|rfl|rfl<;>exact(ey.bch k (ex.conj k ey (by decide)) (by decide)).eq k (ex.bch k ey (by decide)) (by decide)
theorem Lz.conj_comm(z:Lz p n W B c)(hx:El p n x)(hy:El p n y):bch p n W B (lmul p W (-1) x) (Go.Proofs.conj p n W B x y)=Go.Proofs.comm p n W B x y:=by
 obtain⟨m,X,Y,Z,k,ex,ey,ew,hm⟩:=z.cx hx hy hx;rcases hm with rfl|rfl|rfl<;>exact((ex.mul k _).bch k (ex.conj k ey (by decide)) (by decide)).eq k (ex.comm k ey (by decide)) (by decide)
theorem Lz.pow_step(z:Lz p n W B c)(hx:El p n x)(j:Int):bch p n W B (lmul p W j x) x=lmul p W (j+1) x:=by
 have o:=z.r.o;have q:=z.r.q;have hj:=zK o hx hx (k:=j) (m:=0);have hb:isZ (br p W B n (lmul p W j x) x):=by
  refine Zo o (br_el o q) ((qg o q _ _).trans ((Z4 o q z.r.nf _ (qO o hx j)).trans (Eqv.of_eq λt=>?_)));rw[zq,zIj,Int.mul_zero]
 have ht:isZ (ZB p W B n (lmul p W j x) x):=by
  refine Zo o (Za o q) ((qP o (br_el o q) (br_el o q)).trans (Eqv.of_eq λt=>?_));have h2:isZ (br p W B n (lmul p W j x) (br p W B n (lmul p W j x) x)):=by
   refine Zo o (br_el o q) ((qg o q _ _).trans (Eqv.of_eq λt=>?_));rw[zZ,QG (f':=λj=>0*at_ x j) (g':=at_ (lmul p W j x)) (λj=>by rw[ZP hb,Int.zero_mul]) (λ_=>rfl),zq,Int.zero_mul,Int.mul_zero]
  have h3:isZ (br p W B n x (lmul p W (-1) (br p W B n (lmul p W j x) x))):=by
   have hn:isZ (lmul p W (-1) (br p W B n (lmul p W j x) x)):=Zo o (zK o (br_el o q) (br_el o q)) ((qO o (br_el o q) (-1)).trans (Eqv.of_eq λt=>by rw[ZP hb,Int.mul_zero]));refine Zo o (br_el o q) ((qg o q _ _).trans (Eqv.of_eq λt=>?_));rw[zZ,QG (f':=λj=>0*at_ x j) (g':=at_ x) (λj=>by rw[ZP hn,Int.zero_mul]) (λ_=>rfl),zq,Int.zero_mul,Int.mul_zero]
  rw[ZP h2,ZP h3];rfl
 unfold Go.Proofs.bch;have rI:isZ (dv p n W 2 (br p W B n (lmul p W j x) x)):=by rw[(ZZ o (br_el o q) (k:=2)).nil hb];exact hb
 have CL:isZ (dv p n W 12 (ZB p W B n (lmul p W j x) x)):=by rw[(ZZ o (Za o q) (k:=12)).nil ht];exact ht
 have hs:El p n (ladd p W (lmul p W j x) x):=zK o hj hx;rw[zNF o hs (dv_el o (br_el o q)) rI,zNF o hs (dv_el o (Za o q)) CL];refine qQ o hs.1 (zK o hx hx).1 hs.2 (zK o hx hx).2 ((qP o hj hx).trans (((qO o hx j).add (Eqv.refl _)).trans (Eqv.trans (Eqv.of_eq λt=>?_) (qO o hx (j+1)).symm)));grind
end Go.Proofs
namespace Go.Proofs
open Go.Ab Go.Lie Go.Grp
variable{p:Int}{n c:Nat}{W:V2}{B:V3}
theorem Lz.gp(z:Lz p n W B c):Gp (El p n) (bch p n W B) (List.replicate n 0):=by
 have o:=z.r.o;have q:=z.r.q;refine⟨⟨⟨by simp,λy hy=>by rw[List.eq_of_mem_replicate hy];have:=o.pr.1;omega⟩,λha hb=>Z5 o q ha hb,λha hb hc=>z.assoc ha hb hc,λha=>z.one_l ha,λha=>z.one_r ha⟩,λ{a} ha=>⟨lmul p W (-1) a,zK o ha ha,z.inv_r ha,z.inv_l ha⟩⟩
theorem Lz.pw_eq(z:Lz p n W B c){x:V1}(hx:El p n x):∀k:Nat,Grp.pw (bch p n W B) (List.replicate n 0) x k=lmul p W k x
 |0=>by
  have o:=z.r.o;have hz:El p n (List.replicate n 0):=z.gp.one;have e:=(qO o hx ((0:Nat):Int));refine(qQ o hz.1 (zK o hx hx).1 hz.2 (zK o hx hx).2 ?_);refine Eqv.trans ?_ e.symm;exact Eqv.of_eq λj=>by show at_ (List.replicate n (0:Int)) j=_;rw[zn];simp
 |k+1=>by
  show bch p n W B (Grp.pw (bch p n W B) (List.replicate n 0) x k) x=_;rw[z.pw_eq hx k,z.pow_step hx];rfl
end Go.Proofs
namespace Go.Proofs
open Go.Ab Go.Lie
variable{σ:PHeap}{K:PV->PHeap->Prop}{p:Int}{n c m k:Nat}{W:V2}{B:V3}{vP vB:PV}{s:Nat}{x v:V1}{vx:PV}
theorem lmix0{k:Int}{a b:V1}(h:b.length=a.length):lmix k a 0 b=lmix k a 0 a:=by
 unfold lmix;refine List.ext_getElem (by simp[h]) λi h1 h2=>?_;simp
theorem zIY(hx:El p n x)(hp:isP p)(i:Nat):0<=at_ x i/\at_ x i<=1000000:=by
 have:=hp.bd
 rcases Nat.lt_or_ge i x.length with h|h
 .have:=hx.2 _ (List.getElem_mem h);rw[at_eq h];omega
 .rw[at_ge h];omega
theorem pisA{i:Nat}(h:i<x.length):(pis x)[i]? = some (.int .i64 (at_ x i)):=by rw[zU,gi h,at_eq h];rfl
noncomputable def ptG(p:Int)(n:Nat)(W:V2)(B:V3)(e:V1):Nat->V1
 |0=>List.replicate n 0
 |i+1=>bch p n W B (ptG p n W B e i) (lmul p W (at_ e i) (unitL n i))
theorem Q8(o:OkW p n W)(q:OkB p n B)(e:V1):∀{i:Nat},i<=n->El p n (ptG p n W B e i)
 |0,_=>ZO o.pr
 |i+1,hi=>Z5 o q (Q8 o q e (by omega)) (zK o (zV o.pr (by omega)) (zV o.pr (by omega)))
theorem zHE(z:Lz p n W B c)(hs:PtrR σ s p vP vB)(hR:IsR vP vB W B)(hx:El p n x)(aX:FI vx x)(hk:ResI σ K (ptG p n W B x n)):zA Tryz.prog 108 [.ptr s 0,vx] σ K:=by
 have o:=z.r.o;have q:=z.r.q;have aN:=o.le;have aW:=hx.1;obtain⟨wx,ax,rfl⟩:=aX;refine zA.gh ?_;have ar:¬s=σ.next:=Nat.ne_of_lt hs.lt;refine zD mix Tryz.func108 ?_
 conv=>arg 2;cbv
 refine zF rfl ?_;simp only[Z3,seval,-ae,aW,List.length_replicate,qA,mk8 (n:=n) (by omega),mkL (n:=n) (by omega)];refine zG (λm vs h'=>∃i v,i<=n/\m=n-i/\vs=[.ptr s 0,.fz wx ax n (pis x),v,.fz wx ax n (pis x),.int .i64 n,.int .i64 (i:Nat)]/\Keep σ h'/\PAcc σ.next 1 h' v n (pis (ptG p n W B x i))) n ?_ ?_
 .refine⟨0,_,by omega,by omega,rfl,zC σ _,.inr ?_⟩;exact PSl.new σ.next 1 (h:=σ) (n:=n) (cs:=pis (List.replicate n 0)) (by rw[zJ];simp) (vM _)
 .rintro m vs h' ⟨i,v,hi,rfl,rfl,aq,ha⟩
  simp only[Z3,seval,-ae];refine iteI (λah=>?_) λaG=>?_
  .have bg:=Q8 (B:=B) o q x hi;have hu:=zV (n:=n) o.pr ah;have hb:=zIY hx z.hp i;have jV:i<x.length:=by omega
   have e:∀{v':PV} {H:PHeap},Keep σ H->PAcc σ.next 1 H v' n (pis (ptG p n W B x (i+1)))->∃n',n'<n-i/\∃i' v,i'<=n/\n'=n-i'/\[PV.ptr s 0,.fz wx ax n (pis x),v',.fz wx ax n (pis x),.int .i64 n,.int .i64 ((i+1:Nat):Int)]=[.ptr s 0,.fz wx ax n (pis x),v,.fz wx ax n (pis x),.int .i64 n,.int .i64 (i':Nat)]/\Keep σ H/\PAcc σ.next 1 H v n (pis (ptG p n W B x i')):=λ{v' H} k1 k2=>
    ⟨_,by omega,i+1,v',by omega,rfl,rfl,k1,k2⟩
   have ne:=zK o (k:=at_ x i) (m:=0) hu hu;have bl:=(Z5 o q bg ne).1;simp only[Z3,seval,-ae,ah,pisA jV];refine qB (by omega) ah λa1=>?_;simp only[Z3,seval,-ae,pisA jV];refine zAb o (hs.keep aq) hR.P hu ⟨true,a1,by rw[hu.1]⟩ (k:=at_ x i) (by omega) λv1 f1=>?_;simp only[Z3,seval,-ae];rcases ha with ⟨rfl,h0,h1⟩|⟨s',cap,rfl,hc,q2,q3,q4,q5⟩
   .omega
   .refine zA.frz (s:=s') (cs:=pis (ptG p n W B x i)) q2 (zL _ _) λo1=>?_;have lj:=hc.ok;simp only[sbs,sb,lj,and_self,if_true,f1.sb];have bV:Keep σ (h'.kill s'):=aq.kill q4;refine zFv z (hs.keep bV) hR bg ne ⟨true,_,by rw[bg.1]⟩ f1 ⟨λh2=>?_,λcap hc=>?_⟩
    .exact absurd bl (by rw[show bch p n W B (ptG p n W B x i) (norm p W (lmix (at_ x i) (unitL n i) 0 (unitL n i)))=[] from h2];simp;omega)
    .simp only[Z3,seval,-ae,wrapS ah (by omega:n<=4611686018427387904)];refine e (bV.new _) (.inr ⟨_,cap,by rw[show(bch p n W B (ptG p n W B x i) (lmul p W (at_ x i) (unitL n i))).length=n from bl];rfl,by rw[<-bl];exact hc,by simp only[Z3,seval,-ae];rfl,by rw[zJ,Nat.mul_one];exact bl,bV.next,by simp[PHeap.new]⟩)
  .have aK:i=n:=by omega
   subst aK;exact ha.res aq (Q8 (B:=B) o q x (vM _)).1.symm hk
noncomputable def stG(p:Int)(n:Nat)(W:V2)(B:V3)(x:V1):Nat->V1×V1
 |0=>(List.replicate n 0,x)
 |i+1=>((stG p n W B x i).1.set i (at_ (stG p n W B x i).2 i),bch p n W B (lmul p W (-at_ (stG p n W B x i).2 i) (unitL n i)) (stG p n W B x i).2)
theorem Zi:∀i,(stG p n W B x i).1.length=n
 |0=>List.length_replicate ..
 |i+1=>by rw[stG,List.length_set];exact Zi i
theorem zAh(o:OkW p n W)(q:OkB p n B)(hx:El p n x):∀{i:Nat},i<=n->El p n (stG p n W B x i).2
 |0,_=>hx
 |i+1,hi=>Z5 o q (zK o (zV o.pr (by omega)) (zV o.pr (by omega))) (zAh o q hx (by omega))
noncomputable def vcG(p:Int)(n:Nat)(W:V2)(B:V3)(x:V1):V1:=(stG p n W B x n).1
theorem zAx(z:Lz p n W B c)(hs:PtrR σ s p vP vB)(hR:IsR vP vB W B)(hx:El p n x)(aX:FI vx x)(hk:∀cap,full 1 cap n->K (.sl σ.next 0 n cap) (σ.new (pis (vcG p n W B x)))):zA Tryz.prog 95 [.ptr s 0,vx] σ K:=by
 have o:=z.r.o;have q:=z.r.q;have aN:=o.le;have aW:=hx.1;obtain⟨wx,ax,rfl⟩:=aX;refine zA.gh ?_;have ar:¬s=σ.next:=Nat.ne_of_lt hs.lt;refine zD mix Tryz.func95 ?_
 conv=>arg 2;cbv
 refine zF rfl ?_;simp only[Z3,seval,-ae,aW,List.length_replicate,qA,mk8 (n:=n) (by omega),mkL (n:=n) (by omega)];refine zG (λm vs h'=>∃i v,i<=n/\m=n-i/\vs=[.ptr s 0,v,.int .i64 n,.sl σ.next 0 n (.known n),.int .i64 n,.int .i64 (i:Nat)]/\h'=σ.new (pis (stG p n W B x i).1)/\FI v (stG p n W B x i).2) n ?_ ?_
 .exact⟨0,.fz wx ax n (pis x),by omega,by omega,rfl,rfl,⟨_,_,by rw[show(stG p n W B x 0).2=x from rfl,aW]⟩⟩
 .rintro m vs h' ⟨i,v,hi,rfl,rfl,rfl,hv⟩
  simp only[Z3,seval,-ae];refine iteI (λah=>?_) λaG=>?_
  .have bg:=zAh (B:=B) o q hx hi;have hu:=zV (n:=n) o.pr ah;have hb:=zIY bg z.hp i;have fI:=Zi (p:=p) (n:=n) (W:=W) (B:=B) (x:=x) i;have jV:i<(stG p n W B x i).2.length:=by rw[bg.1];exact ah
   have nk:i<(stG p n W B x i).1.length:=by omega
   obtain⟨w0,a0,rfl⟩:=hv;have bY:(pis (stG p n W B x i).1).take i++[.int .i64 (at_ (stG p n W B x i).2 i)]++(pis (stG p n W B x i).1).drop (i+1)=pis (stG p n W B x (i+1)).1:=zX nk;have fD:at_ (stG p n W B x (i+1)).1 i=at_ (stG p n W B x i).2 i:=by rw[stG,at_eq (by rw[List.length_set];exact nk)];simp
   have jq:i<(stG p n W B x (i+1)).1.length:=by rw[Zi];exact ah
   have ne:=zK o (k:=-at_ (stG p n W B x i).2 i) (m:=0) hu hu;have cY:IntKind.i64.wrap (0-at_ (stG p n W B x i).2 i)=-at_ (stG p n W B x i).2 i:=by rw[wrap64 (by omega) (by omega)];omega
   have fA:PtrR (σ.new (pis (stG p n W B x (i+1)).1)) s p vP vB:=hs.new _;simp only[Z3,seval,-ae,ah,pisA jV,jV,nk,Nat.succ_le_of_lt nk,zJ,bY,pisA jq,fD,cY];refine qB (by omega) ah λa1=>?_;simp only[Z3,seval,-ae,pisA jq,fD];refine zAb o fA hR.P hu ⟨true,a1,by rw[hu.1]⟩ (k:=-at_ (stG p n W B x i).2 i) (by omega) λv1 f1=>?_;simp only[Z3,seval,-ae];refine zA.fzI (λK'=>zFv z fA hR ne bg f1 ⟨_,_,rfl⟩) λa2=>?_;simp only[Z3,seval,-ae,wrapS ah (by omega:n<=4611686018427387904)];exact⟨_,by omega,i+1,_,by omega,rfl,rfl,rfl,⟨_,_,rfl⟩⟩
  .have aK:i=n:=by omega
   subst aK;exact Gh.finS (zC σ _) (by simp only[Z3,seval,-ae];rfl) (vM _) (zL _ _) (hk _ (.inr rfl))
theorem zBU(z:Lz p n W B c)(hR:IsR vP vB W B)(hx:El p n x)(aX:FI vx x)(hk:∀v,FI v (vcG p n W B x)->K v σ):zA Tryz.prog 86 [.agg [.int .i64 p,vP,vB],vx] σ K:=by
 have o:=z.r.o;have q:=z.r.q;have aN:=o.le;have eV:=o.len;have aW:=hx.1;have h1:=hR.P.one;have h2:=hR.B.one;obtain⟨wx,ax,rfl⟩:=aX;refine zA.gh ?_;refine zD mix Tryz.func86 ?_
 conv=>arg 2;cbv
 refine zF rfl ?_;simp only[Z3,seval,-ae,h1,h2,aW];refine zBz hR eV (by omega) λcap hc=>?_;simp only[Z3,seval,-ae];refine zG (λm vs h'=>∃i v,i<=n/\m=n-i/\vs=[.fz wx ax n (pis x),.ptr σ.next 0,.sl (σ.next+1) 0 n cap,v,.int .i64 (i:Nat)]/\h'=(σ.new [.int .i64 p,vP,vB]).new (pis (stG p n W B x i).1)/\FI v (stG p n W B x i).2) n ?_ ?_
 .exact⟨0,.fz wx ax n (pis x),by omega,by omega,rfl,rfl,⟨_,_,by rw[show(stG p n W B x 0).2=x from rfl,aW]⟩⟩
 .rintro m vs h' ⟨i,v,hi,rfl,rfl,rfl,hv⟩
  simp only[Z3,seval,-ae];refine iteI (λah=>?_) λaG=>?_
  .have bg:=zAh (B:=B) o q hx hi;have hu:=zV (n:=n) o.pr ah;have hb:=zIY bg z.hp i;have fI:=Zi (p:=p) (n:=n) (W:=W) (B:=B) (x:=x) i;have jV:i<(stG p n W B x i).2.length:=by rw[bg.1];exact ah
   have nk:i<(stG p n W B x i).1.length:=by omega
   obtain⟨w0,a0,rfl⟩:=hv;have bY:(pis (stG p n W B x i).1).take i++[.int .i64 (at_ (stG p n W B x i).2 i)]++(pis (stG p n W B x i).1).drop (i+1)=pis (stG p n W B x (i+1)).1:=zX nk;have fD:at_ (stG p n W B x (i+1)).1 i=at_ (stG p n W B x i).2 i:=by rw[stG,at_eq (by rw[List.length_set];exact nk)];simp
   have jq:i<(stG p n W B x (i+1)).1.length:=by rw[Zi];exact ah
   have ne:=zK o (k:=-at_ (stG p n W B x i).2 i) (m:=0) hu hu;have cY:IntKind.i64.wrap (0-at_ (stG p n W B x i).2 i)=-at_ (stG p n W B x i).2 i:=by rw[wrap64 (by omega) (by omega)];omega
   simp only[Z3,seval,-ae,ah,pisA jV,jV,nk,Nat.succ_le_of_lt nk,zJ,bY,pisA jq,fD,cY];refine ZI hR eV (by omega) ah λa1=>?_;simp only[Z3,seval,-ae,pisA jq,fD];refine qW hR o hu bg hu.1.symm rfl (k:=-at_ (stG p n W B x i).2 i) (m:=0) (by omega) (by decide) λv1=>?_;rw[lmix0 (bg.1.trans hu.1.symm)];simp only[Z3,seval,-ae];refine zGi z hR ne bg ⟨true,v1,by rw[ne.1]⟩ ⟨_,_,rfl⟩ λv' eg=>?_;simp only[Z3,seval,-ae,wrapS ah (by omega:n<=4611686018427387904)];exact⟨_,by omega,i+1,v',by omega,rfl,rfl,rfl,eg⟩
  .have aK:i=n:=by omega
   subst aK;exact Gh.finF (s:=σ.next+1) ((zC σ _).new _) (by simp only[Z3,seval,-ae];rfl) (by omega) (zL _ _) hc.ok λo1=>hk _ ⟨true,.sl o1 0 i cap,by rw[show(vcG p i W B x).length=i from Zi i];rfl⟩
end Go.Proofs
namespace Go.Proofs
open Go.Ab Go.Lie Go.Grp
variable{p:Int}{n c a:Nat}{W:V2}{B:V3}{x y:V1}{f g:Vec}
def Dzv(p:Int)(n:Nat)(W:V2)(a:Nat)(f:Vec):Prop:=∃v:V1,v.length=n/\(∀j,j<a->at_ v j=0)/\Eqv p n W f (at_ v)
theorem Dzv.sub(a:Nat):IsSub p n W (Dzv p n W a) where
 zero:=⟨List.replicate n 0,by simp,λj _=>zn n j,Eqv.of_eq λj=>(zn n j).symm⟩
 add:=λf g ⟨v,h1,h2,h3⟩ ⟨w,g1,g2,g3⟩=>⟨lmix 1 v 1 w,by rw[zT (h1.trans g1.symm)];exact h1,λj hj=>by rw[zo (h1.trans g1.symm),h2 j hj,g2 j hj];rfl,(h3.add g3).trans (Eqv.of_eq λj=>by rw[zo (h1.trans g1.symm)];omega)⟩
 mul:=λk f ⟨v,h1,h2,h3⟩=>⟨lmix k v 0 v,by rw[zT rfl];exact h1,λj hj=>by rw[zo rfl,h2 j hj];simp,(h3.mul k).trans (Eqv.of_eq λj=>by rw[zo rfl];simp)⟩
 eqv:=λf g e ⟨v,h1,h2,h3⟩=>⟨v,h1,h2,e.trans h3⟩
theorem Dzv.of(hx:El p n x)(h:∀j,j<a->at_ x j=0):Dzv p n W a (at_ x):=⟨x,hx.1,h,Eqv.refl _⟩
theorem Dzv.mono{b:Nat}(h:Dzv p n W a f)(hb:b<=a):Dzv p n W b f:=by
 obtain⟨v,h1,h2,h3⟩:=h;exact⟨v,h1,λj hj=>h2 j (by omega),h3⟩
theorem zQ9(q:OkB p n B){v:V1}(h:∀j,j<a->at_ v j=0)(g:Vec):(∀t,t<a+1->brv B n (at_ v) g t=0)/\∀t,n<=t->brv B n (at_ v) g t=0:=by
 refine⟨λt ht=>qV n λi hi=>qV _ λj hj=>?_,λt ht=>qV n λi hi=>qV _ λj hj=>?_⟩
 .obtain⟨e1,e2⟩:=q.get hi hj;rcases Nat.lt_or_ge (i+1+j) a with h1|h1
  .rw[h i (by omega),h (i+1+j) h1];simp
  .rw[e2 t (by omega),Int.mul_zero]
 .obtain⟨e1,e2⟩:=q.get hi hj;rw[e1.beyond ht,Int.mul_zero]
theorem Dzv.brL(o:OkW p n W)(q:OkB p n B)(nf:qE p W B n)(h:Dzv p n W a f)(g:Vec):Dzv p n W (a+1) (brv B n f g):=by
 obtain⟨v,h1,h2,h3⟩:=h;obtain⟨k1,k2⟩:=zQ9 q h2 g;refine⟨tab n (brv B n (at_ v) g),Q6 _,λj hj=>by rw[zHW _ k2];exact k1 j hj,(Z4 o q nf g h3).trans (Eqv.of_eq λj=>(zHW _ k2 j).symm)⟩
structure Fil(p:Int)(n:Nat)(W:V2)(B:V3)(S:Nat->Vec->Prop):Prop where
 sub:∀k,IsSub p n W (S k)
 down:∀k f,S (k+1) f->S k f
 brL:∀k f g,S k f->S (k+1) (brv B n f g)
theorem Fil.brR{S:Nat->Vec->Prop}(F:Fil p n W B S)(k:Nat)(f g:Vec)(h:S k g):S (k+1) (brv B n f g):=
 (F.sub _).eqv _ _ (Eqv.of_eq λt=>zZ f g t) ((F.sub _).mul _ _ (F.brL k g f h))
theorem Fil.br{S:Nat->Vec->Prop}(F:Fil p n W B S)(o:OkW p n W)(q:OkB p n B){k:Nat}(h:S k (at_ x)\/S k (at_ y)):S (k+1) (at_ (br p W B n x y)):=
 (F.sub _).eqv _ _ (qg o q x y) (by
  rcases h with h|h
  .exact F.brL _ _ _ h
  .exact F.brR _ _ _ h)
theorem Lz.fil(z:Lz p n W B c):Fil p n W B (Lw p n W B):=⟨λk=>z.r.sub k,λk f h=>z.r.down h,λk f g h=>z.r.brk h g⟩
theorem Lz.filD(z:Lz p n W B c):Fil p n W B (Dzv p n W):=⟨λk=>Dzv.sub k,λk f h=>h.mono (by omega),λk f g h=>h.brL z.r.o z.r.q z.r.nf g⟩
theorem Lz.bch_fil(z:Lz p n W B c){S:Nat->Vec->Prop}(F:Fil p n W B S)(hx:El p n x)(hy:El p n y):∃u:Vec,(∀k,S k (at_ x)\/S k (at_ y)->S (k+1) u)/\Eqv p n W (at_ (bch p n W B x y)) λj=>at_ x j+at_ y j+u j:=by
 have o:=z.r.o;have q:=z.r.q;have hb:El p n (Go.Proofs.br p W B n x y):=br_el o q;have h3:El p n (ZB p W B n x y):=Za o q;refine⟨λj=>at_ (dv p n W 2 (Go.Proofs.br p W B n x y)) j+at_ (dv p n W 12 (ZB p W B n x y)) j,λk h=>?_,?_⟩
 .have d1:S (k+1) (at_ (Go.Proofs.br p W B n x y)):=F.br o q h;have d2:S (k+1) (at_ (ZB p W B n x y)):=by
   refine(F.sub _).eqv _ _ (qP o (br_el o q) (br_el o q)) ((F.sub _).add _ _ ?_ ?_)
   .exact F.down _ _ (F.br o q (.inr d1))
   .exact F.down _ _ (F.br o q (.inr ((F.sub _).eqv _ _ (qO o hb (-1)) ((F.sub _).mul _ _ d1))))
  exact(F.sub _).add _ _ (zCJ o (F.sub _) (ZZ o hb) (z.d2 hx) d1) (zCJ o (F.sub _) (ZZ o h3) (z.d12 hx) d2)
 .refine(qP o (zK o (zK o hx hy) (dv_el o hb)) (dv_el o h3)).trans ?_;refine((qP o (zK o hx hy) (dv_el o hb)).add (Eqv.refl _)).trans ?_;refine(((qP o hx hy).add (Eqv.refl _)).add (Eqv.refl _)).trans (Eqv.of_eq λj=>?_);show _=at_ x j+at_ y j+(_+_);omega
theorem zKg:Cop p 1:=⟨1,0,by omega⟩
theorem Qh(o:OkW p n W)(q:OkB p n B)(hx:El p n x)(hy:El p n y):El p n (conj p n W B x y):=zAX o q (els3 (zAl o hy) hx hy)
theorem Lz.conj_fil(z:Lz p n W B c){S:Nat->Vec->Prop}(F:Fil p n W B S)(hx:El p n x)(hy:El p n y):∃u:Vec,(∀k,S k (at_ x)\/S k (at_ y)->S (k+1) u)/\Eqv p n W (at_ (conj p n W B x y)) λj=>at_ x j+u j:=by
 have o:=z.r.o;have q:=z.r.q;have hb:El p n (Go.Proofs.br p W B n x y):=br_el o q;have gd:El p n (Go.Proofs.br p W B n (Go.Proofs.br p W B n x y) y):=br_el o q;refine⟨λj=>at_ (dv p n W 1 (Go.Proofs.br p W B n x y)) j+at_ (dv p n W 2 (Go.Proofs.br p W B n (Go.Proofs.br p W B n x y) y)) j,λk h=>?_,?_⟩
 .have d1:S (k+1) (at_ (Go.Proofs.br p W B n x y)):=F.br o q h;exact(F.sub _).add _ _ (zCJ o (F.sub _) (ZZ o hb) (.inr zKg) d1) (zCJ o (F.sub _) (ZZ o gd) (z.d2 hb) (F.down _ _ (F.br o q (.inl d1))))
 .rw[<-z.conj_sum3 hx hy];have c0:El p n (cterm p n W B y x 0):=zCk o q hx 0;have c1:El p n (cterm p n W B y x 1):=zCk o q hx 1;have c2:El p n (cterm p n W B y x 2):=zCk o q hx 2;have t1:El p n (tsum p n W B y x 1):=zF4 o q hx 1;have t2:El p n (tsum p n W B y x 2):=zF4 o q hx 2;have e0:Eqv p n W (at_ (cterm p n W B y x 0)) (at_ x):=((Eqv.of_eq λj=>by show _=1*at_ (dv p n W 1 x) j;rw[Int.one_mul];rfl).trans ((ZZ o hx (k:=1)).eqv zKg))
  refine(qP o t2 c2).trans (((qP o t1 c1).add (Eqv.refl _)).trans ?_);refine((((qP o (ZO o.pr) c0).trans ((Eqv.of_eq (λj=>zn n j)).add e0)).add (Eqv.refl _)).add (Eqv.refl _)).trans (Eqv.of_eq λj=>?_);show 0+at_ x j+at_ (dv p n W 1 (Go.Proofs.br p W B n x y)) j+at_ (dv p n W 2 (Go.Proofs.br p W B n (Go.Proofs.br p W B n x y) y)) j=at_ x j+(_+_);omega
theorem Lz.comm_fil(z:Lz p n W B c){S:Nat->Vec->Prop}(F:Fil p n W B S)(hx:El p n x)(hy:El p n y){k:Nat}(h:S k (at_ x)):S (k+1) (at_ (Go.Proofs.comm p n W B x y)):=by
 have o:=z.r.o;have q:=z.r.q;have hn:=zAl o hx;have hc:=Qh o q hx hy;obtain⟨u,hu,e⟩:=z.conj_fil F hx hy;obtain⟨v,hv,e2⟩:=z.bch_fil F hn hc;rw[<-z.conj_comm hx hy];have hk:S (k+1) v:=hv k (.inl ((F.sub _).eqv _ _ (qO o hx (-1)) ((F.sub _).mul _ _ h)));refine(F.sub _).eqv _ _ e2 ((F.sub _).eqv _ _ (((qO o hx (-1)).add e).add (Eqv.refl v)) ((F.sub _).eqv _ _ (Eqv.of_eq λj=>?_) ((F.sub _).add _ _ (hu k (.inl h)) hk)));show -1*at_ x j+(at_ x j+u j)+v j=u j+v j;omega
theorem Lz.bch_eqv(z:Lz p n W B c)(hx:El p n x)(hy:El p n y):∃u:Vec,(∀a,Dzv p n W a (at_ x)\/Dzv p n W a (at_ y)->Dzv p n W (a+1) u)/\Eqv p n W (at_ (bch p n W B x y)) λj=>at_ x j+at_ y j+u j:=z.bch_fil z.filD hx hy
theorem zFS{A B k p:Int}(h:A=B-k*p)(h0:0<=A/\A<=p-1):A=B % p:=by
 have:B=A+k*p:=by omega
 rw[this,Int.add_mul_emod_self_right,Int.emod_eq_of_lt h0.1 (by omega)]
theorem Lz.head(z:Lz p n W B c)(hx:El p n x)(hy:El p n y)(ha:a<n)(h:Dzv p n W a (at_ x)\/Dzv p n W a (at_ y))(hs:∀j,j<a->0<=at_ x j+at_ y j/\at_ x j+at_ y j<=p-1):
  (∀j,j<a->at_ (bch p n W B x y) j=at_ x j+at_ y j)/\at_ (bch p n W B x y) a=(at_ x a+at_ y a) % p:=by
 have o:=z.r.o;obtain⟨u,hu,e⟩:=z.bch_eqv hx hy;obtain⟨v,h1,h2,h3⟩:=hu a h;have hb:El p n (bch p n W B x y):=Z5 o z.r.q hx hy;have e2:=e.trans ((Eqv.refl (λj=>at_ x j+at_ y j)).add h3);obtain⟨k1,k,k2⟩:=QF o e2 ha (λj hj=>hb.at0 o j) (λj hj=>by rw[h2 j (by omega)];have:=hs j hj;omega);refine⟨λj hj=>by rw[k1 j hj,h2 j (by omega)];omega,?_⟩;rw[h2 a (by omega)]at k2
 have:=zFS k2 (hb.at0 o a)
 rw[this,Int.add_zero]
theorem Lz.headL(z:Lz p n W B c)(hx:El p n x)(hy:El p n y)(ha:a<n)(h:∀j,j<a->at_ x j=0):
  (∀j,j<a->at_ (bch p n W B x y) j=at_ y j)/\at_ (bch p n W B x y) a=(at_ x a+at_ y a) % p:=by
 obtain⟨h1,h2⟩:=z.head hx hy ha (.inl (Dzv.of hx h)) λj hj=>by rw[h j hj];have:=hy.at0 z.r.o j;omega
 exact⟨λj hj=>by rw[h1 j hj,h j hj];omega,h2⟩
theorem zOi(o:OkW p n W)(hx:El p n x)(ha:a<n)(h:∀j,j<a->at_ x j=0)(k:Int):(∀j,j<a->at_ (lmul p W k x) j=0)/\at_ (lmul p W k x) a=(k*at_ x a) % p:=by
 have h0:∀j,j<a->at_ (lmix k x 0 x) j=0:=λj hj=>by rw[zo rfl,h j hj];simp
 have hl:(lmix k x 0 x).length=n:=by rw[zT rfl];exact hx.1
 refine⟨zAk o hl (by omega) h0,?_⟩;rw[zDF o hl ha h0,zo rfl];simp
theorem zAf{i:Nat}(hi:i<n):(∀j,j<i->at_ (unitL n i) j=0)/\at_ (unitL n i) i=1:=⟨λj hj=>by rw[qR hi,if_neg (by omega)],by rw[qR hi,if_pos rfl]⟩
theorem zBh(o:OkW p n W){i:Nat}(hi:i<n)(k:Int):El p n (lmul p W k (unitL n i))/\(∀j,j<i->at_ (lmul p W k (unitL n i)) j=0)/\at_ (lmul p W k (unitL n i)) i=k % p:=by
 have hu:=zV (n:=n) o.pr hi;obtain⟨h1,h2⟩:=zOi o hu hi (zAf hi).1 k;exact⟨zK o hu hu,h1,by rw[h2,(zAf hi).2,Int.mul_one]⟩
theorem zKI(z:Lz p n W B c)(hx:El p n x):∀{i:Nat},i<=n->∀j,j<i->at_ (stG p n W B x i).2 j=0
 |0,_,j,hj=>by omega
 |i+1,hi,j,hj=>by
  have o:=z.r.o;obtain⟨e1,e2,e3⟩:=zBh o (show i<n by omega) (-at_ (stG p n W B x i).2 i);have hr:=zAh o z.r.q hx (i:=i) (by omega);obtain⟨k1,k2⟩:=z.headL e1 hr (by omega) e2;show at_ (bch p n W B _ _) j=0;rcases Nat.lt_or_ge j i with h|h
  .rw[k1 j h];exact zKI z hx (by omega) j h
  .have hj:j=i:=by omega
   subst hj;rw[k2,e3,Int.emod_add_emod,show -at_ (stG p n W B x j).2 j+at_ (stG p n W B x j).2 j=0 by omega,Int.zero_emod]
theorem zL9{m:Nat}:∀{i:Nat},m<i->i<=n->at_ (stG p n W B x i).1 m=at_ (stG p n W B x m).2 m
 |0,h,_=>by omega
 |i+1,h,hi=>by
  have hl:=Zi (p:=p) (n:=n) (W:=W) (B:=B) (x:=x) i;show at_ ((stG p n W B x i).1.set i _) m=_;rw[at_set (by omega)];split
  .rename_i e;subst e;rfl
  .exact zL9 (by omega) (by omega)
theorem zE5{m:Nat}(hm:m<n):at_ (vcG p n W B x) m=at_ (stG p n W B x m).2 m:=zL9 hm (vM _)
theorem zHQ:(vcG p n W B x).length=n:=Zi n
theorem vc_el(z:Lz p n W B c)(hx:El p n x):El p n (vcG p n W B x):=by
 have o:=z.r.o;refine⟨zHQ,λy hy=>?_⟩;obtain⟨i,hi,rfl⟩:=List.mem_iff_getElem.1 hy;have cA:i<n:=by rw[<-zHQ (p:=p) (n:=n) (W:=W) (B:=B) (x:=x)];exact hi
 rw[<-at_eq hi,zE5 cA];exact(zAh o z.r.q hx (by omega)).at0 o i
theorem zH6(o:OkW p n W)(hx:El p n x)(k l:Int):lmul p W k (lmul p W l x)=lmul p W (k*l) x:=by
 have hy:El p n (lmul p W l x):=zK o hx hx;refine qQ o (zK o hy hy).1 (zK o hx hx).1 (zK o hy hy).2 (zK o hx hx).2 ?_;refine(qO o hy k).trans (((qO o hx l).mul k).trans (Eqv.trans (Eqv.of_eq λj=>?_) (qO o hx (k*l)).symm));rw[Int.mul_assoc]
theorem zM8(o:OkW p n W)(hx:El p n x):lmul p W 0 x=List.replicate n 0:=by
 refine qQ o (zK o hx hx).1 (by simp) (zK o hx hx).2 (ZO o.pr).2 ?_;exact(qO o hx 0).trans (Eqv.of_eq λj=>by rw[zn];simp)
theorem zOm(o:OkW p n W)(hx:El p n x):lmul p W 1 x=x:=by
 refine qQ o (zK o hx hx).1 hx.1 (zK o hx hx).2 hx.2 ?_;exact(qO o hx 1).trans (Eqv.of_eq λj=>by simp)
theorem zKJ(z:Lz p n W B c)(hx:El p n x):∀{i:Nat},i<=n->bch p n W B (ptG p n W B (vcG p n W B x) i) (stG p n W B x i).2=x
 |0,_=>z.one_l hx
 |i+1,hi=>by
  have o:=z.r.o;have q:=z.r.q;have hr:=zAh o q hx (i:=i) (by omega);have hp:=Q8 o q (vcG p n W B x) (i:=i) (by omega);have e1:=λk=>(zBh o (show i<n by omega) k).1;show bch p n W B (bch p n W B (ptG p n W B (vcG p n W B x) i) (lmul p W (at_ (vcG p n W B x) i) (unitL n i))) (bch p n W B (lmul p W (-at_ (stG p n W B x i).2 i) (unitL n i)) (stG p n W B x i).2)=x;rw[zE5 (by omega),z.assoc hp (e1 _) (Z5 o q (e1 _) hr),<-z.assoc (e1 _) (e1 _) hr];have e:lmul p W (-at_ (stG p n W B x i).2 i) (unitL n i)=lmul p W (-1) (lmul p W (at_ (stG p n W B x i).2 i) (unitL n i)):=by
   rw[zH6 o (zV o.pr (by omega))];congr 1;omega
  rw[e,z.inv_r (e1 _),z.one_l hr,zKJ z hx (by omega)]
theorem pt_vc(z:Lz p n W B c)(hx:El p n x):ptG p n W B (vcG p n W B x) n=x:=by
 have o:=z.r.o;have h:=zKJ z hx (vM n);have e:(stG p n W B x n).2=List.replicate n 0:=Zl (by rw[(zAh o z.r.q hx (vM n)).1];simp) λj hj=>by
  rw[(zAh o z.r.q hx (vM n)).1]at hj;rw[zKI z hx (vM n) j hj,zn]
 rw[e,z.one_r (Q8 o z.r.q _ (vM n))]at h;exact h
theorem zF7(z:Lz p n W B c)(hx:El p n x)(h:∀j,j<a->at_ x j=0):∀{i:Nat},i<=n->i<=a->(stG p n W B x i).2=x
 |0,_,_=>rfl
 |i+1,hi,ha=>by
  have ih:=zF7 z hx h (i:=i) (by omega) (by omega);show bch p n W B (lmul p W (-at_ (stG p n W B x i).2 i) (unitL n i)) (stG p n W B x i).2=x;rw[ih,h i (by omega),Int.neg_zero,zM8 z.r.o (zV z.r.o.pr (by omega)),z.one_l hx]
theorem zDi(z:Lz p n W B c)(hx:El p n x)(ha:a<=n)(h:∀j,j<a->at_ x j=0):(∀j,j<a->at_ (vcG p n W B x) j=0)/\(a<n->at_ (vcG p n W B x) a=at_ x a):=by
 refine⟨λj hj=>by rw[zE5 (by omega),zF7 z hx h (by omega) (by omega)];exact h j hj,λhn=>by rw[zE5 hn,zF7 z hx h (by omega) (vM _)]⟩
end Go.Proofs
