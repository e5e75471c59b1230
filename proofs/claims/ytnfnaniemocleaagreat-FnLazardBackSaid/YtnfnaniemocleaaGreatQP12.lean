/- . -/
import Derived.Test.YtnfnaniemocleaaGreatQP11
set_option linter.all false
set_option linter.defProp false
open Go.IntKind renaming wrap->Lp
open List renaming length->Lu
open Go.Proofs.Tryz renaming prog->Li
open Bool renaming true->DF
open Int renaming dvd_of_emod_eq_zero->Iq,emod_add_emod->IP,emod_eq_zero_of_dvd->It,eq_nat_or_neg->If,lt_trichotomy->I1,mul_ediv_add_emod->IQ,zero_emod->IL
open List renaming all_cons->Ej,all_nil->Em,exists_cons_of_ne_nil->Il,mem_of_mem_drop->Ey,mem_or_eq_of_mem_set->Hs,nodup_nil->FK,replicate->Ep,set_cons_succ->Ib,set_cons_zero->Eu
open Nat renaming eq_zero_or_pos->F4,lt_trichotomy->Eo,sub_zero->Ed,succ_le_succ->H6
open Option renaming some->Dc
open True renaming intro->DJ
open Int renaming reduceNatCast'->ae
set_option maxRecDepth 100000
namespace Go.Proofs
open Go.Ab Go.Lie
variable{aj capP:jZ}{p:Int}{i j n r s0 sB sP:Nat}{h h' σ σ0:cg}{vB vC vO vP vS:PV}{K:PV->cg->Prop}{O bs x xs:V1}{P W:V2}{B C:V3}
section
variable{s b r0:Nat}
structure DrR(p:Int)(W:V2)(B:V3):Prop where
 p:1<=p/\p<=11
 wl:(Lu W)<=6
 bl:(Lu B)<=6
 sm:SmF W B
def DrR.sz(a:DrR p W B):SzR W B:=⟨by have:=a.wl;omega,λr A=>by have:=a.sm.w r A;omega,by have:=a.bl;omega,λq l=>by have:=a.sm.bl q l;omega,λq l r A=>by have:=a.sm.b q l r A;omega⟩
def zMt{cap:jZ}(D:full 1 cap n)(E:1<=n):∃off l,Zt 1 (.sl s 0 n cap) (Dc (.int .i64 1)) none none=Dc (.sl s off (n-1) l)/\(off=1\/(off=0/\n=1))/\∀c,l=.b6 c->n-1<=c:=by
 have A:(0:Int)<=1/\(1:Int)<=(n:Int):=af
 rcases D with rfl|rfl
 .refine⟨1,.grown 1,?_,.inl rfl,λc e=>by cases e⟩;rw[zB4];simp[zl,Zl,A]
 .rw[zB3];by_cases e:n=1
  .subst e;exact⟨0,.b6 0,by simp[zl,Zl],.inr ⟨rfl,rfl⟩,λc e=>af⟩
  .refine⟨1,.b6 (n-1),?_,.inl rfl,λc e=>by cases e;exact na _⟩;simp[zl,Zl,A,e]
def RS.finCut{off:Nat}{cap:jZ}{cs:List PV}{ls:List LS}(a:RS FI FI b h n sP capP cs sB aj ls W B)(V:cT σ h)(hb:σ.aM<=b)(hn:1<=n)(uz:off=1\/(off=0/\n=1))(R:∀c,cap=.b6 c->n-1<=c)(k:∀vP vB,lx vP vB W (B.drop 1)->K (.agg [.int .i64 p,vP,vB]) σ):Gh σ K (.agg [.int .i64 p,.sl sP 0 n capP,.sl sB off (n-1) cap]) h:=by
 obtain⟨X,Y,p3,Z⟩:=a.P;obtain⟨q1,q2,q3,q4⟩:=a.Q;have D:=a.csl;have H:=a.lsl;have I:(TR.agg [.leaf (.int .i64 p),.lst sP capP (cs.map TR.leaf),.cut sB off (n-1) cap (ls.map LS.tr)]).pv=.agg [.int .i64 p,.sl sP 0 n capP,.sl sB off (n-1) cap]:=by
  simp only[TR.pv,TR.pvs,YF];rw[D]
 rw[<-I];refine Gh.treeF V ⟨DJ,⟨⟨by rw[YF,D];exact X,by rw[Zu];exact Y,af,Z⟩,Zv (a.aP.bI 0)⟩,⟨⟨R,by rw[LS.tr_pvs];exact q2,af,q4,by rw[YF,H];omega⟩,LS.trs_okF λq G=>?_⟩,DJ⟩ λA=>k _ _ ⟨⟨DF,.sl (A sP) 0 (Lu cs) capP,cs,?_,a.aP⟩,⟨false,.sl (A sB) off (n-1) cap,((TR.fzs A (ls.map LS.tr)).drop off).take (n-1),?_,?_⟩⟩
 .obtain⟨J,M,g3,Q⟩:=a.lok q G;refine⟨⟨J,M,af,Q⟩,?_⟩;obtain⟨k,E,rfl⟩:=YR.1 G;exact(a.aB.2 k _ _ (YQ E) (YQ (by rw[<-a.aB.1];exact E))).bI 0
 .simp only[TR.fz,Zw,YF];rw[D,a.lW]
 .simp only[TR.fz,UQ];rw[a.lB]
 .rcases uz with rfl|⟨rfl,rfl⟩
  .have:=((zAC (a:=A) a.aB).drop 1).take (n-1)
   rw[YS (l:=B.drop 1) (by rw[UQ,a.lB];exact na _)]at this;exact this
  .rw[YU (l:=B.drop 1) (by rw[UQ,a.lB])];exact dd.nil _
def zNU(so:So σ s vC bs)(hk:∀p vP vB W B h,DrR p W B->lx vP vB W B->Mv σ s h->So h s vC bs->K (.agg [.int .i64 p,vP,vB]) h):zA Li 111 [.ptr s 0] σ K:=by
 have dZ:=so.lt;refine zA.gh ?_;generalize hT:σ.bf [.int .i64 0,Ln,Ln]=T;have bT:T.aM=σ.aM+1:=by rw[<-hT];rfl
 have cZ:cT σ T:=by rw[<-hT];exact zC σ _
 have ko:So T s vC bs:=so.cf cZ;have iu:s<T.aM:=ko.lt;have lQ:T.bt σ.aM=Dc [.int .i64 0,Ln,Ln]:=by rw[<-hT];simp only[Z3,seval,-ae]
 have aQ:=λ{g:cg} {u0 u1 u2:PV} (k:KM T s g) (z0:u0.one=DF) (z1:u1.one=DF) (z2:u2.one=DF)=>res3 z0 z1 z2 ((k.bt af af).trans lQ);refine Lg Tryz.func111 ?_;refine Lk ?_;rw[hT];refine zGw ko λp n sP capP cs sB aj ls Q W B hp dg bh hF dF cL rF=>?_;have aX:=hF.w.le;have gA:=hp.bd;have ck:2<=p/\p<=7:=af
 have I5:=dF.aM;have gs:GS E0 FI (rQ p n) T (Q.bf [.int .i64 p,.sl sP 0 n capP,.sl sB 0 n aj]) s vC bs Q.aM p n sP capP sB aj:=
  ⟨dF.bf _,cL.cf (zC _ _),iu,by rw[zI,DK rfl],⟨af,YM _⟩,⟨cs,ls,W,B,rF.bf _,hF,λt ht e=>by have:=(rF.lt ht).2;omega,λu x e=>e.elim⟩,λu x e=>e.elim⟩
 clear rF hF W B cs ls;have fin:∀{g:cg} {q:Int},1<=q/\q<=11->GS E0 FI SmF T g s vC bs Q.aM q n sP capP sB aj->g.rd Q.aM 0 3=Dc [.int .i64 q,.sl sP 0 n capP,.sl sB 0 n aj]/\g.wr σ.aM 0 [.int .i64 q,.sl sP 0 n capP,.sl sB 0 n aj]=Dc (g.set σ.aM [.int .i64 q,.sl sP 0 n capP,.sl sB 0 n aj])
   /\(g.set σ.aM [.int .i64 q,.sl sP 0 n capP,.sl sB 0 n aj]).rd σ.aM 0 3=Dc [.int .i64 q,.sl sP 0 n capP,.sl sB 0 n aj]/\Gh σ K (.agg [.int .i64 q,.sl sP 0 n capP,.sl sB 0 n aj]) (g.set σ.aM [.int .i64 q,.sl sP 0 n capP,.sl sB 0 n aj]):=λ{g q} H a=>by
  obtain⟨x1,x2⟩:=aQ (u0:=.int .i64 q) (u1:=.sl sP 0 n capP) (u2:=.sl sB 0 n aj) a.km rfl rfl rfl;refine⟨a.rd.1,x1,x2,?_⟩;obtain⟨cs,ls,W,B,rs,f,ne,_⟩:=a.rs;refine Gh.km (((so.kmK cZ).trans dZ a.km).set (na _) _) (a.so.set af _) dZ λσ' m' bQ kp=>?_;refine RS.fin ((rs.low (b':=σ'.aM) (by rw[m'.aM];omega)).move (λt ht=>?_) (na _)) kp (na _) λvP vB hR=>hk q vP vB W B σ' ⟨H,by rw[rs.lW];exact aX,by rw[rs.lB];exact aX,f⟩ hR m' bQ
  have:=(rs.lt ht).1
  rw[zG,DL af]
 have dw:∀{W:V2} {B:V3} {i:Nat},rQ p n W B->i<n->(B.getD i []).length=n-1-i:=λ{W B i} q hi=>by
  have Q:i<Lu B:=by rw[q.b.len];exact hi
  rw[zM Q];exact q.b.row i Q
 refine Lk ?_;generalize Q.bf [PV.int .i64 p,.sl sP 0 n capP,.sl sB 0 n aj]=g1 at *
 have RT:σ.aM<Q.aM:=af
 generalize Q.aM=r0 at *
 refine zZ gs.so af λi0 g2 Ig m2 bA=>?_;have GM:=gs.mv m2 bA;have PY:=Ig.1;have wQ:=Ig.lt af;obtain⟨i,rfl⟩:∃i:Nat,i0=i:=⟨i0.toNat,af⟩
 have M:i<n:=af
 have bG:Lp .i64 ((i:Int)+1)=((i+1:Nat):Int):=WQ
 have ta:Lp .i64 ((i:Int)+2)=((i+2:Nat):Int):=WQ
 have JR:Lp .i64 (i:Int)=(i:Int):=by rw[fl af af]
 simp only[Z3,seval,-ae,JR];refine zZ GM.so LB λkd I nl m3 dD=>?_;have l:=GM.mv m3 dD;clear gs GM;have HH:=nl.1;by_cases e0:kd=0
 .subst e0;have dN:=l.so;refine Lk ?_;refine zZ (l.bf _).so LB λy g4 hy X fF=>?_;have R:=(l.bf _).mv X fF;have y0:=hy.1;have y5:=hy.lt LB;have RG:=l.km.aM;have ob:g4.bt I.aM=Dc (cS [1,4,11,7,2]):=by rw[X.bt af,zI,DK rfl];rfl
  obtain⟨k,rfl⟩:∃k:Nat,y=k:=⟨y.toNat,af⟩
  have Mm:k<5:=af
  obtain⟨q,H,Z⟩:∃q:Int,(1<=q/\q<=11)/\g4.dR I.aM k=Dc (.int .i64 q):=by
   have e:k=0\/k=1\/k=2\/k=3\/k=4:=af
   rcases e with rfl|rfl|rfl|rfl|rfl
   .exact⟨1,LB,by rw[zH ob];rfl⟩
   .exact⟨4,LB,by rw[zH ob];rfl⟩
   .exact⟨11,LB,by rw[zH ob];rfl⟩
   .exact⟨7,LB,by rw[zH ob];rfl⟩
   .exact⟨2,LB,by rw[zH ob];rfl⟩
  obtain⟨g5,J,N1⟩:=R.setp q;have a:=N1.imp λW B f=>f.sm;simp only[Z3,seval,-ae,Z,Mm,J];obtain⟨A,D,E,G⟩:=fin H a;simp only[Z3,seval,-ae,A,D,E];exact G
 have H:1<=p/\p<=11:=af
 by_cases A:kd=1
 .subst A;obtain⟨f3,f0,f1,f2⟩:=l.rd;simp only[Z3,seval,-ae,f3,f1,bG];refine ql (vP:=.sl sP 0 n capP) (vB:=.sl sB 0 n aj) (n:=n) (k:=i+1) l.so ck rfl rfl rfl af af λv x g4 hx hz V X dN=>?_;have R:=l.mv X dN;obtain⟨p3,p0,p1,p2⟩:=R.rd;have bj:=hx.1;obtain⟨g5,J,a⟩:=R.putP (F':=SmF) (i:=i) (w:=x) M V (λW B q=>q.sm.setP af);simp only[Z3,seval,-ae,p1,J,V.cells,M,bG];obtain⟨A,D,E,G⟩:=fin H a;simp only[Z3,seval,-ae,A,D,E];exact G
 by_cases D:kd=2
 .subst D;obtain⟨f3,f0,f1,f2⟩:=l.rd;simp only[Z3,seval,-ae,f3,f1];refine ql (vP:=.sl sP 0 n capP) (vB:=.sl sB 0 n aj) (n:=n) (k:=i) l.so ck rfl rfl rfl af af λv x g4 hx hz V X dN=>?_;have R:=l.mv X dN;obtain⟨p3,p0,p1,p2⟩:=R.rd;have bj:=hx.1;obtain⟨g5,J,a⟩:=R.putP (F':=SmF) (i:=i) (w:=x) M V (λW B q=>q.sm.setP af);simp only[Z3,seval,-ae,p1,J,V.cells,M];obtain⟨A,D,E,G⟩:=fin H a;simp only[Z3,seval,-ae,A,D,E];exact G
 by_cases E:kd=3
 .subst E;obtain⟨f3,f0,f1,f2⟩:=l.rd;obtain⟨t,c,rB⟩:=l.rdB M (λW B q=>dw q M);have HT:=l.sBb;by_cases nj:0<n-1-i
  .have ni:(0:Int)<((n-1-i:Nat):Int):=af
   have m6:((n-1-i:Nat):Int) > 0:=af
   simp only[Z3,seval,-ae,f3,f2,rB,M,ni,m6,decide_true,ta];refine ql (vP:=.sl sP 0 n capP) (vB:=.sl sB 0 n aj) (n:=n) (k:=i+2) l.so ck rfl rfl rfl af af λv x g4 hx hz V X dN=>?_;have R:=l.mv X dN;obtain⟨p3,p0,p1,p2⟩:=R.rd;have bj:=hx.1;have oD:g4.dR sB i=Dc (.sl t 0 (n-1-i) c):=by rw[X.dR af];exact rB
   obtain⟨g5,J,a,_⟩:=R.putB (F':=SmF) (i:=i) (k:=0) (w:=x) M oD nj (λ_ _ h=>h) V V.one (λW B hB q=>q.sm.setB hB af);simp only[Z3,seval,-ae,p2,oD,J,V.cells,M,ni];obtain⟨A,D,E,G⟩:=fin H a;simp only[Z3,seval,-ae,A,D,E];exact G
  .have m6:¬((n-1-i:Nat):Int) > 0:=af
   have a:=l.imp λW B f=>f.sm;simp only[Z3,seval,-ae,f2,rB,M,m6,decide_false];obtain⟨A,D,E,G⟩:=fin H a;simp only[Z3,seval,-ae,A,D,E];exact G
 by_cases G:kd=4
 .subst G;obtain⟨f3,f0,f1,f2⟩:=l.rd;obtain⟨cs,ls,W,B,rs,f,ne,_⟩:=l.rs;obtain⟨off,Y,z1,z2,z3⟩:=zMt (s:=sB) rs.Q.1 dg;have J:=zBI (v:=.sl sB off (n-1) Y) (i:=2) l.bt aK rfl;simp only[Ib,Eu]at J;have pA:=l.r0b;have LA:=l.sl;have fW:KM T s (I.set r0 [.int .i64 p,.sl sP 0 n capP,.sl sB off (n-1) Y]):=l.km.set l.r0b.1 _;obtain⟨x1,x2⟩:=aQ (u0:=.int .i64 p) (u1:=.sl sP 0 n capP) (u2:=.sl sB off (n-1) Y) fW rfl rfl rfl;have x0:(I.set r0 [.int .i64 p,.sl sP 0 n capP,.sl sB off (n-1) Y]).rd r0 0 3=Dc [.int .i64 p,.sl sP 0 n capP,.sl sB off (n-1) Y]:=by rw[zi,DK rfl];rfl
  have fF:So (I.set r0 [.int .i64 p,.sl sP 0 n capP,.sl sB off (n-1) Y]) s vC bs:=l.so.set af _;have mi:=rs.move (h':=I.set r0 [.int .i64 p,.sl sP 0 n capP,.sl sB off (n-1) Y]) (λt ht=>by rw[zG,DL (Ne.symm (ne t ht))]) (na _);simp only[Z3,seval,-ae,f2,z1,J];generalize I.set r0 [.int .i64 p,.sl sP 0 n capP,.sl sB off (n-1) Y]=g5 at *
  simp only[Z3,seval,-ae,x0,x1,x2];refine Gh.km (((so.kmK cZ).trans dZ fW).set (na _) _) (fF.set af _) dZ λσ' m' bQ kp=>?_;refine RS.finCut ((mi.low (b':=σ'.aM) (by rw[m'.aM];omega)).move (λt ht=>?_) (na _)) kp (na _) dg z2 z3 λvP vB hR=>hk p vP vB W _ σ' ⟨H,by rw[rs.lW];exact aX,by rw[UQ,rs.lB];omega,f.sm.w,λq H=>f.sm.bl q (Ey H),λq H=>f.sm.b q (Ey H)⟩ hR m' bQ
  have:=(mi.lt ht).1
  rw[zG,DL af]
 by_cases e5:kd=5
 .subst e5;have pA:=l.r0b;have J:I.wr r0 0 [.int .i64 3,Ln,Ln]=Dc (I.set r0 [.int .i64 3,Ln,Ln]):=by rw[zR l.bt,DK ⟨aK,by rfl⟩];rfl
  have fW:KM T s (I.set r0 [.int .i64 3,Ln,Ln]):=l.km.set l.r0b.1 _;obtain⟨x1,x2⟩:=aQ (u0:=.int .i64 3) (u1:=Ln) (u2:=Ln) fW rfl rfl rfl;have x0:(I.set r0 [.int .i64 3,Ln,Ln]).rd r0 0 3=Dc [.int .i64 3,Ln,Ln]:=by rw[zi,DK rfl];rfl
  have fF:So (I.set r0 [.int .i64 3,Ln,Ln]) s vC bs:=l.so.set af _;simp only[Z3,seval,-ae,J];generalize I.set r0 [.int .i64 3,Ln,Ln]=g5 at *
  simp only[Z3,seval,-ae,x0,x1,x2];refine Gh.km (((so.kmK cZ).trans dZ fW).set (na _) _) (fF.set af _) dZ λσ' m' bQ kp=>?_;exact Gh.fin0 kp ⟨DJ,DJ,DJ,DJ⟩ (hk 3 _ _ [] [] σ' ⟨LB,LB,LB,⟨λr Z=>(by cases Z),λr Z=>(by cases Z),λr Z=>(by cases Z)⟩⟩ ⟨⟨DF,.b8,[],rfl,dd.nil _⟩,⟨DF,.b8,[],rfl,dd.nil _⟩⟩ m' bQ)
 have a:=l.imp λW B f=>f.sm;simp only[Z3,seval,-ae,e0,A,D,E,G,e5];obtain⟨A,D,E,G⟩:=fin H a;simp only[Z3,seval,-ae,A,D,E];exact G
def DrR.ok(A:jF p)(l:rQ p n W B):DrR p W B:=⟨by have:=A.bd;omega,by rw[l.w.len];exact l.w.le,by rw[l.b.len];exact l.w.le,l.sm⟩
def zNT(A:So σ s vC bs)(J:∀p n vP vB W B h,jF p->fG p n<=729->rQ p n W B->lx vP vB W B->Mv σ s h->So h s vC bs->K (.agg [.int .i64 p,vP,vB]) h):zA Li 181 [.ptr s 0] σ K:=
 zA.gh (zGw A λp n sP capP cs sB aj ls h W B M R G H km D rs=>Gh.km km D A.lt λσ' l E Q=>RS.fin (rs.low (b':=σ'.aM) (by rw[l.aM];exact na _)) Q (na _) λvP vB I=>J p n vP vB W B σ' M G H I l E)
def zGs(so:So σ s vC bs)(hk:∀p n vP vB W B h,jF p->fG p n<=729->rQ p n W B->lx vP vB W B->Mv σ s h->So h s vC bs->K (.agg [.int .i64 p,vP,vB]) h):zA Li 112 [.ptr s 0] σ K:=by
 have dZ:=so.lt;refine zA.gh ?_;generalize hT:σ.bf [.int .i64 0,Ln,Ln]=T;have bT:T.aM=σ.aM+1:=by rw[<-hT];rfl
 have cZ:cT σ T:=by rw[<-hT];exact zC σ _
 have ko:So T s vC bs:=so.cf cZ;have iu:s<T.aM:=ko.lt;have lQ:T.bt σ.aM=Dc [.int .i64 0,Ln,Ln]:=by rw[<-hT];simp only[Z3,seval,-ae]
 have aQ:=λ{g:cg} {u0 u1 u2:PV} (k:KM T s g) (z0:u0.one=DF) (z1:u1.one=DF) (z2:u2.one=DF)=>res3 z0 z1 z2 ((k.bt af af).trans lQ);refine Lg Tryz.func112 ?_;refine Lk ?_;rw[hT];refine zNT ko λl n1 M Q W1 B1 H iL EZ Gu jK m1 cL=>?_;have dF:=ko.km.mv iu m1;have g1:=jK.P.one;have g2:=jK.B.one;have I5:=dF.aM;have tK:KM T s (H.bf [.int .i64 l,M,Q]):=dF.bf _;have oX:So (H.bf [.int .i64 l,M,Q]) s vC bs:=cL.cf (zC _ _);have fx:(H.bf [.int .i64 l,M,Q]).bt H.aM=Dc [.int .i64 l,M,Q]:=by rw[zI,DK rfl]
 have KU:H.aM<(H.bf [.int .i64 l,M,Q]).aM:=YM _;simp only[Z3,seval,-ae,g1,g2];generalize H.bf [PV.int .i64 l,M,Q]=N3 at *
 have pA:T.aM<=H.aM:=I5;generalize H.aM=r0 at *
 refine zJn jK Gu.w Gu.b iL λt ht=>?_;cases t with
 |true=>
  have x0:N3.rd r0 0 3=Dc [.int .i64 l,M,Q]:=by rw[zV fx];rfl
  obtain⟨x1,x2⟩:=aQ (u0:=.int .i64 l) (u1:=M) (u2:=Q) tK rfl g1 g2;simp only[Z3,seval,-ae,x0,x1,x2];refine Gh.km (((so.kmK cZ).trans dZ tK).set (na _) _) (oX.set af _) dZ λσ' m' bQ kp=>?_;exact Gh.fin0 kp ⟨DJ,jK.P.bel _,jK.B.bel _,DJ⟩ (hk l n1 M Q W1 B1 σ' iL EZ Gu jK m' bQ)
 |false=>
 refine Lk ?_;refine zZ oX LB λx h2 hx m2 bA=>?_;have bW:=tK.mv iu m2;have x0:=hx.1;have x2:=hx.lt LB;obtain⟨n,lj,mS,wn⟩:∃n:Nat,3<=n/\n<=4/\Lp .i64 (3+x)=(n:Int):=⟨(3+x).toNat,af,af,by rw[fl af af];omega⟩
 simp only[Z3,seval,-ae,wn];refine zZ (bA.cf (zC _ _)) LB λy h3 hy m3 dD=>?_;have eU:=(bW.bf [.int .i64 3,.int .i64 5]).mv iu m3;have y0:=hy.1;have y2:=hy.lt LB;have I4:=bW.aM;have tD:h3.bt h2.aM=Dc (cS [3,5]):=by rw[m3.bt af,zI,DK rfl];rfl
 obtain⟨k,rfl⟩:∃k:Nat,y=k:=⟨y.toNat,af⟩
 have df:k<2:=af
 obtain⟨p,hp,E5,hr⟩:∃p:Int,jF p/\(p=3\/p=5)/\h3.dR h2.aM k=Dc (.int .i64 p):=by
  have e:k=0\/k=1:=af
  rcases e with rfl|rfl
  .exact⟨3,.inr (.inl rfl),.inl rfl,by rw[zH tD];rfl⟩
  .exact⟨5,.inr (.inr (.inl rfl)),.inr rfl,by rw[zH tD];rfl⟩
 have Ky:r0<h2.aM:=by rw[m2.aM];exact KU
 have D9:h3.bt r0=Dc [.int .i64 l,M,Q]:=by rw[m3.bt af,zI,DL af,m2.bt af];exact fx
 have Hw:r0<h3.aM:=by rw[m3.aM];show r0<h2.aM+1;omega
 have dg:1<=n:=af
 have aX:n<=6:=af
 have zp:fG p n<=729:=by
  have en:n=3\/n=4:=af
  rcases E5 with rfl|rfl<;>rcases en with rfl|rfl<;>decide
 have gA:=hp.bd;have ck:2<=p/\p<=7:=af
 simp only[Z3,seval,-ae,hr,df];refine zGx dg aX λsP capP cs sB aj ls h5 k5 mi=>?_;have fF:=dD.cf k5;have fW:=eU.cf k5;have tC:h5.bt r0=Dc [.int .i64 l,M,Q]:=by rw[k5.bt r0 Hw];exact D9
 have KT:r0<h5.aM:=Yw Hw k5.aM;have CY:=eU.aM;have w5:h5.wr r0 0 [.int .i64 p,.sl sP 0 n capP,.sl sB 0 n aj]=Dc (h5.set r0 [.int .i64 p,.sl sP 0 n capP,.sl sB 0 n aj]):=by rw[zR tC,DK ⟨aK,by rfl⟩];rfl
 have mr:te p:=gA;have gs:GS E0 FI (rQ p n) T (h5.set r0 [.int .i64 p,.sl sP 0 n capP,.sl sB 0 n aj]) s vC bs r0 p n sP capP sB aj:=
  ⟨fW.set pA _,fF.set af _,iu,by rw[zG,DK rfl],⟨pA,KT⟩,⟨cs,ls,_,_,(mi.low CY).move (λt ht=>by rw[zG,DL (by have:=(mi.lt ht).1;omega)]) (na _),rQ.zero mr aX,λt ht e=>by have:=(mi.lt ht).1;omega,λu x e=>e.elim⟩,λu x e=>e.elim⟩
 clear mi;have s9:Lp .i64 ((n:Int)-1)=((n-1:Nat):Int):=WQ
 have fin:∀{g:cg},GS E0 FI (rQ p n) T g s vC bs r0 p n sP capP sB aj->g.rd r0 0 3=Dc [.int .i64 p,.sl sP 0 n capP,.sl sB 0 n aj]/\g.wr σ.aM 0 [.int .i64 p,.sl sP 0 n capP,.sl sB 0 n aj]=Dc (g.set σ.aM [.int .i64 p,.sl sP 0 n capP,.sl sB 0 n aj])
   /\(g.set σ.aM [.int .i64 p,.sl sP 0 n capP,.sl sB 0 n aj]).rd σ.aM 0 3=Dc [.int .i64 p,.sl sP 0 n capP,.sl sB 0 n aj]/\Gh σ K (.agg [.int .i64 p,.sl sP 0 n capP,.sl sB 0 n aj]) (g.set σ.aM [.int .i64 p,.sl sP 0 n capP,.sl sB 0 n aj]):=λ{g} a=>by
  obtain⟨x1,x2⟩:=aQ (u0:=.int .i64 p) (u1:=.sl sP 0 n capP) (u2:=.sl sB 0 n aj) a.km rfl rfl rfl;refine⟨a.rd.1,x1,x2,?_⟩;obtain⟨cs,ls,W,B,rs,f,ne,_⟩:=a.rs;refine Gh.km (((so.kmK cZ).trans dZ a.km).set (na _) _) (a.so.set af _) dZ λσ' m' bQ kp=>?_;refine RS.fin ((rs.low (b':=σ'.aM) (by rw[m'.aM];omega)).move (λt ht=>?_) (na _)) kp (na _) λvP vB hR=>hk p n vP vB W B σ' hp zp f hR m' bQ
  have:=(rs.lt ht).1
  rw[zG,DL af]
 have dw:∀{W:V2} {B:V3} {i:Nat},rQ p n W B->i<n->(B.getD i []).length=n-1-i:=λ{W B i} q hi=>by
  have H:i<Lu B:=by rw[q.b.len];exact hi
  rw[zM H];exact q.b.row i H
 have hle:El p n (cD n (n-1)):=zQ mr af;have wQ:(0:Int)<(n:Int):=af
 have wN:(1:Int)<(n:Int):=af
 have Lf:(0:Int)<((n-1-0:Nat):Int):=af
 have Ld:(1:Int)<((n-1-0:Nat):Int):=af
 have Le:(0:Int)<((n-1-1:Nat):Int):=af
 simp only[Z3,seval,-ae,w5];clear w5;generalize h5.set r0 [PV.int .i64 p,.sl sP 0 n capP,.sl sB 0 n aj]=g5 at *
 obtain⟨A,G,D,E⟩:=gs.rd;simp only[Z3,seval,-ae,A,s9];refine Q8 (vP:=.sl sP 0 n capP) (vB:=.sl sB 0 n aj) (n:=n) (k:=n-1) rfl rfl rfl af af λvl fC=>?_;obtain⟨t6,c6,I⟩:=gs.rdB (i:=0) af (λW B q=>dw q af);simp only[Z3,seval,-ae,A,E,I,wQ];refine Q8 (vP:=.sl sP 0 n capP) (vB:=.sl sB 0 n aj) (n:=n) (k:=2) rfl rfl rfl af af λv6 pf=>?_;obtain⟨g6,w6,Z,_⟩:=gs.putB (F':=rQ p n) (i:=0) (k:=0) af I af (λ_ _ h=>h) pf pf.one (λW B _ q=>q.setB af (zQ q.w.pr af) (λj hj=>by rw[zw af,DL af]));simp only[Z3,seval,-ae,E,I,w6,wQ,Lf,pf.cells];clear A G D E I w6 gs;by_cases L7:n=4;rotate_left
 .as_aux_lemma=>
  have Ag:¬(n:Int)=4:=af
  simp only[Z3,seval,-ae,Ag,decide_false];obtain⟨A,G,D,E⟩:=Z.rd;simp only[Z3,seval,-ae,A,D,s9];refine ql (vP:=.sl sP 0 n capP) (vB:=.sl sB 0 n aj) (n:=n) (k:=n-1) Z.so ck rfl rfl rfl af af λv9 x9 k9 tQ oE J m9 oV=>?_;have R:=Z.mv m9 oV;obtain⟨Y,X,l,V⟩:=R.rd;obtain⟨h9,w9,qe⟩:=R.putP (F':=rQ p n) (i:=1) (w:=x9) af J (λW B q=>q.setP tQ (λj hj=>oE j af));simp only[Z3,seval,-ae,l,w9,wN,J.cells];obtain⟨e1,e2,e3,e4⟩:=fin qe;simp only[Z3,seval,-ae,e1,e2,e3];exact e4
 have Is:decide ((n:Int)=4)=DF:=decide_eq_true af;by_cases H2:p=5;rotate_left
 .as_aux_lemma=>
  simp only[Z3,seval,-ae,Is,H2,decide_true,decide_false];obtain⟨A,G,D,E⟩:=Z.rd;simp only[Z3,seval,-ae,A,D,s9];refine ql (vP:=.sl sP 0 n capP) (vB:=.sl sB 0 n aj) (n:=n) (k:=n-1) Z.so ck rfl rfl rfl af af λv9 x9 k9 tQ oE J m9 oV=>?_;have R:=Z.mv m9 oV;obtain⟨Y,X,l,V⟩:=R.rd;obtain⟨h9,w9,qe⟩:=R.putP (F':=rQ p n) (i:=1) (w:=x9) af J (λW B q=>q.setP tQ (λj hj=>oE j af));simp only[Z3,seval,-ae,l,w9,wN,J.cells];obtain⟨e1,e2,e3,e4⟩:=fin qe;simp only[Z3,seval,-ae,e1,e2,e3];exact e4
 obtain⟨A,G,D,E⟩:=Z.rd;obtain⟨t7,c7,I⟩:=Z.rdB (i:=0) af (λW B q=>dw q af);obtain⟨g7,w7,I7,_⟩:=Z.putB (F':=rQ p n) (i:=0) (k:=1) af I af (λ_ _ h=>h) fC fC.one (λW B _ q=>q.setB af hle (λj hj=>by rw[zw af,DL af]));have E4:decide (p=5)=DF:=decide_eq_true H2;simp only[Z3,seval,-ae,Is,E4,decide_true,E,I,w7,wQ,Ld,fC.cells];clear A G D E I w7;refine zZ I7.so LB λz g8 PZ m8 DB=>?_;have sX:=I7.mv m8 DB;by_cases cU:z=0
 .as_aux_lemma=>
  obtain⟨A,G,D,E⟩:=sX.rd;obtain⟨t,c,I⟩:=sX.rdB (i:=1) af (λW B q=>dw q af);have HT:=sX.sBb;simp only[Z3,seval,-ae,cU,decide_true,A,E,I,wN];refine ql (vP:=.sl sP 0 n capP) (vB:=.sl sB 0 n aj) (n:=n) (k:=3) sX.so ck rfl rfl rfl af af λv x g4 hx hz hv m4 dN=>?_;have lH:=sX.mv m4 dN;obtain⟨Y,X,l,V⟩:=lH.rd;have oD:g4.dR sB 1=Dc (.sl t 0 (n-1-1) c):=by rw[m4.dR af];exact I
  obtain⟨gb,w5,GJ,_⟩:=lH.putB (F':=rQ p n) (i:=1) (k:=0) (w:=x) af oD af (λ_ _ h=>h) hv hv.one (λW B hB q=>q.setB af hx (λj hj=>hz j af));simp only[Z3,seval,-ae,V,oD,w5,hv.cells,wN,Le];clear A G D E I Y X l V oD w5;obtain⟨A,G,D,E⟩:=GJ.rd;simp only[Z3,seval,-ae,A,D];refine ql (vP:=.sl sP 0 n capP) (vB:=.sl sB 0 n aj) (n:=n) (k:=3) GJ.so ck rfl rfl rfl af af λva xa ka yw Er eH ma DA=>?_;have Bi:=GJ.mv ma DA;obtain⟨Y,X,l,V⟩:=Bi.rd;obtain⟨ha,wa,vn⟩:=Bi.putP (F':=rQ p n) (i:=0) (w:=xa) af eH (λW B q=>q.setP yw (λj hj=>Er j af));simp only[Z3,seval,-ae,l,wa,wQ,eH.cells];clear A G D E Y X l V wa;obtain⟨A,G,D,E⟩:=vn.rd;simp only[Z3,seval,-ae,A,D,s9];refine ql (vP:=.sl sP 0 n capP) (vB:=.sl sB 0 n aj) (n:=n) (k:=n-1) vn.so ck rfl rfl rfl af af λv9 x9 k9 tQ oE J m9 oV=>?_;have R:=vn.mv m9 oV;obtain⟨Y,X,l,V⟩:=R.rd;obtain⟨h9,w9,qe⟩:=R.putP (F':=rQ p n) (i:=1) (w:=x9) af J (λW B q=>q.setP tQ (λj hj=>oE j af));simp only[Z3,seval,-ae,l,w9,wN,J.cells];obtain⟨e1,e2,e3,e4⟩:=fin qe;simp only[Z3,seval,-ae,e1,e2,e3];exact e4
 .as_aux_lemma=>
  simp only[Z3,seval,-ae,cU,decide_false];obtain⟨A,G,D,E⟩:=sX.rd;simp only[Z3,seval,-ae,A,D];refine ql (vP:=.sl sP 0 n capP) (vB:=.sl sB 0 n aj) (n:=n) (k:=3) sX.so ck rfl rfl rfl af af λva xa ka yw Er eH ma DA=>?_;have Bi:=sX.mv ma DA;obtain⟨Y,X,l,V⟩:=Bi.rd;obtain⟨ha,wa,vn⟩:=Bi.putP (F':=rQ p n) (i:=0) (w:=xa) af eH (λW B q=>q.setP yw (λj hj=>Er j af));simp only[Z3,seval,-ae,l,wa,wQ,eH.cells];clear A G D E Y X l V wa;obtain⟨A,G,D,E⟩:=vn.rd;simp only[Z3,seval,-ae,A,D,s9];refine ql (vP:=.sl sP 0 n capP) (vB:=.sl sB 0 n aj) (n:=n) (k:=n-1) vn.so ck rfl rfl rfl af af λv9 x9 k9 tQ oE J m9 oV=>?_;have R:=vn.mv m9 oV;obtain⟨Y,X,l,V⟩:=R.rd;obtain⟨h9,w9,qe⟩:=R.putP (F':=rQ p n) (i:=1) (w:=x9) af J (λW B q=>q.setP tQ (λj hj=>oE j af));simp only[Z3,seval,-ae,l,w9,wN,J.cells];obtain⟨e1,e2,e3,e4⟩:=fin qe;simp only[Z3,seval,-ae,e1,e2,e3];exact e4
def zNJ(H:So σ s vC bs)(E:∀p vP vB W B h,DrR p W B->lx vP vB W B->Mv σ s h->So h s vC bs->K (.agg [.int .i64 p,vP,vB]) h):zA Li 112 [.ptr s 0] σ K:=
 zGs H λp n vP vB W B h G _ A D m l=>E p vP vB W B h (DrR.ok G A) D m l
def zNM(R:So σ s vC bs)(hk:∀p vP vB W B h,DrR p W B->lx vP vB W B->Mv σ s h->So h s vC bs->K (.agg [.int .i64 p,vP,vB]) h):zA Li 59 [.ptr s 0] σ K:=by
 have dZ:=R.lt;refine zA.gh ?_;generalize H:σ.bf [.int .i64 0,Ln,Ln]=T;have bT:T.aM=σ.aM+1:=by rw[<-H];rfl
 have Z:cT σ T:=by rw[<-H];exact zC σ _
 have M:So T s vC bs:=R.cf Z;have J:s<T.aM:=M.lt;have lQ:T.bt σ.aM=Dc [.int .i64 0,Ln,Ln]:=by rw[<-H];simp only[Z3,seval,-ae]
 have Y:=λ{g:cg} {u0 u1 u2:PV} (k:KM T s g) (z0:u0.one=DF) (z1:u1.one=DF) (z2:u2.one=DF)=>res3 z0 z1 z2 ((k.bt af af).trans lQ);have fin:∀{g:cg} {p:Int} {vP vB:PV} {W:V2} {B:V3},DrR p W B->lx vP vB W B->KM T s g->So g s vC bs->Gh σ K (.agg [.int .i64 p,vP,vB]) (g.set σ.aM [.int .i64 p,vP,vB]):=λ{g p vP vB W B} d l km G=>by
  refine Gh.km (((R.kmK Z).trans dZ km).set (na _) _) (G.set af _) dZ λσ' m' bQ kp=>?_;exact Gh.fin0 kp ⟨DJ,l.P.bel _,l.B.bel _,DJ⟩ (hk p vP vB W B σ' d l m' bQ)
 refine Lg Tryz.func59 ?_;refine Lk ?_;rw[H];refine zZ M LB λx h1 hx m1 G=>?_;have dF:=M.km.mv J m1;by_cases eF:x=0
 .simp only[Z3,seval,-ae,eF,decide_true];refine zNU G λp vP vB W B h2 d l Q I=>?_;have A:=dF.mv J Q;have D:=l.P.one;have E:=l.B.one;obtain⟨V,X⟩:=Y (u0:=.int .i64 p) (u1:=vP) (u2:=vB) A rfl D E;simp only[Z3,seval,-ae,D,E,V,X];exact fin d l A I
 .simp only[Z3,seval,-ae,eF,decide_false];refine zNJ G λp vP vB W B h2 d l Q I=>?_;have A:=dF.mv J Q;have D:=l.P.one;have E:=l.B.one;obtain⟨V,X⟩:=Y (u0:=.int .i64 p) (u1:=vP) (u2:=vB) A rfl D E;simp only[Z3,seval,-ae,D,E,V,X];exact fin d l A I
end
section
open Go.Grp
variable{b:Nat}
def ShR.shl{E:V2}{l:V3}(G:jF p)(J:n<=6)(a:ShR p n n E l):Shl (Ep n p) E l:=by
 have el:(Ep n p).length=n:=YL;refine⟨af,λj A=>?_,by rw[el];exact a.pl,by rw[el];exact a.cl,λi I=>?_,λr D=>by rw[el];exact(a.pe r D).1,λq H r D=>?_⟩
 .rw[dp A,UI];exact G.bd
 .have h1:i<Lu l:=by rw[a.cl];omega
  rw[YW,YQ h1,el];exact(a.cq i h1).1
 .obtain⟨j,A,rfl⟩:=YR.1 H;rw[el];exact((a.cq j A).2 r D).1
def Shl.sm(a:Shl O P C):SmP O P C:=by
 have:=a.le
 refine⟨af,λx G=>?_,by rw[a.pl];omega,λr D=>by rw[a.pe r D];omega,by rw[a.cl];omega,λq A=>?_,λq A r D=>by rw[a.ce q A r D];omega⟩
 .obtain⟨j,l,rfl⟩:=YR.1 G
  have:=a.pr j l
  rw[dp l]at this;omega
 .obtain⟨j,l,rfl⟩:=YR.1 A;have E:=a.row j (by rw[<-a.cl];exact l);rw[YW,YQ l]at E;have H:C[j].length=Lu O-1-j:=E;omega
def Cw.smL{D:V2}{A:V3}(E:Shl O P C)(a:Cw (λm=>m=Lu O) D A (Lu O) (Lu O) (λi=>(Lu O)-1-i)):SmP O D A:=
 have I:=E.le
 Cw.sm (N:=(Lu O)) ⟨a.pl,a.cl,λr l=>UL (a.pq r l),a.row,λq G r l=>UL (a.cq q G r l)⟩ af af E.sm.ob af af λi H=>by omega
def zJm(so:So σ s0 vS bs)(hk:∀A D l O P C σ',dU A D l O P C->SmP O P C->Mv σ s0 σ'->So σ' s0 vS bs->K (.agg [A,D,l]) σ'):zA Li 67 [.ptr s0 0] σ K:=by
 have cV:=so.lt;refine Lh Tryz.func67 ?_;refine Lk ?_;generalize hH:σ.bf [Ln,Ln,Ln]=H;have fq:H.aM=σ.aM+1:=by rw[<-hH];rfl
 have eo:s0<H.aM:=af
 have gv:H.bt σ.aM=Dc dW:=by rw[<-hH];simp only[Z3,seval,-ae]
 have rS:KM σ s0 H:=by rw[<-hH];exact so.kmK (zC _ _)
 have mh:So H s0 vS bs:=by rw[<-hH];exact so.cf (zC _ _)
 clear hH;have fin:∀{g:cg} {A D l:PV} {O:V1} {P:V2} {C:V3},KM H s0 g->So g s0 vS bs->dU A D l O P C->SmP O P C->
   A.one=DF/\D.one=DF/\l.one=DF/\g.wr σ.aM 0 [A,D,l]=Dc (g.set σ.aM [A,D,l])/\(g.set σ.aM [A,D,l]).rd σ.aM 0 3=Dc [A,D,l]/\Gh σ K (.agg [A,D,l]) (g.set σ.aM [A,D,l]):=λ{g A D l O P C} km bQ E fm=>
  zOS cV hk (rS.trans cV km) bQ (by rw[km.bt af af];exact gv) E fm
 have Br:∀{g:cg} {K':PV->cg->Prop},KM H s0 g->So g s0 vS bs->(∀p n vP vB W B g2,jF p->fG p n<=729->rQ p n W B->lx vP vB W B->KM H s0 g2->So g2 s0 vS bs->K' (.agg [.int .i64 p,vP,vB]) g2)->zA Li 112 [.ptr s0 0] g K':=λ{g K'} km bQ bF=>
  zGs bQ λp n vP vB W B g2 Q V M E m2 R=>bF p n vP vB W B g2 Q V M E (km.mv eo m2) R
 have I8:∀{g:cg} {K':PV->cg->Prop} {p:Int} {n:Nat} {vP vB:PV} {W:V2} {B:V3},jF p->fG p n<=729->rQ p n W B->lx vP vB W B->(∀A D l O P C,dU A D l O P C->Shl O P C->K' (.agg [A,D,l]) g)->zA Li 62 [.agg [.int .i64 p,vP,vB]] g K':=λ{g K' p n vP vB W B} Q V M E bF=>
  zLK M.w M.b V Q E λvO vQ vC Ps Cs G I J sh=>bF vO vQ vC _ Ps Cs ⟨G,I,J⟩ (sh.shl Q M.w.le)
 refine zZ (n:=12) mh LB λx g1 hx m1 cL=>?_;have dF:=mh.km.mv eo m1;by_cases e0:x=0
 .subst e0;refine Lk ?_;refine zNV cL λuO uP uC O' P' C' g4 cQ sm m4 dN=>?_;obtain⟨G,I,J,X,Y,Z⟩:=fin (dF.mv eo m4) dN cQ sm;simp only[Z3,seval,-ae,G,I,J,X,Y];exact Z
 by_cases e1:x=1
 .subst e1;refine Lk ?_;refine Br dF cL λp n vP vB W B g2 Q V M E bW R=>?_;have r1:=E.P.one;have r2:=E.B.one;simp only[Z3,seval,-ae,r1,r2];refine I8 Q V M E λA D l O P C xx sh=>?_;have o1:=xx.O.one;have o2:=xx.P.one;have o3:=xx.C.one;simp only[Z3,seval,-ae,o1,o2,o3];refine zGz R xx sh λuO uP uC P' C' g4 cQ hq m4 dN=>?_;obtain⟨G,I,J,X,Y,Z⟩:=fin (bW.mv eo m4) dN cQ (Cw.smL sh hq);simp only[Z3,seval,-ae,G,I,J,X,Y];exact Z
 by_cases e2:x=2
 .subst e2;refine Lk ?_;have R:So (g1.bf [.int .i64 2,.int .i64 3,.int .i64 5,.int .i64 7]) s0 vS bs:=cL.cf (zC _ _);refine zAO R (xs:=[2,3,5,7]) (t:=g1.aM) (by have:=m1.aM;omega) (by rw[zI,DK rfl];rfl) LB λq g3 hq m3 dD=>?_;have eU:=(dF.bf [.int .i64 2,.int .i64 3,.int .i64 5,.int .i64 7]).mv eo m3;have LL:2<=q/\q<=7:=by simp only[YH,Ym,or_false]at hq;omega
  refine Lk ?_;refine zCH dD LL λuO uP uC O' P' C' g4 cQ fm m4 dN=>?_;obtain⟨G,I,J,X,Y,Z⟩:=fin (eU.mv eo m4) dN cQ (fm.sm LB);simp only[Z3,seval,-ae,G,I,J,X,Y];exact Z
 simp only[Z3,seval,-ae,e0,e1,e2];refine Br dF cL λp n vP vB W B g2 Q V M E bW R=>?_;have r1:=E.P.one;have r2:=E.B.one;simp only[Z3,seval,-ae,r1,r2];refine I8 Q V M E λA D l O P C xx sh=>?_;obtain⟨G,I,J,X,Y,Z⟩:=fin bW R xx sh.sm;simp only[Z3,seval,-ae,G,I,J,X,Y];exact Z
end
section
variable{s:Nat}
def KM.keepOf(k:KM σ s h)(l:cT σ0 σ)(hs:σ0.aM<=s):cT σ0 h:=by
 obtain⟨σ',⟨A,D,E,G,rfl⟩,q⟩:=k;exact(l.set hs _).trans q
end
section
open Go.Grp
def zLp(l:lx vP vB W B)(sz:SzR W B)(A:wq p W B)(I:∀c:Nat,Cls p (Lu W) W B c->K (.tup [.int .i64 c,.int .i64 0]) σ):zA Li 24 [.agg [.int .i64 p,vP,vB]] σ K:=by
 have D:=l.P.one;have E:=l.B.one;have o:=A.1.w;have q:=A.1.b;have M:=o.le;refine Lh Tryz.func24 ?_;simp only[Z3,seval,-ae,D,E];refine zCN l sz λt J=>?_;obtain rfl:t=DF:=J.2 A;refine Lk ?_;refine zFZ (p:=p) (vP:=vP) (vB:=vB) ⟨by simp only[Z3,seval,-ae],by simp only[Z3,seval,-ae]⟩ l o q A.1.1 λc a rows H=>?_;have Q:c<=Lu W+1:=by
  rcases YG (Lu W) c with x|x
  .obtain⟨G,rfl⟩:∃G,c=G+1:=⟨c-1,af⟩
   obtain⟨D,E⟩:=H;cases D with
   |succ h dK=>exact H6 (h.le o q (E _ _ (YM _) h))
  .omega
 have hw:Lp .i64 (((c+1:Nat):Int)-1)=(c:Int):=WQ
 simp only[Z3,seval,-ae,hw];exact Gh.fin0 (zC σ _) ⟨DJ,DJ,DJ⟩ (I c H)
def zEr(l:dU vO vP vC O P C)(sz:SzP O P C)(A:isLG O P C)(V:∀c:Nat,(Lc O P C c=[]/\∀j,j<c->Lc O P C j≠[])->K (.tup [.int .i64 c,.int .i64 0]) σ):zA Li 25 [.agg [vO,vP,vC]] σ K:=by
 have M:=l.O.one;have Q:=l.P.one;have R:=l.C.one;refine zA.gh ?_;have D:jh (σ.bf [vO,vP,vC]) σ.aM vO vP vC:=⟨by simp only[Z3,seval,-ae],by simp only[Z3,seval,-ae]⟩
 refine Lg Tryz.func25 ?_;simp only[Z3,seval,-ae,M,Q,R];refine zCn l sz λt X=>?_;obtain rfl:t=DF:=X.2 A.1.1;have s:=A.1.1.1.shp;have Z:=s.le;have F:=Cons.full s A.1.1.2;refine Lk ?_;refine zCb s F (A.1.2.cent s) A.1.1.1.isp D l λc a rows ⟨H,g2,I⟩ ⟨w,J,G⟩=>?_;obtain⟨w0,Y,r0,rfl,pA⟩:=G;have hw:Lp .i64 (((c+1:Nat):Int)-1)=(c:Int):=WQ
 have E:c<c+1:=YM c;simp only[Z3,seval,-ae,hw,E,J];exact Gh.fin0 (zC σ _) ⟨DJ,DJ,DJ⟩ (V c ⟨H,I⟩)
def zFO(J:FB vC bs)(Y:Byt bs)(hk:∀A D l O P C,dU A D l O P C->SmP O P C->K (.agg [A,D,l]) σ):zA Li 26 [vC] σ K:=by
 refine zA.gh ?_;generalize I:σ.bf dW=T;have bT:T.aM=σ.aM+1:=by rw[<-I];rfl
 have cZ:cT σ T:=by rw[<-I];exact zC σ _
 have lQ:T.bt σ.aM=Dc dW:=by rw[<-I,zI,DK rfl]
 refine Lg Tryz.func26 ?_;simp only[Z3,seval,-ae,J.one];rw[I];refine zG0 J Y λH tY=>?_;have Q:So (T.bf (oR vC 0 H)) T.aM vC bs:=⟨0,H,by rw[zI,DK rfl],YM _,J,Y,YV _,tY⟩
 have dF:KM (T.bf (oR vC 0 H)) T.aM (T.bf (oR vC 0 H)):=Q.km;have Z:cT T (T.bf (oR vC 0 H)):=zC _ _;have dr:T.aM<(T.bf (oR vC 0 H)).aM:=YM _;generalize hU:T.bf (oR vC 0 H)=U at *
 have Nr:U.aM=T.aM+1:=by rw[<-hU];rfl
 refine Lk ?_;refine zJm Q λA D l O P C E G sm m2 bA=>?_;have bW:=dF.mv dr m2;have R:=G.O.one;have V:=G.P.one;have X:=G.C.one;have M:cT T E:=bW.keepOf Z (na _);have uF:=M.aM;have aQ:E.bt σ.aM=Dc dW:=by rw[M.bt _ af];exact lQ
 have w:E.wr σ.aM 0 [A,D,l]=Dc (E.set σ.aM [A,D,l]):=by rw[zR aQ,DK ⟨by simp[dW],by simp[R,V,X]⟩];rfl
 have r:(E.set σ.aM [A,D,l]).rd σ.aM 0 3=Dc [A,D,l]:=by rw[zi,DK rfl];rfl
 have kk:cT σ (E.set σ.aM [A,D,l]):=(cZ.trans M).set (na _) _;generalize E.set σ.aM [A,D,l]=g at *
 simp only[Z3,seval,-ae,R,V,X,w,r];exact Gh.fin0 kk ⟨G.O.bel _,G.P.bel _,G.C.bel _,DJ⟩ (hk A D l O P C G sm)
def zEu(G:FB vC bs)(Q:Byt bs)(hk:∀p vP vB W B,DrR p W B->lx vP vB W B->K (.agg [.int .i64 p,vP,vB]) σ):zA Li 20 [vC] σ K:=by
 refine zA.gh ?_;generalize E:σ.bf [.int .i64 0,Ln,Ln]=T;have bT:T.aM=σ.aM+1:=by rw[<-E];rfl
 have Y:cT σ T:=by rw[<-E];exact zC σ _
 have lQ:T.bt σ.aM=Dc [.int .i64 0,Ln,Ln]:=by rw[<-E,zI,DK rfl]
 refine Lg Tryz.func20 ?_;simp only[Z3,seval,-ae,G.one];rw[E];refine zG0 G Q λA tY=>?_;have I:So (T.bf (oR vC 0 A)) T.aM vC bs:=⟨0,A,by rw[zI,DK rfl],YM _,G,Q,YV _,tY⟩
 have Z:KM (T.bf (oR vC 0 A)) T.aM (T.bf (oR vC 0 A)):=I.km;have R:cT T (T.bf (oR vC 0 A)):=zC _ _;have dr:T.aM<(T.bf (oR vC 0 A)).aM:=YM _;generalize hU:T.bf (oR vC 0 A)=U at *
 have Nr:U.aM=T.aM+1:=by rw[<-hU];rfl
 refine Lk ?_;refine zNM I λp vP vB W B l d D m2 bA=>?_;have X:=Z.mv dr m2;have J:=D.P.one;have M:=D.B.one;have H:cT T l:=X.keepOf R (na _);have uF:=H.aM;have V:l.bt σ.aM=Dc [.int .i64 0,Ln,Ln]:=by rw[H.bt _ af];exact lQ
 have w:l.wr σ.aM 0 [.int .i64 p,vP,vB]=Dc (l.set σ.aM [.int .i64 p,vP,vB]):=by rw[zR V,DK ⟨aK,by simp only[Ej,Em,J,M];rfl⟩];rfl
 have r:(l.set σ.aM [.int .i64 p,vP,vB]).rd σ.aM 0 3=Dc [.int .i64 p,vP,vB]:=by rw[zi,DK rfl];rfl
 have kk:cT σ (l.set σ.aM [.int .i64 p,vP,vB]):=(Y.trans H).set (na _) _;generalize l.set σ.aM [.int .i64 p,vP,vB]=g at *
 simp only[Z3,seval,-ae,J,M,w,r];exact Gh.fin0 kk ⟨DJ,D.P.bel _,D.B.bel _,DJ⟩ (hk p vP vB W B d D)
end
end Go.Proofs
namespace Go.Grp
variable{N h t:Nat}
section
open Go.Im
section
variable{α:Type}[Inhabited α]{S:α->Prop}{m:α->α->α}{e:α}{a b x y z:α}
def mA(S:α->Prop)(m:α->α->α)(e:α)(a:α):Prop:=∀N,zy S m e N->(∀x y,S x->S y->N (iN S m e x y))->N a
def mA.sub(G:Gp S m e):zy S m e (mA S m e) where
 inS h:=h S G.wholeB λx y l A=>G.com_in l A
 one N hN _:=hN.one
 cl ha hb N hN hc:=hN.cl (ha N hN hc) (hb N hN hc)
 inv ha N hN hc:=hN.inv (ha N hN hc)
def mA.iN(A:S x)(D:S y):mA S m e (iN S m e x y):=λN _ l=>l x y A D
def C3(S:α->Prop)(m:α->α->α)(e:α):Prop:=∀x y z,S x->S y->S z->Cm S m (Grp.iN S m e (Grp.iN S m e x y) z)
def Gp.cnj_id(G:Gp S m e)(l:Cm S m a)(A:S x):cnj S m e a x=a:=(G.cnj_eq l.1 A l.1 (l.2 _ A).symm).symm
def Gp.cm_e(G:Gp S m e):Cm S m e:=⟨G.one,λz l=>by rw[G.l1 l,G.r1 l]⟩
def Gp.cm_cl(G:Gp S m e)(l:Cm S m a)(A:Cm S m b):Cm S m (m a b):=⟨G.cl l.1 A.1,λz D=>by rw[G.as l.1 A.1 D,A.2 z D,<-G.as l.1 D A.1,l.2 z D,G.as D l.1 A.1]⟩
def Gp.cm_inv(G:Gp S m e)(l:Cm S m a):Cm S m (la S m e a):=by
 have D:=(G.inv_in l.1).1;refine⟨D,λz A=>?_⟩;refine G.cancel l.1 (G.cl D A) (G.cl A D) ?_;rw[<-G.as l.1 D A,G.inv_r l.1,G.l1 A,<-G.as l.1 A D,l.2 z A,G.as A l.1 D,G.inv_r l.1,G.r1 A]
def mA.cen(G:Gp S m e)(H:C3 S m e)(A:mA S m e a):∀x,S x->Cm S m (Grp.iN S m e a x):=by
 refine(A (λa=>S a/\∀x,S x->Cm S m (Grp.iN S m e a x)) ⟨λh=>h.1,⟨G.one,λx l=>by rw[G.com_one l];exact G.cm_e⟩,λ{a b} A D=>⟨G.cl A.1 D.1,λx l=>?_⟩,λ{a} A=>⟨(G.inv_in A.1).1,λx l=>?_⟩⟩ λx y l E=>⟨G.com_in l E,λz I=>H x y z l E I⟩).2
 .rw[G.com_mul A.1 D.1 l,G.cnj_id (A.2 x l) D.1];exact G.cm_cl (A.2 x l) (D.2 x l)
 .rw[G.com_inv A.1 l (A.2 x l)];exact G.cm_inv (A.2 x l)
end
end
section
open Go.Im
variable{α:Type}[Inhabited α]{S:α->Prop}{m:α->α->α}{e:α}{a b x y:α}
structure NH(S:α->Prop)(m:α->α->α)(e:α)(N h t:Nat):Prop where
 G:Gp S m e
 h3:C3 S m e
 ex:∀x,S x->Grp.pw m e x N=e
 half:∀a,mA S m e a->Grp.pw m e a (2*h)=a
 tw:(∀a x,mA S m e a->S x->iN S m e a x=e)\/∀a,mA S m e a->Grp.pw m e a (12*t)=a
def Gp.com_cm_e(G:Gp S m e)(l:Cm S m a)(A:S x):iN S m e a x=e:=(G.com_eq l.1 A G.one (by rw[G.r1 (G.cl A l.1),l.2 _ A])).symm
def zQ5(G:Gp S m e)(I:C3 S m e)(E:mA S m e a)(J:mA S m e b):m a b=m b a:=by
 have g:=mA.sub (S:=S) (m:=m) (e:=e) G;have D:=g.inS E;have H:∀{x y},S x->S y->iN S m e a (m x y)=m (iN S m e a x) (iN S m e a y):=λ{x y} l A=>by
  have cx:=mA.cen G I E x l;have cy:=mA.cen G I E y A;rw[G.com_mul2 D l A,G.cnj_id cx A,cx.2 _ cy.1]
 have key:S b/\iN S m e a b=e:=by
  refine J (λb=>S b/\iN S m e a b=e) ⟨λh=>h.1,⟨G.one,G.com_one2 D⟩,λ{x y} l A=>⟨G.cl l.1 A.1,?_⟩,λ{x} l=>⟨(G.inv_in l.1).1,?_⟩⟩ λx y l A=>⟨G.com_in l A,?_⟩
  .rw[H l.1 A.1,l.2,A.2,G.l1 G.one]
  .have hi:=(G.inv_in l.1).1;have h:=H l.1 hi;rw[G.inv_r l.1,G.com_one2 D,l.2,G.l1 (G.com_in D hi)]at h;exact h.symm
  .have hc:=G.com_in l A;have h:=congrArg (iN S m e a) (G.com_spec l A);have cx:=mA.cen G I E x l;have cy:=mA.cen G I E y A;rw[H (G.cl A l) hc,H A l,H l A,cx.2 _ cy.1]at h
   have:m (m (iN S m e a y) (iN S m e a x)) (iN S m e a (iN S m e x y))=m (m (iN S m e a y) (iN S m e a x)) e:=by rw[h,G.r1 (G.cl cy.1 cx.1)]
   exact G.cancel (G.cl cy.1 cx.1) (G.com_in D hc) G.one this
 have h:=G.com_spec D key.1;rw[key.2,G.r1 (G.cl key.1 D)]at h;exact h.symm
def Mon.pw_cm(M:Mon S m e)(l:S a)(A:S b)(h:m a b=m b a):∀k,Grp.pw m e (m a b) k=m (Grp.pw m e a k) (Grp.pw m e b k)
 |0=>(M.l1 M.one).symm
 |k+1=>by
  have E:=M.pw l k;have D:=M.pw A k;have G:∀k,m (Grp.pw m e b k) a=m a (Grp.pw m e b k):=λk=>by
   induction k with
   |zero=>show m e a=m a e;rw[M.l1 l,M.r1 l]
   |succ k ih=>
    show m (m (Grp.pw m e b k) b) a=m a (m (Grp.pw m e b k) b);have D:=M.pw A k;rw[M.as D A l,<-h,<-M.as D l A,ih,M.as l D A]
  show m (Grp.pw m e (m a b) k) (m a b)=m (m (Grp.pw m e a k) a) (m (Grp.pw m e b k) b);rw[M.pw_cm l A h k,M.as E D (M.cl l A),<-M.as D l A,G,M.as E l (M.cl D A),M.as l D A]
def GT(S:α->Prop):Type:={x:α // S x}
def AT(S:α->Prop)(m:α->α->α)(e:α):Type:={x:α // mA S m e x}
section
variable{N h t:Nat}
def NH.gs(n:NH S m e N h t):zy S m e (mA S m e):=mA.sub n.G
def NH.inS(n:NH S m e N h t)(l:mA S m e a):S a:=n.gs.inS l
def NH.cmi(n:NH S m e N h t)(l:mA S m e a)(A:S x):mA S m e (Grp.iN S m e a x):=mA.iN (n.inS l) A
def NH.pmod(n:NH S m e N h t)(l:S x){j k:Nat}(A:j % N=k % N):Grp.pw m e x j=Grp.pw m e x k:=by
 rw[n.G.toMon.pw_mod l (n.ex x l) (a:=j),n.G.toMon.pw_mod l (n.ex x l) (a:=k),A]
def zs(m:α->α->α)(e:α)(N:Nat)(k:Int)(x:α):α:=Grp.pw m e x (k % N).toNat
def NH.zs_nat(n:NH S m e N h t)(hN:0<N)(l:S x)(k:Nat):zs m e N k x=Grp.pw m e x k:=by
 unfold zs;refine n.pmod l ?_;rw[show((k:Int) % (N:Int)).toNat=k % N by rw[<-Int.natCast_emod];rfl,Nat.mod_mod]
def NH.zs_add(n:NH S m e N h t)(hN:0<N)(l:S x)(j k:Int):zs m e N (j+k) x=m (zs m e N j x) (zs m e N k x):=by
 unfold zs;rw[<-n.G.toMon.pw_add l];refine n.pmod l ?_;have A:=Y3 j (show(N:Int)≠0 by omega);have D:=Y3 k (show(N:Int)≠0 by omega);have E:=Y3 (j+k) (show(N:Int)≠0 by omega);have e:=UK (j+k) (Uk (N:Int));apply Int.ofNat.inj
 show(((((j+k) % (N:Int)).toNat % N:Nat)):Int)=(((((j % (N:Int)).toNat+(k % (N:Int)).toNat) % N:Nat)):Int)
 rw[Int.natCast_emod,Int.natCast_emod,Int.natCast_add,YD A,YD D,YD E,UK _ (Uk _),<-Int.add_emod]
end
end
section
open Go.Im
variable{α:Type}[Inhabited α]{S:α->Prop}{m:α->α->α}{e:α}{a b c x y z:α}
def NH.cmA(n:NH S m e N h t)(l:mA S m e a)(A:mA S m e b):m a b=m b a:=zQ5 n.G n.h3 l A
def NH.zsA(n:NH S m e N h t)(l:mA S m e a)(k:Int):mA S m e (zs m e N k a):=n.gs.pw l _
@[instance_reducible] noncomputable def NH.part (n:NH S m e N h t) (hN:0<N):lM (AT S m e) where
 zero:=⟨e,n.gs.one⟩
 add a b:=⟨m a.1 b.1,n.gs.cl a.2 b.2⟩
 add_zero a:=Subtype.ext (n.G.r1 (n.inS a.2))
 add_comm a b:=Subtype.ext (n.cmA a.2 b.2)
 add_assoc a b c:=Subtype.ext (n.G.as (n.inS a.2) (n.inS b.2) (n.inS c.2))
 neg a:=⟨la S m e a.1,n.gs.inv a.2⟩
 sub a b:=⟨m a.1 (la S m e b.1),n.gs.cl a.2 (n.gs.inv b.2)⟩
 neg_add_cancel a:=Subtype.ext (n.G.inv_l (n.inS a.2))
 sub_eq_add_neg a b:=rfl
 smul k a:=⟨zs m e N k a.1,n.zsA a.2 _⟩
 zero_zsmul a:=Subtype.ext (by show zs m e N ((0:Nat):Int) a.1=e;rw[n.zs_nat hN (n.inS a.2)];rfl)
 one_zsmul a:=Subtype.ext (by show zs m e N ((1:Nat):Int) a.1=a.1;rw[n.zs_nat hN (n.inS a.2),n.G.toMon.pw_one (n.inS a.2)])
 add_zsmul j k a:=Subtype.ext (n.zs_add hN (n.inS a.2) j k)
section
variable(n:NH S m e N h t)
include n
theorem NH.cnj_A(l:mA S m e a)(A:S x):cnj S m e a x=m a (iN S m e a x):=(n.G.cnj_com (n.inS l) A).symm
theorem NH.cen(l:mA S m e a)(A:S x):Cm S m (iN S m e a x):=mA.cen n.G n.h3 l x A
theorem NH.com_A(l:mA S m e a)(A:mA S m e b)(D:S x):iN S m e (m a b) x=m (iN S m e a x) (iN S m e b x):=by
 rw[n.G.com_mul (n.inS l) (n.inS A) D,n.G.cnj_id (n.cen l D) (n.inS A)]
theorem NH.com_B(l:mA S m e a)(A:S x)(D:S y):iN S m e a (m x y)=m (iN S m e a x) (iN S m e a y):=by
 rw[n.G.com_mul2 (n.inS l) A D,n.G.cnj_id (n.cen l A) D,(n.cen l A).2 _ (n.cen l D).1]
theorem NH.com_pw(l:mA S m e a)(A:S x):∀k,iN S m e (Grp.pw m e a k) x=Grp.pw m e (iN S m e a x) k
 |0=>n.G.com_one A
 |k+1=>by
  show iN S m e (m (Grp.pw m e a k) a) x=m (Grp.pw m e (iN S m e a x) k) (iN S m e a x);rw[n.com_A (n.gs.pw l k) l A,NH.com_pw l A k]
theorem NH.com0(l:mA S m e a)(A:mA S m e b):iN S m e a b=e:=(n.G.com_eq (n.inS l) (n.inS A) n.G.one (by rw[n.G.r1 (n.G.cl (n.inS A) (n.inS l)),n.cmA l A])).symm
theorem NH.com3(l:S x)(A:S y)(D:S z):iN S m e (m x y) z=m (m (iN S m e x z) (iN S m e (iN S m e x z) y)) (iN S m e y z):=by
 rw[n.G.com_mul l A D,n.cnj_A (mA.iN l D) A]
theorem NH.half2(l:mA S m e a):m (Grp.pw m e a h) (Grp.pw m e a h)=a:=by
 have A:=n.inS l;rw[<-n.G.toMon.pw_add A,<-Nat.two_mul,n.half a l]
theorem NH.half_inj(l:mA S m e a)(A:mA S m e b)(D:m a a=m b b):a=b:=by
 have G:=n.inS l;have H:=n.inS A;have q:∀{a},mA S m e a->Grp.pw m e (m a a) h=a:=λ{a} l=>by
  have:=n.half a l
  rw[n.G.toMon.pw_mul (n.inS l)]at this;have E:Grp.pw m e a 2=m a a:=by show m (m e a) a=_;rw[n.G.l1 (n.inS l)]
  rwa[E]at this
 rw[<-q l,D,q A]
theorem NH.tw12(l:mA S m e a)(A:S x):Grp.pw m e (iN S m e a x) (12*t)=iN S m e a x:=by
 rcases n.tw with h|h
 .rw[h a x l A,n.G.toMon.pw_e]
 .exact h _ (n.cmi l A)
end
def AT.mk(x:α)(h:mA S m e x):AT S m e:=⟨x,h⟩
def GT.eq{x y:GT S}(h:x.1=y.1):x=y:=Subtype.ext h
def AT.eq{x y:AT S m e}(h:x.1=y.1):x=y:=Subtype.ext h
noncomputable def NH.dW(n:NH S m e N h t)(hN:0<N):letI:=n.part hN;Go.Nl.Nil3 (GT S) (AT S m e):=
 letI:=n.part hN
 have sm:∀(k:Nat) (a:AT S m e),((k:Int) • a).1=Grp.pw m e a.1 k:=λk a=>n.zs_nat hN (n.inS a.2) k;have sk:∀(k:Nat) (x:α) (A:mA S m e x),((k:Int) • AT.mk x A).1=Grp.pw m e x k:=λk x A=>n.zs_nat hN (n.inS A) k;have Y:∀a b:AT S m e,(a+b).1=m a.1 b.1:=λa b=>rfl;have neg1:∀a:AT S m e,(-a).1=la S m e a.1:=λa=>rfl;have zero1:(0:AT S m e).1=e:=rfl;have M:∀{x y:α},S x->S y->mA S m e (Grp.pw m e (iN S m e x y) h):=λA X=>n.gs.pw (mA.iN A X) h
 have Q:∀{a x:α},mA S m e a->S x->Grp.pw m e (Grp.pw m e (iN S m e a x) t) 12=iN S m e a x:=λ{a x} D A=>by
  rw[<-n.G.toMon.pw_mul (n.inS (n.cmi D A)),Nat.mul_comm t 12,n.tw12 D A]
 {mul:=λx y=>⟨m x.1 y.1,n.G.cl x.2 y.2⟩
  one:=⟨e,n.G.one⟩
  inv:=λx=>⟨la S m e x.1,(n.G.inv_in x.2).1⟩
  i:=λa=>⟨a.1,n.inS a.2⟩
  H:=λx y=>⟨Grp.pw m e (iN S m e x.1 y.1) h,M x.2 y.2⟩
  E:=λx a=>⟨Grp.pw m e (iN S m e a.1 x.1) t,n.gs.pw (n.cmi a.2 x.2) t⟩
  ac_:=λx y z=>GT.eq (n.G.as x.2 y.2 z.2)
  l1:=λx=>GT.eq (n.G.l1 x.2)
  r1:=λx=>GT.eq (n.G.r1 x.2)
  il:=λx=>GT.eq (n.G.inv_l x.2)
  ir:=λx=>GT.eq (n.G.inv_r x.2)
  i_add:=λa b=>rfl
  E_add:=λx a b=>AT.eq (by
   show Grp.pw m e (iN S m e (m a.1 b.1) x.1) t=m (Grp.pw m e (iN S m e a.1 x.1) t) (Grp.pw m e (iN S m e b.1 x.1) t);rw[n.com_A a.2 b.2 x.2,n.G.toMon.pw_cm (n.cen a.2 x.2).1 (n.cen b.2 x.2).1 ((n.cen a.2 x.2).2 _ (n.cen b.2 x.2).1)])
  E_mul:=λx y a=>AT.eq (by
   show Grp.pw m e (iN S m e a.1 (m x.1 y.1)) t=m (Grp.pw m e (iN S m e a.1 x.1) t) (Grp.pw m e (iN S m e a.1 y.1) t);rw[n.com_B a.2 x.2 y.2,n.G.toMon.pw_cm (n.cen a.2 x.2).1 (n.cen a.2 y.2).1 ((n.cen a.2 x.2).2 _ (n.cen a.2 y.2).1)])
  E_E:=λx y a=>AT.eq (by
   show Grp.pw m e (iN S m e (Grp.pw m e (iN S m e a.1 y.1) t) x.1) t=e;rw[n.G.com_cm_e (n.G.cm_pw (n.cen a.2 y.2) t) x.2,n.G.toMon.pw_e])
  E_i:=λa b=>AT.eq (by
   show Grp.pw m e (iN S m e b.1 a.1) t=e;rw[n.com0 b.2 a.2,n.G.toMon.pw_e])
  H_l:=λx y z=>AT.eq (by
   show Grp.pw m e (iN S m e (m x.1 y.1) z.1) h=m (m (Grp.pw m e (iN S m e x.1 z.1) h) (((12:Nat):Int) • AT.mk (Grp.pw m e (iN S m e (Grp.pw m e (iN S m e x.1 z.1) h) y.1) t) (n.gs.pw (n.cmi (M x.2 z.2) y.2) t)).1) (Grp.pw m e (iN S m e y.1 z.1) h);have l:=mA.iN (S:=S) (m:=m) (e:=e) x.2 z.2;have J:=n.cmi l y.2;have R:=mA.iN (S:=S) (m:=m) (e:=e) y.2 z.2;rw[sk,Q (n.gs.pw l h) y.2,n.com_pw l y.2,n.com3 x.2 y.2 z.2,n.G.toMon.pw_cm (n.inS (n.gs.cl l J)) (n.inS R) (n.cmA (n.gs.cl l J) R),n.G.toMon.pw_cm (n.inS l) (n.inS J) (n.cmA l J)])
  H_swap:=λx y=>AT.eq (by
   show Grp.pw m e (iN S m e y.1 x.1) h=la S m e (Grp.pw m e (iN S m e x.1 y.1) h);rw[n.G.com_swap x.2 y.2,n.G.pw_inv (n.G.com_in x.2 y.2)])
  H_i:=λa y=>AT.eq (by
   show Grp.pw m e (iN S m e a.1 y.1) h=(((6:Nat):Int) • AT.mk (Grp.pw m e (iN S m e a.1 y.1) t) (n.gs.pw (n.cmi a.2 y.2) t)).1;have c:=n.cmi a.2 y.2;have V:=n.gs.pw c t;rw[sk];refine n.half_inj (n.gs.pw c h) (n.gs.pw V 6) ?_;rw[n.half2 c,<-n.G.toMon.pw_add (n.inS V),Q a.2 y.2])
  cm:=λx y=>GT.eq (by
   show m x.1 y.1=m (m y.1 x.1) (((2:Nat):Int) • AT.mk (Grp.pw m e (iN S m e x.1 y.1) h) (M x.2 y.2)).1;have l:=mA.iN (S:=S) (m:=m) (e:=e) x.2 y.2;rw[sk,<-n.G.toMon.pw_mul (n.inS l),Nat.mul_comm,n.half _ l,n.G.com_spec x.2 y.2])
  past:=λa x=>GT.eq (by
   show m a.1 x.1=m x.1 (m a.1 (((12:Nat):Int) • AT.mk (Grp.pw m e (iN S m e a.1 x.1) t) (n.gs.pw (n.cmi a.2 x.2) t)).1);rw[sk,Q a.2 x.2,<-n.G.as x.2 (n.inS a.2) (n.inS (n.cmi a.2 x.2)),n.G.com_spec (n.inS a.2) x.2])
  t2:=λa D=>AT.eq (by
   have G:(((2:Nat):Int) • a).1=e:=congrArg Subtype.val D;rw[sm]at G;have I:=n.half a.1 a.2;rw[n.G.toMon.pw_mul (n.inS a.2),G,n.G.toMon.pw_e]at I;exact I.symm)
  t3:=by
   rcases n.tw with w|w
   .exact .inr λx a=>AT.eq (by
     show Grp.pw m e (iN S m e a.1 x.1) t=e;rw[w _ _ a.2 x.2,n.G.toMon.pw_e])
   .exact .inl λa D=>AT.eq (by
     have G:(((3:Nat):Int) • a).1=e:=congrArg Subtype.val D;rw[sm]at G;have I:=w a.1 a.2;rw[show 12*t=3*(4*t) by omega,n.G.toMon.pw_mul (n.inS a.2),G,n.G.toMon.pw_e]at I;exact I.symm) }
end
section
variable{α:Type}[Inhabited α]{S:α->Prop}{m:α->α->α}{e:α}{a b x y z:α}
def gam_e(G:Gp S m e)(h:∀x y,S x->S y->iN S m e x y=e)(D:mA S m e a):a=e:=by
 refine D (λa=>a=e) ⟨λh=>by rw[h];exact G.one,rfl,λ{x y} l A=>by rw[l,A,G.l1 G.one],λ{x} l=>by rw[l];exact G.inv_one⟩ λx y l A=>h x y l A
def gam_c(G:Gp S m e)(h:∀x y z,S x->S y->S z->iN S m e (iN S m e x y) z=e)(A:mA S m e a)(l:S x):iN S m e a x=e:=by
 have key:S a/\∀x,S x->iN S m e a x=e:=by
  refine A (λa=>S a/\∀x,S x->iN S m e a x=e) ⟨λh=>h.1,⟨G.one,λx l=>G.com_one l⟩,λ{a b} A D=>⟨G.cl A.1 D.1,λx l=>?_⟩,λ{a} A=>⟨(G.inv_in A.1).1,λx l=>?_⟩⟩ λx y l E=>⟨G.com_in l E,λz H=>h x y z l E H⟩
  .rw[G.com_mul A.1 D.1 l,A.2 x l,G.cnj_one D.1,D.2 x l,G.l1 G.one]
  .rw[G.com_inv A.1 l (by rw[A.2 x l];exact G.cm_e),A.2 x l,G.inv_one]
 exact key.2 x l
end
end Go.Grp
namespace Go.Proofs
open Go.Ab Go.Lie Go.Grp
variable{O x y z:V1}{P:V2}{C:V3}
def LG.expo(g:LG O P C):∃N:Nat,0<N/\(∀x,gS O x->Grp.pw (gm O P C) (zv O) x N=zv O)/\(0<Lu O->(N:Int)=at_ O 0 ^ (Lu O)):=by
 rcases YG 0 (Lu O) with h0|h0
 .have hp:=(g.isp h0).bd;have E:=g.bound h0 (na (Lu O));have G:(((at_ O 0).toNat ^ (Lu O):Nat):Int)=at_ O 0 ^ (Lu O):=by
   rw[Int.natCast_pow,YD af]
  refine⟨(at_ O 0).toNat ^ (Lu O),?_,λx l=>?_,λ_=>G⟩
  .have:=E.1
   omega
  .have eW:∀i,i<=Lu O->TT O i (Grp.pw (gm O P C) (zv O) x ((at_ O 0).toNat ^ i)):=by
    intro i H
    induction i with
    |zero=>rw[Nat.pow_zero,g.F.g.toMon.pw_one l];exact l
    |succ i ih=>
     have:=zAR g.s g.F g.cent (show i<(Lu O) by omega) (ih af)
     rw[g.eq (show i<(Lu O) by omega),<-g.F.g.toMon.pw_mul l]at this;rw[Nat.pow_succ];exact this
   exact(eW _ (na _)).ext (g.s.zv _) λj A D=>by omega
 .refine⟨1,af,λx l=>?_,λh=>af⟩;rw[g.F.g.toMon.pw_one l];exact l.ext (g.s.zv _) λj A D=>by omega
def LG.nh(g:LG O P C)(k:jq O P C):∃N h t:Nat,0<N/\NH (gS O) (gm O P C) (zv O) N h t:=by
 have G:=g.F.g;obtain⟨N,hN,hex,R⟩:=g.expo;have I:Grp.C3 (gS O) (gm O P C) (zv O):=λx y z A D M=>QE g k A D M;have At:(∀x y,gS O x->gS O y->dM O P C x y=zv O)->∃N h t:Nat,0<N/\NH (gS O) (gm O P C) (zv O) N h t:=λh=>
  ⟨N,0,0,hN,G,I,hex,λa l=>(gam_e G h l).symm,.inl λa x l A=>by rw[gam_e G h l];exact G.com_one A⟩
 have E:∀{a},mA (gS O) (gm O P C) (zv O) a->gS O a:=λh=>(mA.sub G).inS h;rcases YG 0 (Lu O) with h0|h0
 .have hn:=R h0;have hb:=(g.bound h0 (na (Lu O))).2;have inv:∀{c:Int},OkC (at_ O 0) c->(c=2\/c=12)->∃y:Nat,∀a,gS O a->Grp.pw (gm O P C) (zv O) a (c.toNat*y)=a:=λ{c} X Z=>by
   obtain⟨Y,V⟩:=zDG X hn af (c:=c) af;have b1:=Y3 Y (show(N:Int)≠0 by omega);refine⟨(Y % (N:Int)).toNat,λa l=>(zBr g.F l (hex a l) ?_).trans (G.toMon.pw_one l)⟩;rw[Uj,YD b1,YD (af:0<=c),Uw,UK _ (Uk _),<-Uw];exact V
  rcases k with k|⟨k,k1,Q⟩
  .rw[k]at h0;simp at h0
  .rcases g.isp h0 with e|e|e|e
   .exact At λx y A D=>Z6 g.s g.F Q af A D
   .obtain⟨h,H⟩:=inv (.inr (.inr ⟨e,.inl rfl⟩)) (.inl rfl);exact⟨N,h,0,hN,G,I,hex,λa l=>H a (E l),.inl λa x l A=>gam_c G (λx y z A D M=>zCi g.s g.F Q af A D M) l A⟩
   .obtain⟨h,H⟩:=inv (.inl e) (.inl rfl);obtain⟨t,J⟩:=inv (.inl e) (.inr rfl);exact⟨N,h,t,hN,G,I,hex,λa l=>H a (E l),.inr λa l=>J a (E l)⟩
   .obtain⟨h,H⟩:=inv (.inr (.inl e)) (.inl rfl);obtain⟨t,J⟩:=inv (.inr (.inl e)) (.inr rfl);exact⟨N,h,t,hN,G,I,hex,λa l=>H a (E l),.inr λa l=>J a (E l)⟩
 .exact At λx y A D=>(G.com_in A D).ext (g.s.zv _) λj h1 h2=>by omega
end Go.Proofs
namespace Go.Grp
open Go.Im
variable{N h t:Nat}
section
variable{α:Type}[Inhabited α]{S:α->Prop}{m:α->α->α}{e:α}{a b x y:α}
section
variable(n:NH S m e N h t)(hN:0<N)
include n
theorem NH.sk(k:Nat)(x:α)(l:mA S m e x):letI:=n.part hN;((k:Int) • AT.mk x l).1=Grp.pw m e x k:=n.zs_nat hN (n.inS l) k
theorem NH.com_same(l:S x)(A:S y)(D:m x y=m y x):iN S m e x y=e:=(n.G.com_eq l A n.G.one (by rw[n.G.r1 (n.G.cl A l),D])).symm
theorem NH.add_one_(x y:GT S)(l:m x.1 y.1=m y.1 x.1):letI:=n.part hN;((n.dW hN).add x y).1=m x.1 y.1:=by
 letI:=n.part hN
 have A:(n.dW hN).H x y=0:=AT.eq (by
  show Grp.pw m e (iN S m e x.1 y.1) h=e;rw[n.com_same x.2 y.2 l,n.G.toMon.pw_e])
 have D:(n.dW hN).f x y=0:=by
  unfold Go.Nl.Nil3.f;rw[A,Go.Nl.Nil3.tI,Go.Nl.Nil3.tI];exact Go.Im.gr []
 unfold Go.Nl.Nil3.add;rw[D];exact n.G.r1 (n.G.cl x.2 y.2)
@[instance_reducible] noncomputable def NH.ring:lM (GT S):=
 letI:=n.part hN
 {zero:=(n.dW hN).one
  add:=(n.dW hN).add
  add_zero:=(n.dW hN).add_one
  add_comm:=(n.dW hN).add_comm
  add_assoc:=(n.dW hN).add_assoc
  neg:=(n.dW hN).inv
  sub:=λa b=>(n.dW hN).add a ((n.dW hN).inv b)
  neg_add_cancel:=λa=>((n.dW hN).add_comm _ _).trans ((n.dW hN).add_inv a)
  sub_eq_add_neg:=λa b=>rfl
  smul:=λk a=>⟨zs m e N k a.1,n.G.toMon.pw a.2 _⟩
  zero_zsmul:=λa=>GT.eq (by show zs m e N ((0:Nat):Int) a.1=e;rw[n.zs_nat hN a.2];rfl)
  one_zsmul:=λa=>GT.eq (by show zs m e N ((1:Nat):Int) a.1=a.1;rw[n.zs_nat hN a.2,n.G.toMon.pw_one a.2])
  add_zsmul:=λj k a=>GT.eq (by
   have l:=n.add_one_ hN ⟨zs m e N j a.1,n.G.toMon.pw a.2 _⟩ ⟨zs m e N k a.1,n.G.toMon.pw a.2 _⟩ (by
    show m (zs m e N j a.1) (zs m e N k a.1)=m (zs m e N k a.1) (zs m e N j a.1);rw[<-n.zs_add hN a.2,<-n.zs_add hN a.2,Int.add_comm])
   refine Eq.trans ?_ l.symm;exact n.zs_add hN a.2 j k) }
end
end
end Go.Grp
namespace Go.Proofs
open Go.Ab Go.Lie Go.Grp
variable{N h t:Nat}{O x y z:V1}{P:V2}{C:V3}
section
variable{w:V1}
def rts12(F:Full O P C (Lu O))(l:gS O z)(h:Rt O P C z 12 w):Grp.pw (gm O P C) (zv O) w 12=z:=by
 have G:=F.g;rcases h with ⟨rfl,rfl⟩|⟨E,j,y,n,H,A,D,rfl⟩
 .exact G.toMon.pw_e _
 .rw[<-G.toMon.pw_mul l];refine(zBr F l A ?_).trans (G.toMon.pw_one l);rw[show((y*12:Nat):Int)=12*y by omega,D];rfl
section
variable(g:LG O P C)(k:jq O P C)(n:NH (gS O) (gm O P C) (zv O) N h t)(hN:0<N)
include g n
theorem zLz(l:mA (gS O) (gm O P C) (zv O) z)(A:Rt O P C z 2 (rt O P C z 2)):rt O P C z 2=Grp.pw (gm O P C) (zv O) z h:=by
 have D:=n.inS l;obtain⟨j,E⟩:=rtp g.F D A;have G:mA (gS O) (gm O P C) (zv O) (rt O P C z 2):=by rw[E];exact n.gs.pw l j
 exact n.half_inj G (n.gs.pw l h) (by rw[rts g.F D A,n.half2 l])
theorem rt_12(D:mA (gS O) (gm O P C) (zv O) z)(Q:mA (gS O) (gm O P C) (zv O) y)(M:gS O x)(I:z=dM O P C y x)(A:Rt O P C z 12 (rt O P C z 12)):rt O P C z 12=Grp.pw (gm O P C) (zv O) z t:=by
 have H:=n.inS D;have G:=n.G;obtain⟨j,J⟩:=rtp g.F H A;have E:mA (gS O) (gm O P C) (zv O) (rt O P C z 12):=by rw[J];exact n.gs.pw D j
 have R:=rts12 g.F H A;rcases n.tw with h1|h1
 .have z0:z=zv O:=by rw[I];exact h1 y x Q M
  rcases A with ⟨_,l⟩|⟨l,_⟩
  .rw[l,z0,G.toMon.pw_e]
  .exact absurd z0 l
 .have l:=h1 _ E;rw[G.toMon.pw_mul (n.inS E),R]at l;exact l.symm
include k
theorem zSH(x y:GT (gS O)):letI:=n.part hN;((n.dW hN).add x y).1=tu O P C x.1 y.1:=by
 letI:=n.part hN
 have G:=n.G;have l:=mA.iN (S:=gS O) (m:=gm O P C) (e:=zv O) x.2 y.2;have A:=n.inS l;have I:=QE g k x.2 y.2 x.2;have J:=QE g k x.2 y.2 y.2;have r1:=zLz g n l (rT g A (ok2 g k x.2 y.2 (.inl rfl)) (.inl rfl));have r2:=rt_12 g n (n.cmi l x.2) l x.2 rfl (rT g I.1 (sn g k x.2 y.2 x.2) (.inr rfl));have r3:=rt_12 g n (n.cmi l y.2) l y.2 rfl (rT g J.1 (sn g k x.2 y.2 y.2) (.inr rfl));have V:(n.dW hN).f x y=- (n.dW hN).H x y+(n.dW hN).E x (AT.mk _ l)-(n.dW hN).E y (AT.mk _ l):=by
  have R:(2:Int) • (n.dW hN).H x y=AT.mk _ l:=AT.eq (by
   show(((2:Nat):Int) • AT.mk (Grp.pw (gm O P C) (zv O) (dM O P C x.1 y.1) h) (n.gs.pw l h)).1=dM O P C x.1 y.1
   rw[n.sk hN,<-G.toMon.pw_mul A,Nat.mul_comm,n.half _ l])
  rw[<-R,(n.dW hN).we,(n.dW hN).we];rfl
 unfold tu Go.Nl.Nil3.add;rw[V,r1,r2,r3];have X:=n.gs.pw l h;have D:=n.gs.pw (n.cmi l x.2) t;have M:=n.gs.pw (n.cmi l y.2) t;have E:=n.gs.inv X;have Q:=n.gs.inv M;show gm O P C (gm O P C x.1 y.1) (gm O P C (gm O P C (yJ O P C (Grp.pw (gm O P C) (zv O) (dM O P C x.1 y.1) h)) (Grp.pw (gm O P C) (zv O) (dM O P C (dM O P C x.1 y.1) x.1) t)) (yJ O P C (Grp.pw (gm O P C) (zv O) (dM O P C (dM O P C x.1 y.1) y.1) t)))=_;have H:=G.cl x.2 y.2;rw[<-G.as H (n.inS (n.gs.cl E D)) (n.inS Q),<-G.as H (n.inS E) (n.inS D)]
theorem zS6(x y:GT (gS O)):letI:=n.part hN;((n.dW hN).i ((n.dW hN).br x y)).1=gbr O P C x.1 y.1:=by
 letI:=n.part hN
 have G:=n.G;have l:=mA.iN (S:=gS O) (m:=gm O P C) (e:=zv O) x.2 y.2;have E:=n.inS l;have Q:=QE g k x.2 y.2 x.2;have R:=QE g k x.2 y.2 y.2;have A:(2:Int) • (n.dW hN).H x y=AT.mk _ l:=AT.eq (by
  show(((2:Nat):Int) • AT.mk (Grp.pw (gm O P C) (zv O) (dM O P C x.1 y.1) h) (n.gs.pw l h)).1=dM O P C x.1 y.1
  rw[n.sk hN,<-G.toMon.pw_mul E,Nat.mul_comm,n.half _ l])
 have r:∀w:GT (gS O),rt O P C (dM O P C (dM O P C x.1 y.1) w.1) 2=((12:Int) • (n.dW hN).E w ((n.dW hN).H x y)).1:=λw=>by
  have hw:=n.cmi l w.2;have M:=zLz g n hw (rT g (n.inS hw) (λD=>by
   rcases k with k|⟨k,X,J⟩
   .exact absurd (hw |> n.inS |> λh=>h.ext (g.s.zv _) λj V A=>by rw[k]at A;simp at A) D
   .have h9:=ZQ (n.inS hw) D;rcases g.isp h9 with e|e|e|e
    .exact absurd (Z6 g.s g.F J af E w.2) D
    .exact .inr (.inr ⟨e,.inl rfl⟩)
    .exact .inl e
    .exact .inr (.inl e)) (.inl rfl))
  rw[M];have H:(2:Int) • (12:Int) • (n.dW hN).E w ((n.dW hN).H x y)=AT.mk _ hw:=by
   rw[show(2:Int) • (12:Int) • (n.dW hN).E w ((n.dW hN).H x y)=(12:Int) • (2:Int) • (n.dW hN).E w ((n.dW hN).H x y) by exact Go.Im.gr [(n.dW hN).E w ((n.dW hN).H x y)],<-(n.dW hN).we,A];refine AT.eq ?_
   show(((12:Nat):Int) • AT.mk (Grp.pw (gm O P C) (zv O) (dM O P C (dM O P C x.1 y.1) w.1) t) (n.gs.pw hw t)).1=_
   rw[n.sk hN,<-G.toMon.pw_mul (n.inS hw),Nat.mul_comm,n.tw12 l w.2];rfl
  have I:=((12:Int) • (n.dW hN).E w ((n.dW hN).H x y)).2;refine n.half_inj (n.gs.pw hw h) I ?_;rw[n.half2 hw]
  have:=congrArg Subtype.val H
  refine this.symm.trans ?_;rw[show(2:Int) • (12:Int) • (n.dW hN).E w ((n.dW hN).H x y)=(12:Int) • (n.dW hN).E w ((n.dW hN).H x y)+(12:Int) • (n.dW hN).E w ((n.dW hN).H x y) by exact Go.Im.gr [(n.dW hN).E w ((n.dW hN).H x y)]];rfl
 unfold gbr Go.Nl.Nil3.br;rw[r x,r y,A];rfl
end
end
section
open Go.Im
structure LieOf(O:V1)(P:V2)(C:V3)[lM (GT (gS O))](β:GT (gS O)->GT (gS O)->GT (gS O)):Prop where
 sum1:∀x y:GT (gS O),(x+y).1=tu O P C x.1 y.1
 br1:∀x y,(β x y).1=gbr O P C x.1 y.1
 nat1:∀(k:Nat) (x:GT (gS O)),((k:Int) • x).1=Grp.pw (gm O P C) (zv O) x.1 k
 neg1:∀x:GT (gS O),(-x).1=yJ O P C x.1
 zero1:(0:GT (gS O)).1=zv O
 add_l:∀x y z,β (x+y) z=β x z+β y z
 swap:∀x y,β y x=- β x y
 self_:∀x,β x x=0
 yq:∀x y z,β (β x y) z+β (β y z) x+β (β z x) y=0
 b4:∀x y z w,β (β (β x y) z) w=0
 b3:at_ O 0=3->∀x y z,β (β x y) z=0
 b2:at_ O 0=2->∀x y,β x y=0
 mul:∀(x y:GT (gS O)) (j l:Int),(2:Int) • j • β x y=β x y->(12:Int) • l • (β x (β x y)+β y (β y x))=β x (β x y)+β y (β y x)->gm O P C x.1 y.1=(x+y+j • β x y+l • (β x (β x y)+β y (β y x))).1
variable{O:V1}{P:V2}{C:V3}{N h t:Nat}
def LG.lie(g:LG O P C)(k:jq O P C):∃(I:lM (GT (gS O))) (β:GT (gS O)->GT (gS O)->GT (gS O)),LieOf O P C β:=by
 obtain⟨N,h,t,hN,n⟩:=g.nh k;have G:=n.G
 letI A:=n.part hN
 letI I:=n.ring hN
 have H:(n.dW hN).i 0=(0:GT (gS O)):=(n.dW hN).Bb;have E:∀a b,(n.dW hN).i a+(n.dW hN).i b=(n.dW hN).i (a+b):=λa b=>(n.dW hN).add_ii a b;have Z:∀a,(n.dW hN).i (-a)=- (n.dW hN).i a:=λa=>by
  have D:=E a (-a);rw[show a + -a=0 by exact gr [a],H]at D;exact mq [(n.dW hN).i (-a),(n.dW hN).i a] D
 have J:∀(j:Int) a,(n.dW hN).i (j • a)=j • (n.dW hN).i a:=λj a=>rfl;refine⟨I,λx y=>(n.dW hN).i ((n.dW hN).br x y),zSH g k n hN,zS6 g k n hN,λj x=>n.zs_nat hN x.2 j,λx=>rfl,rfl,λx y z=>?_,λx y=>?_,λx=>?_,λx y z=>?_,λx y z w=>?_,λe x y z=>?_,λe x y=>?_,λx y j l D R=>?_⟩
 .rw[show(n.dW hN).br (x+y) z=(n.dW hN).br x z+(n.dW hN).br y z from(n.dW hN).br_add x y z,E]
 .rw[(n.dW hN).CA,Z]
 .rw[(n.dW hN).br_self,H]
 .rw[E,E,(n.dW hN).jacobi,H]
 .show(n.dW hN).i ((n.dW hN).br ((n.dW hN).i ((n.dW hN).br ((n.dW hN).i _) z)) w)=_
  rw[(n.dW hN).br3,H]
 .refine GT.eq ?_
  show((n.dW hN).i ((n.dW hN).br ((n.dW hN).i ((n.dW hN).br x y)) z)).1=zv O
  rcases YG 0 (Lu O) with h0|h0
  .rcases k with k|⟨k,k1,Y⟩
   .rw[k]at h0;simp at h0
   .rw[(n.dW hN).br_i];have Q:=((n.dW hN).br x y).2;have ce:dM O P C ((n.dW hN).br x y).1 z.1=zv O:=gam_c G (λx y z V X hz=>zCi g.s g.F Y af V X hz) Q z.2;have e0:(n.dW hN).E z ((n.dW hN).br x y)=0:=AT.eq (by
     show Grp.pw (gm O P C) (zv O) (dM O P C ((n.dW hN).br x y).1 z.1) t=zv O;rw[ce,G.toMon.pw_e])
    rw[e0,show(12:Int) • (0:AT (gS O) (gm O P C) (zv O))=0 by exact gr [],H];rfl
  .exact(Subtype.property _:gS O _).ext (g.s.zv _) λj D R=>by omega
 .refine GT.eq ?_;have Q:=((n.dW hN).br x y).2
  show((n.dW hN).br x y).1=zv O
  rcases YG 0 (Lu O) with h0|h0
  .rcases k with k|⟨k,k1,Y⟩
   .rw[k]at h0;simp at h0
   .exact gam_e G (λx y V X=>Z6 g.s g.F Y af V X) Q
  .exact(n.inS Q).ext (g.s.zv _) λj D R=>by omega
 .have q:=(n.dW hN).mul_eq x y (h:=j • (n.dW hN).br x y) (t:=l • ((n.dW hN).br x ((n.dW hN).i ((n.dW hN).br x y))+(n.dW hN).br y ((n.dW hN).i ((n.dW hN).br y x)))) (by rw[<-J,<-J]at D;have M:=congrArg Subtype.val D;exact AT.eq M) (AT.eq ?_) (λh0=>by rw[h0];exact Go.Im.zsmul_zero _)
  .refine(congrArg Subtype.val q).trans ?_;rw[E,<-J,<-J];rfl
  .have M:=congrArg Subtype.val R;simp only[E,<-J]at M;exact M
end
section
variable{w:V1}
def LG.head(g:LG O P C)(l:t<Lu O)(A:TT O t x)(D:TT O t y):TT O t (gm O P C x y)/\at_ (gm O P C x y) t=(at_ x t+at_ y t) % at_ O t:=by
 refine⟨tt_cl g.s g.F g.cent (Y8 l) A D,?_⟩;have E:=zE5 g.s g.cent (d:=(Lu O)) (na _) af l A (by rw[Yk];exact D.mono (YV _));refine E.2.trans ?_;exact zDm (A.bd t l) (D.bd t l)
def LG.deep(g:LG O P C)(A:t<Lu O)(D:TT O t x)(E:TT O (t+1) y):TT O t (gm O P C x y)/\at_ (gm O P C x y) t=at_ x t:=by
 obtain⟨G,H⟩:=g.head A D (E.mono (UW t));refine⟨G,?_⟩;have l:=D.bd t A;rw[H,E.zero t (YM t),UO,Ys l.1 l.2]
def LG.rt_tt(g:LG O P C)(E:t<=Lu O)(l:TT O t z){c:Int}(D:Rt O P C z c (rt O P C z c)):TT O t (rt O P C z c):=by
 obtain⟨j,A⟩:=rtp g.F (l.mono (YV _)) D;rw[A];exact uc.pw (zC1 g.s g.F g.cent E) l j
def LG.gsum_head(g:LG O P C)(k:jq O P C)(D:t<Lu O)(G:TT O t x)(H:TT O t y):TT O t (tu O P C x y)/\at_ (tu O P C x y) t=(at_ x t+at_ y t) % at_ O t:=by
 have A:=G.mono (YV t);have l:=H.mono (YV t);have E:=Qw g.s g.F g.cent D G l;have Q:=E.mono (YV _);have hN:=zC1 g.s g.F g.cent (show t+1<=(Lu O) by omega);have I:=hN.com_in g.F.g E A;have b1:=hN.com_in g.F.g E l;have J:=QE g k A l A;have M:=QE g k A l l;have r1:=g.rt_tt af E (rT g Q (ok2 g k A l (.inl rfl)) (.inl rfl));have r2:=g.rt_tt af I (rT g J.1 (sn g k A l A) (.inr rfl) (c:=12));have r3:=g.rt_tt af b1 (rT g M.1 (sn g k A l l) (.inr rfl) (c:=12));obtain⟨Z,R⟩:=g.head D G H;obtain⟨h1,V⟩:=g.deep D Z (hN.inv r1);obtain⟨h2,X⟩:=g.deep D h1 r2;obtain⟨h3,Y⟩:=g.deep D h2 (hN.inv r3);exact⟨h3,by rw[<-R,<-V,<-X,<-Y];rfl⟩
def LG.gbr_tt(g:LG O P C)(k:jq O P C)(Q:t<Lu O)(I:TT O t x)(D:gS O y):TT O (t+1) (gbr O P C x y):=by
 have M:=I.mono (YV t);have l:=Qw g.s g.F g.cent Q I D;have G:=l.mono (YV _);have hN:=zC1 g.s g.F g.cent (show t+1<=(Lu O) by omega);have E:=hN.com_in g.F.g l M;have b1:=hN.com_in g.F.g l D;have ok:∀{w},gS O w->(dM O P C (dM O P C x y) w≠zv O->OkC (at_ O 0) 2):=λ{w} J H=>by
  have A:=ZQ (g.F.g.com_in G J) H;rcases k with k|⟨k,V,R⟩
  .rw[k]at A;simp at A
  .rcases g.isp A with e|e|e|e
   .exact absurd (Z6 g.s g.F R af G J) H
   .exact .inr (.inr ⟨e,.inl rfl⟩)
   .exact .inl e
   .exact .inr (.inl e)
 have r2:=g.rt_tt af E (rT g (E.mono (YV _)) (ok M) (.inl rfl));have r3:=g.rt_tt af b1 (rT g (b1.mono (YV _)) (ok D) (.inl rfl));exact hN.cl (hN.cl l (hN.inv r2)) (hN.inv r3)
end
section
open Go.Im
section
variable{T:Type}[lM T]{β:T->T->T}{U:Nat->T}{p:Int}{n:Nat}{W:V2}{B:V3}{x y:V1}{f g:hK}
def lZ:Nat->(Nat->T)->T
 |0,_=>0
 |m+1,F=>lZ m F+F m
def Q6:∀{m:Nat} {F F':Nat->T},(∀i,i<m->F i=F' i)->lZ m F=lZ m F'
 |0,_,_,_=>rfl
 |m+1,F,F',h=>by rw[lZ,lZ,Q6 λi l=>h i af,h m af]
def zJM:∀(m:Nat) (F F':Nat->T),lZ m (λi=>F i+F' i)=lZ m F+lZ m F'
 |0,_,_=>by simp only[lZ];exact gr []
 |m+1,F,F'=>by simp only[lZ];rw[zJM m];exact gr [lZ m F,lZ m F',F m,F' m]
def zEC(k:Int):∀(m:Nat) (F:Nat->T),lZ m (λi=>k • F i)=k • lZ m F
 |0,_=>by simp only[lZ];exact(Go.Im.zsmul_zero k).symm
 |m+1,F=>by simp only[lZ];rw[zEC k m,Go.Im.zsmul_add]
def zCV:∀(m:Nat) {F:Nat->T},(∀i,i<m->F i=0)->lZ m F=0
 |0,_,_=>rfl
 |m+1,F,h=>by rw[lZ,zCV m λi l=>h i af,h m af];exact gr []
def zQI{m k:Nat}(A:k<m){F:Nat->T}(h:∀i,i<m->i≠k->F i=0):lZ m F=F k:=by
 induction m with
 |zero=>omega
 |succ m ih=>
  simp only[lZ];by_cases e:k=m
  .subst e;rw[zCV _ λi l=>h i af af];exact gr [F k]
  .rw[ih af λi l=>h i af,h m af af];exact gr [F k]
def ej(U:Nat->T)(n:Nat)(f:hK):T:=lZ n λi=>f i • U i
def Zr(h:∀i,i<n->f i=g i):ej U n f=ej U n g:=Q6 λi l=>by rw[h i l]
def zAM(f g:hK):ej U n (λj=>f j+g j)=ej U n f+ej U n g:=by
 unfold ej;rw[<-zJM];exact Q6 λi _=>Go.Im.add_zsmul _ _ _
def Zk(k:Int)(f:hK):ej U n (λj=>k*f j)=k • ej U n f:=by
 unfold ej;rw[<-zEC];exact Q6 λi _=>(Go.Im.mul_zsmul k (f i) (U i))
def QH(h:∀i,i<n->f i=0):ej U n f=0:=zCV n λi l=>by rw[h i l,Go.Im.zero_zsmul]
def zDW:∀(m:Nat) (F:Nat->hK),ej U n (λj=>jn m λk=>F k j)=lZ m λk=>ej U n (F k)
 |0,F=>QH λi _=>rfl
 |m+1,F=>by
  show ej U n (λj=>(jn m λk=>F k j)+F m j)=_;rw[zAM,zDW m F];rfl
def Qs{k:Nat}(l:k<n):ej U n (at_ (cD n k))=U k:=by
 unfold ej;rw[zQI l λi _ A=>by rw[zw l,DL A,Go.Im.zero_zsmul],zw l,DK rfl,Go.Im.one_zsmul]
structure lu(β:T->T->T)(U:Nat->T)(p:Int)(n:Nat)(W:V2)(B:V3):Prop where
 o:eT p n W
 q:lS p n B
 add_l:∀x y z,β (x+y) z=β x z+β y z
 swap:∀x y,β y x=- β x y
 self_:∀x,β x x=0
 W1:∀i,i<n->ej U n (at_ (W.getD i []))=p • U i
 B1:∀i j,i<n->i+1+j<n->ej U n (at_ ((B.getD i []).getD j []))=β (U i) (U (i+1+j))
variable(v:lu β U p n W B)
include v
theorem lu.rel{i:Nat}(l:i<n):ej U n (Go.Lie.rel p W i)=0:=by
 have h:=v.W1 i l;have e:ej U n (at_ (W.getD i []))=ej U n (Go.Lie.rel p W i)+p • U i:=by
  rw[<-Qs (U:=U) l,<-Zk,<-zAM];refine Zr λj A=>?_;show w_ W i j=(w_ W i j-if j=i then p else 0)+p*at_ (cD n i) j;rw[zw l];split<;>grind
 rw[e]at h;exact mq [ej U n (Lie.rel p W i),p • U i] h
theorem lu.eqv(h:dq p n W f g):ej U n f=ej U n g:=by
 obtain⟨c,l⟩:=h;rw[Zr (f:=f) (g:=λj=>g j+jn n λi=>c i*Go.Lie.rel p W i j) λj _=>l j,zAM,zDW,zCV n λi A=>?_]
 .exact gr [ej U n g]
 .rw[Zk,v.rel A,Go.Im.zsmul_zero]
theorem lu.norm{a:V1}(l:(Lu a)=n):ej U n (at_ (Go.Lie.norm p W a))=ej U n (at_ a):=v.eqv (qU v.o l)
theorem lu.add{a b:V1}(l:El p n a)(A:El p n b):ej U n (at_ (j3 p W a b))=ej U n (at_ a)+ej U n (at_ b):=by
 rw[v.eqv (qZ v.o l A),zAM]
theorem lu.mul{a:V1}(l:El p n a)(k:Int):ej U n (at_ (ed p W k a))=k • ej U n (at_ a):=by
 rw[v.eqv (qK v.o l k),Zk]
theorem lu.z_l(y:T):β 0 y=0:=by
 have:=v.add_l 0 0 y
 rw[show(0:T)+0=0 by exact gr []]at this;exact mq [β 0 y] this.symm
theorem lu.neg_l(x y:T):β (-x) y=- β x y:=by
 have:=v.add_l x (-x) y
 rw[show x + -x=0 by exact gr [x],v.z_l]at this;exact mq [β (-x) y,β x y] this.symm
theorem lu.nat_l(x y:T):∀k:Nat,β ((k:Int) • x) y=(k:Int) • β x y
 |0=>by
  show β ((0:Int) • x) y=(0:Int) • β x y;rw[Go.Im.zero_zsmul,Go.Im.zero_zsmul,v.z_l]
 |k+1=>by
  rw[Um,Go.Im.add_zsmul,Go.Im.add_zsmul,v.add_l,lu.nat_l x y k,Go.Im.one_zsmul,Go.Im.one_zsmul]
theorem lu.smul_l(k:Int)(x y:T):β (k • x) y=k • β x y:=by
 rcases If k with ⟨m,rfl|rfl⟩
 .exact v.nat_l x y m
 .rw[Go.Im.neg_zsmul,Go.Im.neg_zsmul,v.neg_l,v.nat_l]
theorem lu.smul_r(k:Int)(x y:T):β x (k • y)=k • β x y:=by
 rw[v.swap (k • y) x,v.smul_l,v.swap x y,Go.Im.zsmul_neg];exact gr [k • β x y]
theorem lu.sum_l(y:T):∀(m:Nat) (F:Nat->T),β (lZ m F) y=lZ m λk=>β (F k) y
 |0,_=>v.z_l y
 |m+1,F=>by simp only[lZ];rw[v.add_l,lu.sum_l y m F]
theorem lu.sum_r(y:T)(m:Nat)(F:Nat->T):β y (lZ m F)=lZ m λk=>β y (F k):=by
 rw[v.swap (lZ m F) y,v.sum_l,show(λk=>β y (F k))=λk=>(-1:Int) • β (F k) y by funext k;rw[v.swap (F k) y];exact gr [β (F k) y],zEC];exact gr [lZ m λk=>β (F k) y]
end
end
section
open Go.Im
section
variable{T:Type}[lM T]{β:T->T->T}{U:Nat->T}{p:Int}{n:Nat}{W:V2}{B:V3}{x y:V1}{f g:hK}
def zPo{k l:Nat}(G:k+1+l<n)(t:Nat):fh B n (at_ (cD n k)) (at_ (cD n (k+1+l))) t=at_ ((B.getD k []).getD l []) t:=by
 unfold fh;rw[Qq (k:=k) af λi E A=>qQ _ λj D=>?_,Qq (k:=l) af λj D A=>?_]
 .rw[zw af,zw af,zw af,zw af,DK rfl,DK rfl,DL af];grind
 .rw[zw af,zw af,zw af,zw af,DK rfl,DL af,DL af];grind
 .rw[zw af,zw af,zw af,zw af,DL A];by_cases e:i+1+j=k
  .rw[DK e,DL (show ¬i=k+1+l by omega)];grind
  .rw[DL e];grind
variable(v:lu β U p n W B)
include v
theorem lu.uu{k l:Nat}(D:k<n)(E:l<n):ej U n (fh B n (at_ (cD n k)) (at_ (cD n l)))=β (U k) (U l):=by
 have lt:∀{k l},k<l->l<n->ej U n (fh B n (at_ (cD n k)) (at_ (cD n l)))=β (U k) (U l):=λ{k l} G A=>by
  obtain⟨j,rfl⟩:∃j,l=k+1+j:=⟨l-k-1,af⟩
  rw[<-v.B1 k j af A];exact Zr λt _=>zPo A t
 rcases Eo k l with h|rfl|h
 .exact lt h E
 .rw[v.self_];refine QH λt _=>?_
  have:=zf (B:=B) (n:=n) (at_ (cD n k)) (at_ (cD n k)) t
  omega
 .rw[v.swap (U l) (U k),<-lt h D,Zr (g:=λt=>-1*fh B n (at_ (cD n l)) (at_ (cD n k)) t) λt _=>zf _ _ t,Zk];exact gr [ej U n (fh B n (at_ (cD n l)) (at_ (cD n k)))]
theorem lu.fh(f g:hK):ej U n (Go.Proofs.fh B n f g)=β (ej U n f) (ej U n g):=by
 have E:∀k,k<n->ej U n (Go.Proofs.fh B n (at_ (cD n k)) g)=β (U k) (ej U n g):=λk A=>by
  rw[Zr (g:=λt=>jn n λl=>g l*Go.Proofs.fh B n (at_ (cD n k)) (at_ (cD n l)) t) λt _=>zBX _ _ t,zDW];unfold ej;rw[v.sum_r];refine Q6 λl G=>?_
  have:=Zk (U:=U) (n:=n) (g l) (Go.Proofs.fh B n (at_ (cD n k)) (at_ (cD n l)))
  unfold ej at this;rw[this,v.smul_r];have D:=v.uu A G;unfold ej at D;rw[D]
 rw[Zr (g:=λt=>jn n λk=>f k*Go.Proofs.fh B n (at_ (cD n k)) g t) λt _=>zHQ _ _ t,zDW]
 conv=>rhs;rw[ej]
 rw[v.sum_l];refine Q6 λk A=>?_;rw[Zk,v.smul_l,E k A]
theorem lu.br(a b:V1):ej U n (at_ (Go.Proofs.br p W B n a b))=β (ej U n (at_ a)) (ej U n (at_ b)):=by
 rw[v.norm (qc v.q),<-v.fh];exact Zr λt _=>zDl v.q a b t
variable(inj:∀x y:V1,El p n x->El p n y->ej U n (at_ x)=ej U n (at_ y)->x=y)
include inj
theorem lu.zero(l:El p n x)(h:ej U n (at_ x)=0):mw x:=by
 have e:=inj x (Ep n 0) l (ZB v.o.pr) (by rw[h,QH λi _=>zb n i]);rw[e];intro y A;exact Yi A
theorem lu.noFault(yq:∀x y z,β (β x y) z+β (β y z) x+β (β z x) y=0):ZF p W B n:=by
 refine⟨λi j D G=>?_,λi j k E I H=>?_⟩
 .have h1:=ey (a:=cD n i) (b:=cD n j) v.o v.q;refine inj _ _ (zK v.o h1 h1) (ey v.o v.q) ?_;rw[v.mul h1,v.br,v.br,v.W1 i D,v.smul_l,Qs D]
 .have e1:=ey (B:=B) (a:=Go.Proofs.br p W B n (cD n i) (cD n j)) (b:=cD n k) v.o v.q;have l:=ey (B:=B) (a:=Go.Proofs.br p W B n (cD n j) (cD n k)) (b:=cD n i) v.o v.q;have A:=ey (B:=B) (a:=Go.Proofs.br p W B n (cD n k) (cD n i)) (b:=cD n j) v.o v.q;refine v.zero inj (zK v.o (zK v.o e1 l) A) ?_;rw[v.add (zK v.o e1 l) A,v.add e1 l,v.br,v.br,v.br,v.br,v.br,v.br];exact yq _ _ _
end
end
end Go.Proofs
namespace Go.Lie
open Go.Ab
variable{p:Int}{n:Nat}{x:V1}{L W u:V2}
def zJ5(l:ki p n W L (at_ x))(f:hK):ki p n W (x::L) f↔ki p n W L f:=
 ⟨ZM λv hv=>by
  rcases YH.1 hv with rfl|hv
  .exact l
  .exact zY hv,zg λv hv=>Yt _ hv⟩
def zKQ(o:eT p n W)(l:Canon p n W L u)(A:ki p n W L (at_ x)):∃out,Canon p n W (x::L) out:=⟨u,l.trans λf=>zJ5 A f⟩
def zIU(o:eT p n W)(E:p=2\/p=3\/p=5\/p=7)(G:Canon p n W L u):∀(j:Nat) {x:V1},El p n x->ki p n W L (λi=>nD p j*at_ x i)->∃out,Canon p n W (x::L) out
 |0,x,hx,h=>zKQ o G ((zO L).eqv _ _ (dq.of_eq λi=>by show at_ x i=1*at_ x i;omega) h)
 |j+1,x,hx,h=>by
  obtain⟨H,l⟩:=ZT o hx p;generalize Go.Lie.norm p W (eX p x 0 x)=y at H l;obtain⟨out,A⟩:=zIU o E G j H ((zO L).eqv _ _ ((l.mul (nD p j)).trans (dq.of_eq λi=>by show nD p j*(p*at_ x i)=p*nD p j*at_ x i;grind)) h);have I:ki p n W (y::L) λi=>p*at_ x i:=(zO _).eqv _ _ l.symm (zY aK);have key:∃out,Canon p n W (x::y::L) out:=by
   by_cases D:∀i,at_ (iW p W out x) i=0
   .exact zKQ o A ((A.gen _).2 ((zL0 o A.base hx).1 D))
   .obtain⟨w,hw,_⟩:=zP6 o E A hx I D;exact⟨w,hw⟩
  obtain⟨w,hw⟩:=key;refine⟨w,hw.trans λf=>⟨zg λv hv=>?_,ZM λv hv=>?_⟩⟩
  .rcases YH.1 hv with rfl|hv
   .simp
   .simp[hv]
  .rcases YH.1 hv with rfl|hv
   .exact zY aK
   .rcases YH.1 hv with rfl|hv
    .exact(zO _).eqv _ _ l ((zO _).mul p _ (zY aK))
    .exact zY (by simp[hv])
def zIW(o:eT p n W)(l:p=2\/p=3\/p=5\/p=7):∀{L:V2},(∀v∈L,El p n v)->∃u,Canon p n W L u
 |[],_=>⟨[],.nil,List.Pairwise.nil,λf=>Iff.rfl⟩
 |x::L,h=>by
  obtain⟨u,E⟩:=zIW o l λv G=>h v (Yt _ G);have A:=h x aK;exact zIU o l E n A ((zO L).eqv _ _ (Qv o λj D=>A.beyond D) (zO L).zero)
end Go.Lie
namespace Go.Proofs
open Go.Ab Go.Lie Go.Grp
variable{p:Int}{c n t:Nat}{σ:cg}{vB vC vO vP vQ:PV}{K:PV->cg->Prop}{O x y z:V1}{P W:V2}{B C:V3}
section
open Go.Im
variable{f g:hK}
def zGp(o:eT p n W)(q:lS p n B)(l:jF p):∀k,∃u,wV p n W B k u
 |0=>⟨_,.zero⟩
 |k+1=>by
  obtain⟨u,A⟩:=zGp o q l k;obtain⟨v,D⟩:=zIW o l (zDO o q u (jg n));exact⟨v,.succ A D⟩
def zTI(o:eT p n W)(q:lS p n B)(G:jF p):∃c,Cls p n W B c:=by
 have hex:∃k,wV p n W B k []:=by
  obtain⟨u,l⟩:=zGp o q G (n+1)
  have:u=[]:=Classical.byContradiction λh=>by have:=l.le o q h;omega
  exact⟨_,this ▸ l⟩
 have least:∀m k,k<=m->wV p n W B k []->∃c,Cls p n W B c:=by
  intro m
  induction m with
  |zero=>
   intro k A h
   have:k=0:=af
   subst this;exact⟨0,h,λk u A=>af⟩
  |succ m ih=>
   intro k A h;by_cases hs:∃j,j<k/\wV p n W B j []
   .obtain⟨j,H,D⟩:=hs;exact ih j af D
   .exact⟨k,h,λj u E l e=>hs ⟨j,E,e ▸ l⟩⟩
 obtain⟨k,h⟩:=hex;exact least k k (na _) h
def Cls.le_of{c k:Nat}(h:Cls p n W B c)(l:wV p n W B k []):c<=k:=by
 rcases YG k c with x|x
 .exact absurd rfl (h.2 k _ x l)
 .exact x
section
variable{T:Type}[lM T]{β:T->T->T}{U:Nat->T}
def RZ(β:T->T->T):Nat->T->Prop
 |0,a=>a=0
 |m+1,a=>∀y,RZ β m (β a y)
variable(v:lu β U p n W B)
include v
theorem lu.rz_add:∀(m:Nat) {a b:T},RZ β m a->RZ β m b->RZ β m (a+b)
 |0,a,b,ha,hb=>by show a+b=0;rw[show a=0 from ha,show b=0 from hb];exact gr []
 |m+1,a,b,ha,hb=>λy=>by rw[v.add_l];exact lu.rz_add m (ha y) (hb y)
theorem lu.rz_mul(k:Int):∀(m:Nat) {a:T},RZ β m a->RZ β m (k • a)
 |0,a,ha=>by show k • a=0;rw[show a=0 from ha,Go.Im.zsmul_zero]
 |m+1,a,ha=>λy=>by rw[v.smul_l];exact lu.rz_mul k m (ha y)
theorem lu.rz_zero:∀m,RZ β m 0
 |0=>rfl
 |m+1=>λy=>by rw[v.z_l];exact lu.rz_zero m
theorem lu.rz_sub(m:Nat):pY p n W λf=>RZ β m (ej U n f) where
 zero:=by rw[QH λi _=>rfl];exact v.rz_zero m
 add f g hf hg:=by rw[zAM];exact v.rz_add m hf hg
 mul k f hf:=by rw[Zk];exact v.rz_mul k m hf
 eqv f g h hg:=by rw[v.eqv h];exact hg
theorem lu.low{m:Nat}(A:∀a,RZ β m a):∀{k:Nat} {u:V2},k<=m->wV p n W B k u->∀x∈u,RZ β (m-k) (ej U n (at_ x))
 |0,_,_,h=>λx _=>A _
 |k+1,out,hk,h=>λx D=>by
  cases h with
  |succ h hc=>
   rename_i u;refine zEb (v.rz_sub (m-(k+1))) (λw hw=>?_) ((hc.gen _).2 (zY D));obtain⟨y,E,hw⟩:=UD.1 hw;obtain⟨e,G,rfl⟩:=YI.1 hw;have l:=lu.low A af h y E;rw[show m-k=m-(k+1)+1 by omega]at l;show RZ β _ (ej U n (at_ (Go.Proofs.br p W B n y e)));rw[v.br];exact l _
theorem lu.lz(inj:∀x y:V1,El p n x->El p n y->ej U n (at_ x)=ej U n (at_ y)->x=y)(yq:∀x y z,β (β x y) z+β (β y z) x+β (β z x) y=0)
  (X:∀x y z w,β (β (β x y) z) w=0) (V:p=3->∀x y z,β (β x y) z=0) (R:p=2->∀x y,β x y=0) (G:jF p) (hw:fG p n<=729):∃c,Lz p n W B c:=by
 obtain⟨c,M⟩:=zTI v.o v.q G;refine⟨c,⟨v.o,v.q,v.noFault inj yq,M⟩,G,?_,hw⟩;have top:∀m:Nat,(∀a,RZ β m a)->c<=m:=λm Q=>by
  obtain⟨u,A⟩:=zGp v.o v.q G m;have l:u=[]:=by
   cases m with
   |zero=>
    have Y:∀a:T,a=0:=Q;refine Classical.byContradiction λH=>?_;obtain⟨x,t,e⟩:=Il H;have D:x∈u:=by rw[e];simp
    have Z:=(A.els v.o).1 x D;cases A with
    |zero=>
     have l:0<n:=by
      rcases F4 n with h|h
      .subst h;simp[jg]at D
      .exact h
     have I:=v.zero inj (zQ (n:=n) v.o.pr l) (Y _)
     have:=I (at_ (cD n 0) 0) (by rw[dp (by rw[(zQ (n:=n) v.o.pr l).1];exact l)];exact YZ _)
     rw[zw l,DK rfl]at this;omega
   |succ m=>
    refine Classical.byContradiction λH=>?_;obtain⟨x,t,e⟩:=Il H;have D:x∈u:=by rw[e];simp
    have J:=v.low Q (na _) A x D;rw[Yk]at J;cases A with
    |succ h sH=>
     have E:=sH.base.led x D;have I:=v.zero inj E.1 J
     have:=I (at_ x (cX x)) (by rw[dp (by rw[E.1.1];exact E.2.1)];exact YZ _)
     rw[E.2.2]at this;omega
  rw[l]at A;exact M.le_of A
 rcases G with e|e|e|e
 .have:=top 1 λa y=>R e a y
  omega
 .have:=top 2 λa y z=>V e a y z
  omega
 all_goals
  have:=top 3 λa y z w=>X a y z w
  omega
end
end
section
variable{s:Nat}
def LGR(p:Int)(W:V2)(B:V3)(O:V1)(P:V2)(C:V3)(c:Int):Prop:=
 (AS p W B [] c/\c≠0/\O=[]/\P=[]/\C=[])\/(AS p W B [] 0/\c=0/\O=Ep (Lu W) p/\P=jo p (Lu W) W B (Lu W)/\C=jm p (Lu W) W B (Lu W))
def LGR.unique{V:V1}{X:V2}{R:V3}{c Y:Int}(h:LGR p W B O P C c)(g:LGR p W B V X R Y):(O=V/\P=X/\C=R)/\c=Y:=by
 rcases h with ⟨A,I,J,M,Q⟩|⟨A,I,J,M,Q⟩<;>rcases g with ⟨l,D,E,G,H⟩|⟨l,D,E,G,H⟩
 .exact⟨⟨by rw[J,E],by rw[M,G],by rw[Q,H]⟩,A.unique l⟩
 .exact absurd (A.unique l) I
 .exact absurd (l.unique A) D
 .exact⟨⟨by rw[J,E],by rw[M,G],by rw[Q,H]⟩,by rw[I,D]⟩
def lg_bd{c:Int}(h:LGR p W B O P C c):SzP O P C:=by
 rcases h with ⟨_,_,rfl,rfl,rfl⟩|⟨A,_,rfl,rfl,rfl⟩
 .exact⟨aK,⟨aK,λy l=>by cases l⟩,⟨aK,λy l=>by cases l⟩⟩
 .have h6:=A.zero.1.1.1.w.le;refine⟨by simp;omega,⟨by simp[jo];omega,λy l=>?_⟩,⟨by simp[jm];omega,λq D=>?_⟩⟩
  .obtain⟨i,_,rfl⟩:=YI.1 l;rw[show(lgP p (Lu W) W B i).length=(Lu W) from Zo _];omega
  .obtain⟨i,_,rfl⟩:=YI.1 D;refine⟨by simp[lgR];omega,λy l=>?_⟩;obtain⟨k,_,rfl⟩:=YI.1 l;rw[show(lgC p (Lu W) W B i k).length=(Lu W) from Zo _];omega
def zD1(A:lx vP vB W B)(iF:SzR W B)
  (X:∀vO vQ vC O P C c t,LGR p W B O P C c->dU vO vQ vC O P C->Own σ.top t (.agg [vO,vQ,vC])->σ.top<=t->K (.tup [.agg [vO,vQ,vC],.int .i64 c]) (σ.up t)):zA Li 21 [.agg [.int .i64 p,vP,vB]] σ K:=by
 have h1:=A.P.one;have h2:=A.B.one;refine zA.gh ?_;generalize l:(σ.bf [.int .i64 p,vP,vB]).bf [Ln,Ln,Ln]=T;have bT:T.aM=σ.aM+2:=by rw[<-l];rfl
 have Z:T.top=σ.top:=by rw[<-l];rfl
 have R:cT σ T:=by rw[<-l];exact(zC σ _).bf _
 have hs:jE T σ.aM p vP vB:=⟨by rw[<-l];simp only[Z3,seval,-ae],af⟩
 have V:∀{g:cg} {u0 u1 u2:PV},cT T g->u0.one=DF->u1.one=DF->u2.one=DF->g.wr (σ.aM+1) 0 [u0,u1,u2]=Dc (g.set (σ.aM+1) [u0,u1,u2])/\(g.set (σ.aM+1) [u0,u1,u2]).rd (σ.aM+1) 0 3=Dc [u0,u1,u2]:=λ{g u0 u1 u2} k z0 z1 z2=>by
  have aQ:g.bt (σ.aM+1)=Dc [Ln,Ln,Ln]:=by rw[k.bt _ af,<-l];simp only[Z3,seval,-ae]
  exact⟨by rw[zR aQ,DK ⟨aK,by simp only[Ej,Em,z0,z1,z2];rfl⟩];rfl,by rw[zi,DK rfl];rfl⟩
 refine Lg Tryz.func21 ?_;simp only[Z3,seval,-ae,h1,h2];rw[l];refine zIj (xs:=[]) hs A iF ⟨DF,.b8,[],rfl,dd.nil _⟩ ⟨aK,λy hy=>by cases hy⟩ λc Q=>?_;by_cases E:c=0;rotate_left
 .obtain⟨J,M⟩:=V (cT.refl T) (u0:=Ln) (u1:=Ln) (u2:=Ln) rfl rfl rfl;simp only[Z3,seval,-ae,E,J,M];exact Gh.fin0T (t:=σ.top) (R.set af _) (by show σ.top<=T.top;omega) ⟨⟨DJ,DJ,DJ,DJ⟩,DJ,DJ⟩ λ_=>X _ _ _ [] [] [] _ σ.top (.inl ⟨Q,E,rfl,rfl,rfl⟩) ⟨⟨DF,.b8,rfl⟩,⟨DF,.b8,[],rfl,dd.nil _⟩,⟨DF,.b8,[],rfl,dd.nil _⟩⟩ ⟨⟨.inl rfl,.inl rfl,.inl rfl,DJ⟩,FK,λo D=>by cases D⟩ (na _)
 subst E;obtain⟨⟨hl,_⟩,hz⟩:=Q.zero;obtain⟨cc,lz⟩:=Lz.of hl hz;refine Lk ?_;refine zIi lz hs A λvO vQ vC t G H I D Y=>?_;have cN:dU vO vQ vC (Ep (Lu W) p) (jo p (Lu W) W B (Lu W)) (jm p (Lu W) W B (Lu W)):=⟨G,H,I⟩;obtain⟨J,M⟩:=V ((cT.refl T).up Y) G.one H.one I.one;simp only[Z3,seval,-ae,J,M];refine Gh.fin0T (t:=t) ((R.up Y).set af _) (na _) ⟨⟨G.bel _,H.bel _,I.bel _,DJ⟩,DJ,DJ⟩ λ_=>X _ _ _ _ _ _ _ t (.inr ⟨Q,rfl,rfl,rfl,rfl⟩) cN (by rw[Z]at D;exact D) af
def zFH(l:lx vP vB W B)(iF:SzR W B)
  (X:∀vO vQ vC O P C c,LGR p W B O P C c->dU vO vQ vC O P C->K (.tup [.agg [vO,vQ,vC],.int .i64 c]) σ):zA Li 22 [.agg [.int .i64 p,vP,vB]] σ K:=by
 have h1:=l.P.one;have h2:=l.B.one;refine zA.gh ?_;generalize A:(σ.bf [.int .i64 p,vP,vB]).bf [Ln,Ln,Ln]=T;have bT:T.aM=σ.aM+2:=by rw[<-A];rfl
 have R:cT σ T:=by rw[<-A];exact(zC σ _).bf _
 have Y:∀{g:cg},cT T g->g.rd σ.aM 0 3=Dc [.int .i64 p,vP,vB]:=λ{g} k=>by
  have ob:g.bt σ.aM=Dc [.int .i64 p,vP,vB]:=by rw[k.bt _ af,<-A];simp only[Z3,seval,-ae]
  rw[zV ob];rfl
 have V:∀{g:cg} {u0 u1 u2:PV},cT T g->u0.one=DF->u1.one=DF->u2.one=DF->g.wr (σ.aM+1) 0 [u0,u1,u2]=Dc (g.set (σ.aM+1) [u0,u1,u2])/\(g.set (σ.aM+1) [u0,u1,u2]).rd (σ.aM+1) 0 3=Dc [u0,u1,u2]:=λ{g u0 u1 u2} k z0 z1 z2=>by
  have Z:g.bt (σ.aM+1)=Dc [Ln,Ln,Ln]:=by rw[k.bt _ af,<-A];simp only[Z3,seval,-ae]
  exact⟨by rw[zR Z,DK ⟨aK,by simp only[Ej,Em,z0,z1,z2];rfl⟩];rfl,by rw[zi,DK rfl];rfl⟩
 have l3:=Y (cT.refl T);refine Lg Tryz.func22 ?_;simp only[Z3,seval,-ae,h1,h2];rw[A];simp only[Z3,seval,-ae,l3];have D:cT T ((T.bf []).kill (σ.aM+2)):=((cT.refl T).bf _).kill af;refine zA.frz (s:=σ.aM+2) (cs:=[]) (by rw[zI,DK bT.symm]) trivial λo1=>?_;simp only[kq,Go.Ab.sb,gk,and_self,if_true,decide_true,na,l.P.sb,l.B.sb];generalize (T.bf []).kill (σ.aM+2)=T2 at *
 have l4:=Y D;refine zNP (xs:=[]) l iF ⟨DF,_,[],rfl,dd.nil _⟩ ⟨aK,λy hy=>by cases hy⟩ λc Q=>?_;by_cases E:c=0;rotate_left
 .obtain⟨J,M⟩:=V D (u0:=Ln) (u1:=Ln) (u2:=Ln) rfl rfl rfl;simp only[Z3,seval,-ae,E,J,M];exact Gh.fin0 ((R.trans D).set af _) ⟨⟨DJ,DJ,DJ,DJ⟩,DJ,DJ⟩ (X _ _ _ [] [] [] _ (.inl ⟨Q,E,rfl,rfl,rfl⟩) ⟨⟨DF,.b8,rfl⟩,⟨DF,.b8,[],rfl,dd.nil _⟩,⟨DF,.b8,[],rfl,dd.nil _⟩⟩)
 subst E;obtain⟨⟨hl,_⟩,hz⟩:=Q.zero;obtain⟨cc,lz⟩:=Lz.of hl hz;simp only[Z3,seval,-ae,l4];refine zLL lz l λvO vQ vC G H I=>?_;obtain⟨J,M⟩:=V D G.one H.one I.one;simp only[Z3,seval,-ae,J,M];exact Gh.fin0 ((R.trans D).set af _) ⟨⟨G.bel _,H.bel _,I.bel _,DJ⟩,DJ,DJ⟩ (X _ _ _ _ _ _ _ (.inr ⟨Q,rfl,rfl,rfl,rfl⟩) ⟨G,H,I⟩)
variable{h:cg}
def zFz(l:dU vO vP vC O P C)(sz:SzP O P C)
  (R:∀p vQ vB W B c,ResG (uj O P C) (p,W,B) c->lx vQ vB W B->K (.tup [.agg [.int .i64 p,vQ,vB],.int .i64 c]) σ):zA Li 14 [.agg [vO,vP,vC]] σ K:=by
 have Z:=l.O.one;have h1:=l.P.one;have h2:=l.C.one;refine zA.gh ?_;generalize D:(σ.bf [vO,vP,vC]).bf [.int .i64 0,Ln,Ln]=T;have Y:T.aM=σ.aM+2:=by rw[<-D];rfl
 have M:cT σ T:=by rw[<-D];exact(zC σ _).bf _
 have V:∀{g:cg},cT T g->g.rd σ.aM 0 3=Dc [vO,vP,vC]:=λ{g} k=>by
  have ob:g.bt σ.aM=Dc [vO,vP,vC]:=by rw[k.bt _ af,<-D];simp only[Z3,seval,-ae]
  rw[zV ob];rfl
 have Q:∀{g:cg} {u0 u1 u2:PV},cT T g->u0.one=DF->u1.one=DF->u2.one=DF->g.wr (σ.aM+1) 0 [u0,u1,u2]=Dc (g.set (σ.aM+1) [u0,u1,u2])/\(g.set (σ.aM+1) [u0,u1,u2]).rd (σ.aM+1) 0 3=Dc [u0,u1,u2]:=λ{g u0 u1 u2} k z0 z1 z2=>by
  have X:g.bt (σ.aM+1)=Dc [.int .i64 0,Ln,Ln]:=by rw[k.bt _ af,<-D];simp only[Z3,seval,-ae]
  exact⟨by rw[zR X,DK ⟨aK,by simp only[Ej,Em,z0,z1,z2];rfl⟩];rfl,by rw[zi,DK rfl];rfl⟩
 have l3:=V (cT.refl T);refine Lg Tryz.func14 ?_;simp only[Z3,seval,-ae,Z,h1,h2];rw[D];simp only[Z3,seval,-ae,l3];have E:cT T ((T.bf []).kill (σ.aM+2)):=((cT.refl T).bf _).kill af;refine zA.frz (s:=σ.aM+2) (cs:=[]) (by rw[zI,DK Y.symm]) trivial λo1=>?_;simp only[kq,Go.Ab.sb,gk,and_self,if_true,decide_true,na,l.O.sb,l.P.sb,l.C.sb];generalize (T.bf []).kill (σ.aM+2)=T2 at *
 have l4:=V E;refine zNI (xs:=[]) l sz ⟨DF,_,[],rfl,dd.nil _⟩ ⟨aK,λy hy=>by cases hy⟩ ?_;by_cases A:ra O P C []=0;rotate_left
 .obtain⟨I,J⟩:=Q E (u0:=.int .i64 0) (u1:=Ln) (u2:=Ln) rfl rfl rfl;simp only[Z3,seval,-ae,A,I,J];exact Gh.fin0 ((M.trans E).set af _) ⟨⟨DJ,DJ,DJ,DJ⟩,DJ,DJ⟩ (R 0 _ _ [] [] _ ⟨by unfold uj;rw[DL A]⟩ ⟨⟨DF,.b8,[],rfl,dd.nil _⟩,⟨DF,.b8,[],rfl,dd.nil _⟩⟩)
 obtain⟨g,k0,_⟩:=zFE A;simp only[Z3,seval,-ae,A,l4];refine zNH g k0 l λq vQ vB hq G H=>?_;obtain⟨I,J⟩:=Q E (u0:=.int .i64 q) rfl G.one H.one;simp only[Z3,seval,-ae,I,J];exact Gh.fin0 ((M.trans E).set af _) ⟨⟨DJ,G.bel _,H.bel _,DJ⟩,DJ,DJ⟩ (R _ _ _ _ _ _ ⟨by unfold uj;rw[DK A,hq]⟩ ⟨G,H⟩)
def lr_bd{c:Int}(h:ResG (uj O P C) (p,W,B) c):SzR W B:=by
 have e:=h.eq;unfold uj at e;by_cases D:ra O P C []=0
 .rw[DK D]at e;simp only[Y7]at e;obtain⟨⟨_,rfl,rfl⟩,_⟩:=e;obtain⟨g,H,_⟩:=zFE D;have G:=g.s.le;have E:∀z,(cfG O P C z).length<=1048576:=λz=>by rw[zHN];omega
  refine⟨by simp[kT];omega,λr A=>?_,by simp[kO];omega,λq l=>?_,λq l r A=>?_⟩
  .obtain⟨i,_,rfl⟩:=YI.1 A;exact E _
  .obtain⟨i,_,rfl⟩:=YI.1 l;simp[lrR];omega
  .obtain⟨i,_,rfl⟩:=YI.1 l;obtain⟨j,_,rfl⟩:=YI.1 A;exact E _
 .rw[DL D]at e;simp only[Y7]at e;obtain⟨⟨_,rfl,rfl⟩,_⟩:=e;exact⟨aK,λr A=>(by cases A),aK,λq l=>(by cases l),λq l=>(by cases l)⟩
end
section
open Go.Im
section
variable[lM (GT (gS O))]{β:GT (gS O)->GT (gS O)->GT (gS O)}(g:LG O P C)(k:jq O P C)(L:LieOf O P C β)
def GT.mk{S:V1->Prop}(x:V1)(h:S x):GT S:=⟨x,h⟩
abbrev Dp(O:V1)(t:Nat)(a:GT (gS O)):Prop:=TT O t a.1
open Classical in
noncomputable def gU(O:V1)[lM (GT (gS O))](i:Nat):GT (gS O):=if h:gS O (Grp.unit O i)then GT.mk (Grp.unit O i) h else 0
include g in
theorem gU1{i:Nat}(l:i<Lu O):(gU O i).1=Grp.unit O i:=by
 unfold gU;rw[dif_pos (g.s.unit l (YV _))];rfl
include g L
theorem zHz(t:Nat):Dp O t 0:=by
 show TT O t (0:GT (gS O)).1;rw[L.zero1];exact g.s.zv t
theorem zAo(t:Nat):at_ (0:GT (gS O)).1 t=0:=by rw[L.zero1];exact zb _ _
include k
theorem zHH{a b:GT (gS O)}(l:t<Lu O)(A:Dp O t a)(D:Dp O t b):Dp O t (a+b)/\at_ (a+b).1 t=(at_ a.1 t+at_ b.1 t) % at_ O 0:=by
 have h:=g.gsum_head k l A D;rw[<-L.sum1,g.eq l]at h;exact h
theorem zPf{a:GT (gS O)}(l:t<Lu O)(G:Dp O t a):Dp O t (-a)/\at_ (-a).1 t=(-(at_ a.1 t)) % at_ O 0:=by
 have A:Dp O t (-a):=by
  show TT O t (-a).1;rw[L.neg1];exact zN3 g.s g.F g.cent (Y8 l) G
 refine⟨A,?_⟩;have E:=(zHH g k L l G A).2;rw[show a + -a=0 by exact gr [a],zAo g L]at E;have D:=A.bd t l;rw[g.eq l]at D;have H:(at_ (-a).1 t) % at_ O 0=(-(at_ a.1 t)) % at_ O 0:=by
  have I:=Iq E.symm;refine Int.emod_eq_emod_iff_emod_sub_eq_zero.2 (It ?_);rw[show at_ (-a).1 t - -(at_ a.1 t)=at_ a.1 t+at_ (-a).1 t by omega];exact I
 rw[<-H,Ys D.1 D.2]
theorem zHG{a:GT (gS O)}(A:t<Lu O)(l:Dp O t a):∀j:Nat,Dp O t ((j:Int) • a)/\at_ ((j:Int) • a).1 t=((j:Int)*at_ a.1 t) % at_ O 0
 |0=>by
  show Dp O t ((0:Int) • a)/\at_ ((0:Int) • a).1 t=((0:Int)*at_ a.1 t) % at_ O 0;rw[Go.Im.zero_zsmul,zAo g L,UU,IL];exact⟨zHz g L t,rfl⟩
 |j+1=>by
  obtain⟨D,E⟩:=zHG A l j;obtain⟨G,H⟩:=zHH g k L A D l;have e:((j+1:Nat):Int) • a=(j:Int) • a+a:=by rw[Um,Go.Im.add_zsmul,Go.Im.one_zsmul]
  rw[e];refine⟨G,?_⟩;rw[H,E,IP,Um,Uf,Ub]
theorem zMS{a:GT (gS O)}(l:t<Lu O)(A:Dp O t a)(j:Int):Dp O t (j • a)/\at_ (j • a).1 t=(j*at_ a.1 t) % at_ O 0:=by
 rcases If j with ⟨m,rfl|rfl⟩
 .exact zHG g k L l A m
 .obtain⟨D,E⟩:=zHG g k L l A m;obtain⟨G,H⟩:=zPf g k L l D;rw[Go.Im.neg_zsmul];refine⟨G,?_⟩;rw[H,E,Uy];refine Int.emod_eq_emod_iff_emod_sub_eq_zero.2 (It ⟨(m:Int)*at_ a.1 t / at_ O 0,?_⟩)
  have:=IQ ((m:Int)*at_ a.1 t) (at_ O 0)
  omega
theorem zL2{f:hK}(l:t<Lu O)(D:∀j,j<t->f j=0):∀m,m<=Lu O->Dp O t (lZ m λi=>f i • gU O i)/\at_ (lZ m λi=>f i • gU O i).1 t=if t<m then f t % at_ O 0 else 0
 |0,_=>⟨zHz g L t,by rw[DL af];exact zAo g L t⟩
 |m+1,hm=>by
  obtain⟨H,I⟩:=zL2 l D m af;have G:Dp O m (gU O m):=by show TT O m (gU O m).1;rw[gU1 g af];exact g.s.unit af (na _)
  have Q:=(g.isp (show 0<(Lu O) by omega)).bd;have key:Dp O t (f m • gU O m)/\at_ (f m • gU O m).1 t=if t=m then f t % at_ O 0 else 0:=by
   rcases Eo m t with h|rfl|h
   .rw[D m h,Go.Im.zero_zsmul,DL af];exact⟨zHz g L t,zAo g L t⟩
   .obtain⟨A,E⟩:=zMS g k L l G (f m);refine⟨A,?_⟩;rw[E,gU1 g l,DK rfl,show at_ (Grp.unit O m) m=1 by unfold Grp.unit;rw[eJ (by simpa using l),DK rfl],Ur]
   .obtain⟨A,E⟩:=zMS g k L (show m<(Lu O) by omega) G (f m);refine⟨A.mono af,?_⟩;rw[DL af];exact A.zero t h
  obtain⟨J,M⟩:=zHH g k L l H key.1;refine⟨J,?_⟩;show at_ ((lZ m λi=>f i • gU O i)+f m • gU O m).1 t=_;rw[M,I,key.2];rcases Eo t m with h|h|h
  .rw[DK h,DL af,DK af,UO,UK _ (Uk _)]
  .rw[DL af,DK h,DK af,Ua,UK _ (Uk _)]
  .rw[DL af,DL af,DL af];exact IL _
theorem pv_hd{f:hK}(l:t<Lu O)(A:∀j,j<t->f j=0):Dp O t (ej (gU O) (Lu O) f)/\at_ (ej (gU O) (Lu O) f).1 t=f t % at_ O 0:=by
 have h:=zL2 g k L l A (Lu O) (na _);rw[DK l]at h;exact h
theorem zSr{x y:V1}(A:El (at_ O 0) (Lu O) x)(D:El (at_ O 0) (Lu O) y)(h:ej (gU O) (Lu O) (at_ x)=ej (gU O) (Lu O) (at_ y)):x=y:=by
 refine zHF A D λj H=>?_;have J:=(g.isp (show 0<(Lu O) by omega)).bd
 induction j using Nat.strongRecOn with
 |ind j ih=>
  have l:=(pv_hd g k L (t:=j) (f:=λi=>at_ x i + -1*at_ y i) H λi G=>by rw[ih i G af];omega).2;rw[zAM,Zk,h,show ej (gU O) (Lu O) (at_ y)+(-1:Int) • ej (gU O) (Lu O) (at_ y)=0 by exact gr [ej (gU O) (Lu O) (at_ y)],zAo g L]at l;have b1:=A.2.at af j;have I:=D.2.at af j;obtain⟨c,E⟩:=Iq l.symm
  have:c=0:=by
   rcases I1 c 0 with h|h|h
   .have:at_ O 0*c<=at_ O 0*(-1):=Yy af af
    omega
   .exact h
   .have:at_ O 0*1<=at_ O 0*c:=Yy af af
    omega
  rw[this,Y9]at E;omega
theorem zRi{x:V1}(E:El (at_ O 0) (Lu O) x)(H:t<=Lu O)(h:Dp O t (ej (gU O) (Lu O) (at_ x))):∀j,j<t->at_ x j=0:=by
 intro j D;have G:=(g.isp (show 0<(Lu O) by omega)).bd
 induction j using Nat.strongRecOn with
 |ind j ih=>
  have l:=(pv_hd g k L (t:=j) (f:=at_ x) af λi A=>ih i A af).2;have b1:=E.2.at af j;rw[h.zero j D,Ys b1.1 af]at l;exact l.symm
end
end
section
open Go.Im
variable{w:V1}
def qO(O:V1):Int:=if O=[]then 2 else at_ O 0
def sK(h:0<Lu O):qO O=at_ O 0:=by
 unfold qO;rw[DL λe=>by rw[e]at h;simp at h]
def LG.qp(g:LG O P C):jF (qO O):=by
 rcases F4 (Lu O) with h|h
 .rw[YU h];exact .inl rfl
 .rw[sK h];exact g.isp h
def LG.el(g:LG O P C):gS O x↔El (qO O) (Lu O) x:=by
 constructor
 .intro h;refine⟨h.len,λy H=>?_⟩;obtain⟨i,E,rfl⟩:=YR.1 H;have A:i<Lu O:=by rw[<-h.len];exact E
  have D:=h.bd i A;rw[g.eq A,dp E]at D;rw[sK af];omega
 .intro h;refine⟨h.1,λj l=>?_,λj l=>af⟩;have G:j<Lu x:=by rw[h.1];exact l
  have D:=h.2 _ (YZ G);rw[dp G,g.eq l,<-sK (show 0<(Lu O) by omega)];omega
section
variable[lM (GT (gS O))]{β:GT (gS O)->GT (gS O)->GT (gS O)}(g:LG O P C)(k:jq O P C)(L:LieOf O P C β)
include g k L
theorem zJO{x y:V1}(l:El (qO O) (Lu O) x)(A:El (qO O) (Lu O) y)(h:ej (gU O) (Lu O) (at_ x)=ej (gU O) (Lu O) (at_ y)):x=y:=by
 rcases F4 (Lu O) with h0|h0
 .rw[YU (l.1.trans h0),YU (A.1.trans h0)]
 .rw[sK h0]at l A;exact zSr g k L l A h
theorem zRm{x:V1}(l:El (qO O) (Lu O) x)(A:t<=Lu O)(h:Dp O t (ej (gU O) (Lu O) (at_ x))):∀j,j<t->at_ x j=0:=by
 rcases F4 (Lu O) with h0|h0
 .intro j hj;omega
 .rw[sK h0]at l;exact zRi g k L l A h
theorem zLw(l:gS O z):∀i,i<=Lu O->∃r:GT (gS O),r.1=(nB O P C z i).2/\Dp O i r/\ej (gU O) (Lu O) (at_ (nB O P C z i).1)+r=GT.mk z l/\(∀j,i<=j->at_ (nB O P C z i).1 j=0)/\∀y∈(nB O P C z i).1,0<=y/\y<=qO O-1
 |0,_=>by
  refine⟨GT.mk z l,rfl,l,?_,λj _=>zb _ j,λy E=>?_⟩
  .rw[QH (f:=at_ (nB O P C z 0).1) λi _=>zb _ i];exact gr [GT.mk z l]
  .rw[Yi E]
   have:=g.qp.bd
   omega
 |i+1,hi=>by
  obtain⟨r,Y,J,Z,M,h5⟩:=zLw l i af;have hp:=(g.isp (show 0<(Lu O) by omega)).bd;have A:=J.bd i af;rw[g.eq (show i<(Lu O) by omega)]at A;have hu:gS O (Grp.unit O i):=g.s.unit af (YV _);have H:i<(nB O P C z i).1.length:=by rw[zAQ];omega
  have D:r.1=(nB O P C z i).2:=Y;have hU:Dp O i (gU O i):=by show TT O i (gU O i).1;rw[gU1 g af];exact g.s.unit af (na _)
  have I:(((at_ r.1 i).toNat:Nat):Int)=at_ r.1 i:=YD A.1;have V:(-((((at_ r.1 i).toNat:Nat):Int) • gU O i)+r).1=(nB O P C z (i+1)).2:=by
   rw[L.sum1,L.neg1,L.nat1,gU1 g af,D];rfl
  obtain⟨n1,n2⟩:=zHG g k L (show i<(Lu O) by omega) hU (at_ r.1 i).toNat;obtain⟨n3,n4⟩:=zPf g k L (show i<(Lu O) by omega) n1;obtain⟨G,n6⟩:=zHH g k L (show i<(Lu O) by omega) n3 J;have R:at_ (gU O i).1 i=1:=by
   rw[gU1 g af];show at_ ((zv O).set i 1) i=1;rw[eJ (by simp;omega),DK rfl]
  refine⟨_,V,⟨G.len,G.bd,λj Q=>?_⟩,?_,λj Q=>?_,λy E=>?_⟩
  .rcases YG j i with h|h
   .exact G.zero j h
   .have:j=i:=af
    subst this;rw[n6,n4,n2,R,I,Ur,IP,Ys A.1 A.2,Int.add_left_neg,IL]
  .rw[<-Z];have X:ej (gU O) (Lu O) (at_ (nB O P C z (i+1)).1)=ej (gU O) (Lu O) (at_ (nB O P C z i).1)+(((at_ r.1 i).toNat:Nat):Int) • gU O i:=by
    rw[<-Qs (U:=gU O) (n:=(Lu O)) (show i<(Lu O) by omega),<-Zk,<-zAM];refine Zr λj Q=>?_;show at_ ((nB O P C z i).1.set i (at_ (nB O P C z i).2 i)) j=_;rw[eJ H,zw af,I,D];by_cases e:j=i
    .rw[DK e,DK e,e,M i (na _)];omega
    .rw[DL e,DL e];omega
   rw[X];exact gr [ej (gU O) (Lu O) (at_ (nB O P C z i).fst),((at_ r.val i).toNat:Int) • gU O i,r]
  .show at_ ((nB O P C z i).1.set i (at_ (nB O P C z i).2 i)) j=_;rw[eJ H,DL af];exact M j af
  .have wR:y∈(nB O P C z i).1.set i (at_ (nB O P C z i).2 i):=E;rcases Hs wR with h|h
   .exact h5 y h
   .rw[h,sK af,<-D];omega
theorem zA9(A:gS O z):El (qO O) (Lu O) (cfG O P C z)/\ej (gU O) (Lu O) (at_ (cfG O P C z))=GT.mk z A:=by
 obtain⟨r,D,l,E,H,G⟩:=zLw g k L A (Lu O) (na _);have r0:r=0:=GT.eq (by
  rw[L.zero1];exact l.ext (g.s.zv _) λj D l=>af)
 refine⟨⟨zHN z,G⟩,?_⟩;rw[<-E,r0];show ej (gU O) (Lu O) (at_ (nB O P C z (Lu O)).1)=_;exact gr [ej (gU O) (Lu O) (at_ (nB O P C z (Lu O)).fst)]
theorem cf_tt(l:TT O t z)(E:t<=Lu O):∀j,j<t->at_ (cfG O P C z) j=0:=by
 obtain⟨A,D⟩:=zA9 g k L (l.mono (YV _));refine zRm g k L A E ?_;rw[D];exact l
theorem zA2:lu β (gU O) (qO O) (Lu O) (kT O P C (Lu O)) (kO O P C (Lu O)):=by
 have H:∀{i},i<Lu O->gS O (Grp.unit O i):=λA=>g.s.unit A (YV _);have J:∀{i},i<Lu O->TT O i (Grp.unit O i):=λA=>g.s.unit A (na _);have I:∀{i},i<Lu O->TT O (i+1) (Grp.pw (gm O P C) (zv O) (Grp.unit O i) (at_ O 0).toNat):=λ{i} A=>by
  have:=zAR g.s g.F g.cent A (J A)
  rwa[g.eq A]at this
 have M:∀{i j},i<j->j<Lu O->TT O (j+1) (gbr O P C (Grp.unit O i) (Grp.unit O j)):=λ{i j} V D=>by
  have E:=g.gbr_tt k D (J D) (H (show i<(Lu O) by omega));have e:gbr O P C (Grp.unit O i) (Grp.unit O j)=yJ O P C (gbr O P C (Grp.unit O j) (Grp.unit O i)):=by
   have:=L.swap (GT.mk _ (H D)) (GT.mk _ (H (show i<(Lu O) by omega)))
   have G:=congrArg Subtype.val this;rw[L.neg1,L.br1,L.br1]at G;exact G
  rw[e];exact zN3 g.s g.F g.cent af E
 have Q:∀{i},i<Lu O->(kT O P C (Lu O)).getD i []=lrP O P C i:=λ{i} A=>by simp[kT,YW,A]
 have R:∀{i j},i<Lu O->i+1+j<Lu O->((kO O P C (Lu O)).getD i []).getD j []=lrC O P C i j:=λ{i j} A D=>by
  have G:j<Lu O-1-i:=af
  simp[kO,lrR,YW,A,G]
 refine⟨⟨?_,g.s.le,by simp[kT],λi A=>?_⟩,⟨by simp[kO],λi A=>?_,λi A j D=>?_⟩,L.add_l,L.swap,L.self_,λi A=>?_,λi j A D=>?_⟩
 .exact g.qp.bd
 .have fJ:i<Lu O:=by simpa [kT]using A
  have e:(kT O P C (Lu O))[i]=lrP O P C i:=by simp[kT]
  rw[e];have h:=I fJ;obtain⟨E,G⟩:=zA9 g k L (h.mono (YV _));exact⟨E.1,E.2,λj D=>cf_tt g k L h af j af⟩
 .simp[kO,lrR]
 .have fJ:i<Lu O:=by simpa [kO]using A
  have X:j<Lu O-1-i:=by simpa [kO,lrR]using D
  have e:(kO O P C (Lu O))[i][j]=lrC O P C i j:=by simp[kO,lrR]
  rw[e];have h:=M (i:=i) (j:=i+(1+j)) af af;obtain⟨E,G⟩:=zA9 g k L (h.mono (YV _));exact⟨E,λl Y=>cf_tt g k L h af l af⟩
 .rw[Q A];have h:=(zA9 g k L ((I A).mono (YV _))).2;refine h.trans (GT.eq ?_);show Grp.pw (gm O P C) (zv O) (Grp.unit O i) (at_ O 0).toNat=(qO O • gU O i).1;have Z:=(g.isp (show 0<(Lu O) by omega)).bd;have e:qO O=(((at_ O 0).toNat:Nat):Int):=by rw[sK af,YD af]
  rw[e,L.nat1,gU1 g A]
 .rw[R A D];have h:=(zA9 g k L ((M (i:=i) (j:=i+(1+j)) af af).mono (YV _))).2;refine h.trans (GT.eq ?_);rw[L.br1,gU1 g A,gU1 g D];show gbr O P C (Grp.unit O i) (Grp.unit O (i+(1+j)))=_;rw[<-UP]
theorem lr_lz:∃c,Lz (qO O) (Lu O) (kT O P C (Lu O)) (kO O P C (Lu O)) c:=by
 have v:=zA2 g k L;rcases F4 (Lu O) with h0|h0
 .have At:∀a:GT (gS O),a=0:=λa=>GT.eq (a.2.ext (0:GT (gS O)).2 λj D E=>af);exact v.lz (λx y l A h=>zJO g k L l A h) (λx y z=>At _) (λx y z w=>At _) (λ_ x y z=>At _) (λ_ x y=>At _) g.qp (by rw[h0];show(1:Int)<=729;decide)
 .refine v.lz (λx y l A h=>zJO g k L l A h) L.yq L.b4 (λe=>L.b3 (by rw[<-sK h0];exact e)) (λe=>L.b2 (by rw[<-sK h0];exact e)) g.qp ?_;rw[zF6,sK h0];exact(g.bound h0 (na _)).2
end
end
section
open Go.Im
variable{w:V1}
def zQt{p:Int}{n:Nat}{W:V2}{B:V3}(z:Lz p n W B c):isLaz p W B/\Lu W=n:=by
 have o:=z.r.o;have q:=z.r.q;have I:=o.len;subst I;have vec:∀{v:V1},El p (Lu W) v->rM v p (Lu W):=λ{v} h=>⟨by rw[h.1],h.2⟩
 refine⟨⟨⟨⟨z.hp,o.le,q.len,z.pow,λi A=>⟨?_,?_,λk H=>?_⟩⟩,z.r.nf⟩,⟨c,z.r.cls,z.hc⟩⟩,rfl⟩
 .have h:=o.row i A;rw[qJ A];refine⟨vec ⟨h.1,h.2.1⟩,λy l=>?_⟩;rw[UB]at l;obtain⟨j,G,rfl⟩:=l;rw[<-dp];exact h.2.2 j af
 .have fJ:i<Lu B:=by rw[q.len];exact A
  rw[zM fJ,q.row i fJ]
 .obtain⟨D,E⟩:=q.get A H;refine⟨vec D,λy l=>?_⟩;rw[UB]at l;obtain⟨j,G,rfl⟩:=l;rw[<-dp];exact E j af
section
variable{T:Type}[lM T]{β:T->T->T}{U:Nat->T}{p:Int}{n:Nat}{W:V2}{B:V3}
def lu.dv(v:lu β U p n W B){l:Int}{a:V1}(E:El p n a)(J:mw a\/vh p l):∃j:Int,ej U n (at_ (Go.Proofs.dv p n W l a))=j • ej U n (at_ a)/\l • j • ej U n (at_ a)=ej U n (at_ a):=by
 have d:=Zp v.o E (k:=l);have zero:mw a->ej U n (at_ a)=0:=λh=>QH λi _=>ZW h i;by_cases D:mw a
 .refine⟨0,?_,?_⟩
  .rw[d.nil D,zero D,Go.Im.zsmul_zero]
  .rw[zero D,Go.Im.zsmul_zero,Go.Im.zsmul_zero]
 .have hc:vh p l:=J.resolve_left D;rcases F4 n with h0|h0
  .exact absurd (λy A=>by rw[YU (E.1.trans h0)]at A;cases A) D
  obtain⟨y,w,A⟩:=zA8 hc h0;have G:l • ej U n (at_ (Go.Proofs.dv p n W l a))=ej U n (at_ a):=by
   rw[<-Zk,v.eqv (d.eqv hc)]
  have kill:∀b,El p n b->nD p n • ej U n (at_ b)=0:=λb H=>by
   rw[<-Zk,v.eqv (Qv v.o λj I=>H.beyond I),QH λi _=>rfl]
  have hd:=mR v.o E (k:=l);refine⟨y,?_,?_⟩
  .rw[<-G,<-Go.Im.mul_zsmul,UN y l,A,Go.Im.add_zsmul,Go.Im.one_zsmul,Go.Im.mul_zsmul,kill _ hd,Go.Im.zsmul_zero];exact gr [ej U n (at_ (Proofs.dv p n W l a))]
  .rw[<-Go.Im.mul_zsmul,A,Go.Im.add_zsmul,Go.Im.one_zsmul,Go.Im.mul_zsmul,kill _ E,Go.Im.zsmul_zero];exact gr [ej U n (at_ a)]
def lu.thd(v:lu β U p n W B){a b:V1}(A:El p n a)(D:El p n b):ej U n (at_ (qo p W B n a b))=β (ej U n (at_ a)) (β (ej U n (at_ a)) (ej U n (at_ b)))+β (ej U n (at_ b)) (β (ej U n (at_ b)) (ej U n (at_ a))):=by
 have l:=ey (B:=B) (a:=a) (b:=b) v.o v.q;unfold qo;rw[v.add (ey v.o v.q) (ey v.o v.q),v.br,v.br,v.br,v.mul l,v.br,v.swap (ej U n (at_ a)) (ej U n (at_ b))];congr 2;exact gr [β (ej U n (at_ a)) (ej U n (at_ b))]
end
section
variable[lM (GT (gS O))]{β:GT (gS O)->GT (gS O)->GT (gS O)}(g:LG O P C)(k:jq O P C)(L:LieOf O P C β)(oz:Lz (qO O) (Lu O) (kT O P C (Lu O)) (kO O P C (Lu O)) c)
noncomputable abbrev gV (O:V1) [lM (GT (gS O))] (a:V1):GT (gS O):=ej (gU O) (Lu O) (at_ a)
noncomputable abbrev lbch (O:V1) (P:V2) (C:V3):V1->V1->V1:=jU (qO O) (Lu O) (kT O P C (Lu O)) (kO O P C (Lu O))
include g k L oz
theorem zG6(A:El (qO O) (Lu O) x)(D:El (qO O) (Lu O) y):(gV O (lbch O P C x y)).1=gm O P C (gV O x).1 (gV O y).1:=by
 have v:=zA2 g k L;have o:=v.o;have q:=v.q;have E:=ey (B:=kO O P C (Lu O)) (a:=x) (b:=y) o q;have M:El (qO O) (Lu O) (qo (qO O) (kT O P C (Lu O)) (kO O P C (Lu O)) (Lu O) x y):=Zh o q;obtain⟨j,G,H⟩:=v.dv E (oz.d2 (x:=x) (y:=y) A);obtain⟨l,I,J⟩:=v.dv M (oz.d12 (x:=x) (y:=y) A);have R:=v.br x y;rw[R]at G H;rw[v.thd A D]at I J;have Q:=L.mul (gV O x) (gV O y) j l H J;rw[Q]
 show(ej (gU O) (Lu O) (at_ (j3 _ _ (j3 _ _ (j3 _ _ x y) _) _))).1=_
 rw[v.add (zK o (zK o A D) (mR o E)) (mR o M),v.add (zK o A D) (mR o E),v.add A D,G,I]
theorem zMM:(gV O (Ep (Lu O) 0)).1=zv O:=by
 show(ej (gU O) (Lu O) _).1=_
 rw[QH λi _=>zb _ i,L.zero1]
theorem cf_eq(E:gS O x){a:V1}(D:El (qO O) (Lu O) a)(h:(gV O a).1=x):cfG O P C x=a:=by
 obtain⟨l,A⟩:=zA9 g k L E;exact zJO g k L l D (A.trans (GT.eq h.symm))
theorem zOP{e:V1}(A:gS O e):∀i,i<=Lu O->(gV O (Cn (qO O) (Lu O) (kT O P C (Lu O)) (kO O P C (Lu O)) e i)).1=Grp.ph (gm O P C) (zv O) (Grp.unit O) (nx e) 0 i
 |0,_=>zMM g k L oz
 |i+1,hi=>by
  have v:=zA2 g k L;have o:=v.o;have M:=g.F.g.toMon;have l:=zQ (n:=(Lu O)) o.pr (show i<(Lu O) by omega);have H:=zAe (B:=kO O P C (Lu O)) o v.q e (show i<=(Lu O) by omega);have I:El (qO O) (Lu O) (ed (qO O) (kT O P C (Lu O)) (at_ e i) (cD (Lu O) i)):=zK o l l;have E:∀j,j<Lu O->gS O (Grp.unit O j):=λj D=>g.s.unit D (YV _);have J:=A.bd i af;have G:=M.ph_app (f:=Grp.unit O) (x:=nx e) (b:=1) (a:=i) (t:=0) (λj _ D=>E j af);rw[G,Y5]
  show(gV O (lbch O P C _ _)).1=_
  rw[zG6 g k L oz H I,zOP A i af];congr 1
  show(ej (gU O) (Lu O) _).1=gm O P C (Grp.pw (gm O P C) (zv O) (Grp.unit O i) (nx e i)) (zv O)
  rw[v.mul l,Qs af,M.r1 (M.pw (E i af) _),<-gU1 g (show i<(Lu O) by omega),<-L.nat1]
  show(at_ e i • gU O i).1=(((at_ e i).toNat:Int) • gU O i).1
  rw[YD J.1]
theorem pt_cf(l:gS O x):Cn (qO O) (Lu O) (kT O P C (Lu O)) (kO O P C (Lu O)) x (Lu O)=cfG O P C x:=by
 have v:=zA2 g k L;refine(cf_eq g k L oz l (zAe v.o v.q x (na _)) ?_).symm;rw[zOP g k L oz l (Lu O) (na _)];exact g.F.nfx l
end
end
section
open Go.Im
def zTJ(s:jl O P C)(F:Full O P C (Lu O)){i j:Nat}(D:i<j)(G:j<Lu O):gm O P C (Grp.unit O j) (Grp.unit O i)=gm O P C (Grp.unit O i) (du C i j):=by
 have l:=F.rel.cj i j af D G;have H:TT O (i+1) (du C i j):=s.cj i j D G;have A:=F.nfx (H.mono (YV _));have E:=F.g.toMon.ph_skip (h:=Grp.unit O) (x:=nx (du C i j)) (d:=(Lu O)-(i+1)) (k:=i+1) (t:=0) (λj l A=>by show(at_ _ j).toNat=0;rw[H.zero j af];rfl) (λj l A=>s.unit af (YV _));rw[show i+1+(Lu O-(i+1))=(Lu O) by omega,A,Y5]at E;refine l.trans ?_;show gm O P C _ (ph _ _ _ _ (Lu O-(Lu O-(i+1))) _)=_;rw[show (Lu O)-(Lu O-(i+1))=i+1 by omega];exact congrArg _ E.symm
def zSS(s:jl O P C)(F:Full O P C (Lu O)){i j:Nat}(A:i<j)(l:j<Lu O):du C i j=cnj (gS O) (gm O P C) (zv O) (Grp.unit O j) (Grp.unit O i):=
 F.g.cnj_eq (s.unit l (YV _)) (s.unit af (YV _)) ((s.cj i j A l).mono (YV _)) (zTJ s F A l).symm
section
variable[lM (GT (gS O))]{β:GT (gS O)->GT (gS O)->GT (gS O)}(g:LG O P C)(k:jq O P C)(L:LieOf O P C β)(oz:Lz (qO O) (Lu O) (kT O P C (Lu O)) (kO O P C (Lu O)) c)
include g k L oz
theorem zQ6{a b d:V1}(D:El (qO O) (Lu O) a)(E:El (qO O) (Lu O) b)(hd:El (qO O) (Lu O) d):(gV O (fold (qO O) (Lu O) (kT O P C (Lu O)) (kO O P C (Lu O)) [a,b,d])).1=gm O P C (gm O P C (gV O a).1 (gV O b).1) (gV O d).1:=by
 have v:=zA2 g k L;have l:El (qO O) (Lu O) (Ep (Lu O) 0):=ZB v.o.pr;have A:=QG v.o v.q l D;have G:=QG v.o v.q A E
 show(gV O (lbch O P C (lbch O P C (lbch O P C (Ep (Lu O) 0) a) b) d)).1=_
 rw[zG6 g k L oz G hd,zG6 g k L oz A E,zG6 g k L oz l D,zMM g k L oz,g.F.g.l1 (gV O a).2]
theorem zMN{i:Nat}(l:i<Lu O):(gV O (cD (Lu O) i)).1=Grp.unit O i:=by
 show(ej (gU O) (Lu O) _).1=_
 rw[Qs l,gU1 g l]
theorem zPA{i:Nat}(l:i<Lu O):lgP (qO O) (Lu O) (kT O P C (Lu O)) (kO O P C (Lu O)) i=eM P i:=by
 have v:=zA2 g k L;have A:=zQ (n:=(Lu O)) v.o.pr l;have hw:gS O (eM P i):=(g.s.pw i l).mono (YV _);have D:El (qO O) (Lu O) (ed (qO O) (kT O P C (Lu O)) (qO O) (cD (Lu O) i)):=zK v.o A A;have E:=(g.isp (show 0<(Lu O) by omega)).bd;have e:ed (qO O) (kT O P C (Lu O)) (qO O) (cD (Lu O) i)=cfG O P C (eM P i):=by
  refine(cf_eq g k L oz hw D ?_).symm
  show(ej (gU O) (Lu O) _).1=_
  rw[v.mul A,Qs l,<-zL5 g.s g.F l,g.eq l,<-gU1 g l,<-L.nat1,YD af,sK af]
 unfold lgP;rw[e,<-pt_cf g k L oz hw];exact vc_pt oz (g.el.1 hw)
theorem zPB{i j:Nat}(D:i<j)(l:j<Lu O):yG (qO O) (Lu O) (kT O P C (Lu O)) (kO O P C (Lu O)) (mT (qO O) (Lu O) (kT O P C (Lu O)) (kO O P C (Lu O)) (cD (Lu O) j) (cD (Lu O) i))=du C i j:=by
 have v:=zA2 g k L;have A:=zQ (n:=(Lu O)) v.o.pr (show i<(Lu O) by omega);have E:=zQ (n:=(Lu O)) v.o.pr l;have hw:gS O (du C i j):=(g.s.cj i j D l).mono (YV _);have I:=zDM v.o v.q E A;have M:gS O (Grp.unit O j):=g.s.unit l (YV _);have G:gS O (Grp.unit O i):=g.s.unit af (YV _);have J:=Qu v.o A;have e:mT (qO O) (Lu O) (kT O P C (Lu O)) (kO O P C (Lu O)) (cD (Lu O) j) (cD (Lu O) i)=cfG O P C (du C i j):=by
  refine(cf_eq g k L oz hw I ?_).symm;unfold mT;rw[zQ6 g k L oz J E A,zMN g k L oz l,zMN g k L oz (show i<(Lu O) by omega),zSS g.s g.F D l];have H:(gV O (ed (qO O) (kT O P C (Lu O)) (-1) (cD (Lu O) i))).1=yJ O P C (Grp.unit O i):=by
   show(ej (gU O) (Lu O) _).1=_
   rw[v.mul A,Qs af,show(-1:Int) • gU O i=- gU O i by exact gr [gU O i],L.neg1,gU1 g af]
  rw[H];exact g.F.g.as (g.F.g.inv_in G).1 M G
 rw[e,<-pt_cf g k L oz hw];exact vc_pt oz (g.el.1 hw)
end
def zSB(g:LG O P C)(k:jq O P C):∃c,Lz (qO O) (Lu O) (kT O P C (Lu O)) (kO O P C (Lu O)) c/\rO (qO O) (Lu O)=O/\jo (qO O) (Lu O) (kT O P C (Lu O)) (kO O P C (Lu O)) (Lu O)=P/\jm (qO O) (Lu O) (kT O P C (Lu O)) (kO O P C (Lu O)) (Lu O)=C:=by
 obtain⟨I,β,L⟩:=g.lie k;obtain⟨c,z⟩:=lr_lz g k L;have s:=g.s;refine⟨c,z,?_,?_,?_⟩
 .refine UM aK λi D l=>?_
  have:=g.eq l
  rw[UI,sK af,<-this,dp l]
 .refine UM (by simp[jo,s.pl]) λi D l=>?_;have A:i<Lu O:=by rw[<-s.pl];exact l
  simp only[jo,UE,Ux];rw[zPA g k L z A];show P.getD i []=_;rw[YW,YQ l];rfl
 .refine UM (by simp[jm,s.cl]) λi D l=>?_;have A:i<Lu O:=by rw[<-s.cl];exact l
  have E:=s.row i A;rw[YW,YQ l]at E;have J:C[i].length=Lu O-1-i:=E;simp only[jm,UE,Ux];refine UM (by simp[lgR];omega) λq H G=>?_;simp only[lgR,UE,Ux];unfold lgC;rw[zPB g k L z (i:=i) (j:=i+(1+q)) af af]
  show(C.getD i []).getD (i+(1+q)-i-1) []=_
  rw[show i+(1+q)-i-1=q by omega,YW,YW,YQ l]
  show(C[i][q]?).getD []=_
  rw[YQ G];rfl
end
section
open Go.Im
section
variable(oz:Lz p n W B c)
noncomputable abbrev gC (p:Int) (n:Nat) (W:V2) (B:V3) (x y:V1):V1:=dM (rO p n) (jo p n W B n) (jm p n W B n) x y
noncomputable abbrev gI (p:Int) (n:Nat) (W:V2) (B:V3) (x:V1):V1:=yJ (rO p n) (jo p n W B n) (jm p n W B n) x
noncomputable abbrev gR (p:Int) (n:Nat) (W:V2) (B:V3) (x:V1) (q:Int):V1:=rt (rO p n) (jo p n W B n) (jm p n W B n) x q
noncomputable abbrev tG (p:Int) (n:Nat) (W:V2) (B:V3) (x:V1):V1:=Cn p n W B x n
include oz
theorem t_inv(l:gS (rO p n) x):tG p n W B (gI p n W B x)=ed p W (-1) (tG p n W B x):=by
 have G:=(mV oz).F.g;have o:=oz.r.o;have q:=oz.r.q;have H:=(G.inv_in l).1;have A:=(jx oz).1 l;have D:=(jx oz).1 H;have h:=(Qd oz A D).2;have e:rgm p n W B x (gI p n W B x)=zv (rO p n):=G.inv_r l;rw[e,Qm oz]at h;have E:=oz.inv_r (ji oz x);exact oz.gp.cancel (ji oz x) (ji oz _) (Qu o (ji oz x)) (h.symm.trans E.symm)
theorem t_pw(l:gS (rO p n) x)(k:Nat):tG p n W B (Grp.pw (gm (rO p n) (jo p n W B n) (jm p n W B n)) (zv (rO p n)) x k)=ed p W k (tG p n W B x):=by
 have M:=(mV oz).F.g.toMon;have A:=(jx oz).1 l;rw[<-oz.pw_eq (ji oz x)]
 induction k with
 |zero=>exact Qm oz
 |succ k ih=>
  have D:=(jx oz).1 (M.pw l k);show tG p n W B (rgm p n W B _ x)=jU p n W B (Grp.pw _ _ _ k) _;rw[<-ih];exact(Qd oz D A).2
theorem t_rt{w:V1}(hw:gS (rO p n) w){q:Int}(Q:Rt (rO p n) (jo p n W B n) (jm p n W B n) w q (gR p n W B w q))(M:mw (tG p n W B w)\/vh p q):tG p n W B (gR p n W B w q)=dv p n W q (tG p n W B w):=by
 have o:=oz.r.o;have G:=(mV oz).F.g;have Y:mw (Ep n (0:Int)):=λy R=>Yi R;refine dv_eq o (ji oz w) ?_ M;have d:=Zp o (ji oz w) (k:=q);rcases Q with ⟨A,E⟩|⟨A,j,y,m,Z,H,I,J⟩
 .rw[E,A,show tG p n W B (zv (rO p n))=Ep n 0 from Qm oz];have X:El p n (Ep n (0:Int)):=ZB o.pr;exact⟨X,λ_=>rfl,λ_=>dq.of_eq λj=>by rw[zb,Y9]⟩
 .rw[J,t_pw oz hw];have l:=ji oz w;refine⟨zK o l l,λV=>?_,λhc=>?_⟩
  .have e0:tG p n W B w=Ep n 0:=zHF l (ZB o.pr) λj hj=>by rw[ZW V,zb]
   have:w=zv (rO p n):=zJL oz ((jx oz).1 hw) (by rw[zv_rO];exact ZB o.pr) (by rw[Qm oz];exact e0)
   exact absurd this A
  .have hm:dq p n W (λj=>(m:Int)*at_ (tG p n W B w) j) λ_=>0:=by
    have D:=t_pw oz hw m;rw[H,show tG p n W B (zv (rO p n))=Ep n 0 from Qm oz]at D;refine(qK o l m).symm.trans ?_;rw[<-D];exact dq.of_eq λj=>zb n j
   obtain⟨s,hs⟩:∃s:Int,q*y=1+m*s:=by
    obtain⟨s,hs⟩:=Iq (a:=(m:Int)) (b:=q*y-1) (by rw[Ui,I];simp);exact⟨s,af⟩
   refine((qK o l y).mul q).trans ?_;refine(dq.of_eq (g:=λj=>at_ (tG p n W B w) j+s*((m:Int)*at_ (tG p n W B w) j)) λj=>?_).trans (((dq.refl _).add (hm.mul s)).trans (dq.of_eq λj=>af));rw[<-UR,hs];grind
theorem t_c1(l:El p n x)(A:El p n y):Lw p n W B 1 (at_ (comm p n W B x y)):=oz.comm_fil oz.fil l A (oz.r.all l)
theorem t_c2(l:El p n x)(A:El p n y){w:V1}(hw:El p n w):Lw p n W B 2 (at_ (comm p n W B (comm p n W B x y) w)):=oz.comm_fil oz.fil (Qo oz l A) hw (t_c1 oz l A)
theorem t_sum(l:gS (rO p n) x)(A:gS (rO p n) y):tG p n W B (tu (rO p n) (jo p n W B n) (jm p n W B n) x y)=j3 p W (tG p n W B x) (tG p n W B y):=by
 have g:=mV oz;have k:=zBR oz;have o:=oz.r.o;have q:=oz.r.q;have G:=g.F.g;have E:=G.com_in l A;have I:=QE g k l A l;have J:=QE g k l A A;have r1:=rT g E (ok2 g k l A (.inl rfl)) (.inl rfl);have r2:=rT g I.1 (sn g k l A l) (.inr rfl) (c:=12);have r3:=rT g J.1 (sn g k l A A) (.inr rfl) (c:=12);have X:=(jx oz).1 l;have Y:=(jx oz).1 A;have D:=ji oz x;have ty:=ji oz y;have H:tG p n W B (gC p n W B x y)=comm p n W B (tG p n W B x) (tG p n W B y):=zB2 oz X Y;have Z:=(jx oz).1 E;have ea:tG p n W B (gC p n W B (gC p n W B x y) x)=comm p n W B (comm p n W B (tG p n W B x) (tG p n W B y)) (tG p n W B x):=by
  refine(zB2 oz Z X).trans ?_;show comm p n W B (tG p n W B (gC p n W B x y)) (tG p n W B x)=_;rw[H]
 have eb:tG p n W B (gC p n W B (gC p n W B x y) y)=comm p n W B (comm p n W B (tG p n W B x) (tG p n W B y)) (tG p n W B y):=by
  refine(zB2 oz Z Y).trans ?_;show comm p n W B (tG p n W B (gC p n W B x y)) (tG p n W B y)=_;rw[H]
 have d1:=t_rt oz E r1 (by rw[H];exact(oz.r.two oz.hp oz.hc (Qo oz D ty) (t_c1 oz D ty)).imp id (·.1));have d2:=t_rt oz I.1 r2 (by rw[ea];exact(oz.r.twelve oz.hp oz.hc (Qo oz (Qo oz D ty) D) (t_c2 oz D ty D)).imp id (·.1));have d3:=t_rt oz J.1 r3 (by rw[eb];exact(oz.r.twelve oz.hp oz.hc (Qo oz (Qo oz D ty) ty) (t_c2 oz D ty ty)).imp id (·.1));have Q:=r1.gS g.F g.s E;have R:=r2.gS g.F g.s I.1;have V:=r3.gS g.F g.s J.1;have M:=(G.inv_in Q).1;have I3:=(G.inv_in V).1;have xy:=G.cl l A;have u1:=G.cl xy M;have u2:=G.cl u1 R;rw[<-oz.sumP D ty];unfold tu Go.Proofs.sumP;have m3:=(Qd oz ((jx oz).1 u2) ((jx oz).1 I3)).2;have m2:=(Qd oz ((jx oz).1 u1) ((jx oz).1 R)).2;have m1:=(Qd oz ((jx oz).1 xy) ((jx oz).1 M)).2;have m0:=(Qd oz X Y).2;have i1:=t_inv oz Q;have i3:=t_inv oz V;have A1:=i1.trans (congrArg (ed p W (-1)) (d1.trans (congrArg (dv p n W 2) H)));have A2:=d2.trans (congrArg (dv p n W 12) ea);have A3:=i3.trans (congrArg (ed p W (-1)) (d3.trans (congrArg (dv p n W 12) eb)));have e1:=m1.trans (congr (congrArg (jU p n W B) m0) A1);have e2:=m2.trans (congr (congrArg (jU p n W B) e1) A2);have e3:=m3.trans (congr (congrArg (jU p n W B) e2) A3);refine e3.trans ?_;show _=jU p n W B (jU p n W B (jU p n W B (jU p n W B (jU p n W B (Ep n 0) (tG p n W B x)) (tG p n W B y)) _) _) _;rw[oz.one_l D]
theorem t_br(l:gS (rO p n) x)(A:gS (rO p n) y):tG p n W B (gbr (rO p n) (jo p n W B n) (jm p n W B n) x y)=br p W B n (tG p n W B x) (tG p n W B y):=by
 have g:=mV oz;have k:=zBR oz;have o:=oz.r.o;have q:=oz.r.q;have G:=g.F.g;have E:=G.com_in l A;have H:=QE g k l A l;have I:=QE g k l A A;have ok:∀{w},gS (rO p n) w->(gC p n W B (gC p n W B x y) w≠zv (rO p n)->OkC (at_ (rO p n) 0) 2):=λ{w} wS h0=>by
  have Q:=ZQ (G.com_in E wS) h0;rcases k with k|⟨k,k1,k2⟩
  .rw[k]at Q;simp at Q
  .rcases g.isp Q with e|e|e|e
   .exact absurd (Z6 g.s g.F k2 af E wS) h0
   .exact .inr (.inr ⟨e,.inl rfl⟩)
   .exact .inl e
   .exact .inr (.inl e)
 have r2:=rT g H.1 (ok l) (.inl rfl) (c:=2);have r3:=rT g I.1 (ok A) (.inl rfl) (c:=2);have X:=(jx oz).1 l;have Y:=(jx oz).1 A;have D:=ji oz x;have ty:=ji oz y;have M:tG p n W B (gC p n W B x y)=comm p n W B (tG p n W B x) (tG p n W B y):=zB2 oz X Y;have J:=(jx oz).1 E;have ea:tG p n W B (gC p n W B (gC p n W B x y) x)=comm p n W B (comm p n W B (tG p n W B x) (tG p n W B y)) (tG p n W B x):=by
  refine(zB2 oz J X).trans ?_;show comm p n W B (tG p n W B (gC p n W B x y)) (tG p n W B x)=_;rw[M]
 have eb:tG p n W B (gC p n W B (gC p n W B x y) y)=comm p n W B (comm p n W B (tG p n W B x) (tG p n W B y)) (tG p n W B y):=by
  refine(zB2 oz J Y).trans ?_;show comm p n W B (tG p n W B (gC p n W B x y)) (tG p n W B y)=_;rw[M]
 have two:∀{w},El p n w->mw (comm p n W B (comm p n W B (tG p n W B x) (tG p n W B y)) w)\/vh p 2:=λ{w} hw=>(oz.r.two oz.hp oz.hc (Qo oz (Qo oz D ty) hw) (oz.r.down (t_c2 oz D ty hw))).imp id (·.1);have d2:=t_rt oz H.1 r2 (by rw[ea];exact two D);have d3:=t_rt oz I.1 r3 (by rw[eb];exact two ty);have V:=r2.gS g.F g.s H.1;have Z:=r3.gS g.F g.s I.1;have R:=(G.inv_in V).1;have I3:=(G.inv_in Z).1;have u1:=G.cl E R;rw[<-oz.brkP D ty];unfold gbr Go.Proofs.brkP;have m2:=(Qd oz ((jx oz).1 u1) ((jx oz).1 I3)).2;have m1:=(Qd oz J ((jx oz).1 R)).2;have i2:=t_inv oz V;have i3:=t_inv oz Z;have A2:=i2.trans (congrArg (ed p W (-1)) (d2.trans (congrArg (dv p n W 2) ea)));have A3:=i3.trans (congrArg (ed p W (-1)) (d3.trans (congrArg (dv p n W 2) eb)));have e1:=m1.trans (congr (congrArg (jU p n W B) M) A2);have e2:=m2.trans (congr (congrArg (jU p n W B) e1) A3);refine e2.trans ?_;show _=jU p n W B (jU p n W B (jU p n W B (Ep n 0) (comm p n W B (tG p n W B x) (tG p n W B y))) _) _;rw[oz.one_l (Qo oz D ty)]
theorem zGW{i:Nat}(l:i<n):tG p n W B (Grp.unit (rO p n) i)=cD n i:=by
 have el:(rO p n).length=n:=aK
 have e:Grp.unit (rO p n) i=cD n i:=by show(Ep (rO p n).length 0).set i 1=_;rw[el];rfl
 rw[e];have h:=zL7 oz (t:=0) (YV i) l;rw[Ed,B4 oz (zQ oz.r.o.pr l)]at h;exact h
end
section
variable[lM (GT (gS (rO p n)))]{β:GT (gS (rO p n))->GT (gS (rO p n))->GT (gS (rO p n))}(oz:Lz p n W B c)(L:LieOf (rO p n) (jo p n W B n) (jm p n W B n) β)
include oz L
theorem zRY:tG p n W B (0:GT (gS (rO p n))).1=Ep n 0:=by rw[L.zero1];exact Qm oz
theorem t_add(a b:GT (gS (rO p n))):dq p n W (at_ (tG p n W B (a+b).1)) λj=>at_ (tG p n W B a.1) j+at_ (tG p n W B b.1) j:=by
 rw[L.sum1,t_sum oz a.2 b.2];exact qZ oz.r.o (ji oz _) (ji oz _)
theorem t_mul(k:Int)(a:GT (gS (rO p n))):dq p n W (at_ (tG p n W B (k • a).1)) λj=>k*at_ (tG p n W B a.1) j:=by
 have nat:∀k:Nat,∀a:GT (gS (rO p n)),dq p n W (at_ (tG p n W B ((k:Int) • a).1)) λj=>(k:Int)*at_ (tG p n W B a.1) j:=λk a=>by
  rw[L.nat1,t_pw oz a.2];exact qK oz.r.o (ji oz _) k
 rcases If k with ⟨m,rfl|rfl⟩
 .exact nat m a
 .rw[Go.Im.neg_zsmul,L.neg1];have h:=t_inv oz ((m:Int) • a).2;rw[h];refine(qK oz.r.o (ji oz _) (-1)).trans (((nat m a).mul (-1)).trans (dq.of_eq λj=>?_));grind
theorem zN4(f:hK):∀m,m<=n->dq p n W (at_ (tG p n W B (lZ m λi=>f i • gU (rO p n) i).1)) λj=>if j<m then f j else 0
 |0,_=>by
  show dq p n W (at_ (tG p n W B (0:GT (gS (rO p n))).1)) _;rw[zRY oz L];exact dq.of_eq λj=>by rw[zb,DL af]
 |m+1,hm=>by
  have el:(rO p n).length=n:=aK
  refine(t_add oz L _ _).trans ((((zN4 f m af).add (t_mul oz L (f m) (gU (rO p n) m))).trans (dq.of_eq λj=>?_)));rw[gU1 (mV oz) af,zGW oz af,zw af];rcases Eo j m with h|h|h
  .rw[DK h,DL af,DK af];omega
  .rw[DL af,DK h,DK af,h];omega
  .rw[DL af,DL af,DL af];omega
theorem t_cf(E:gS (rO p n) x):cfG (rO p n) (jo p n W B n) (jm p n W B n) x=tG p n W B x:=by
 have g:=mV oz;have el:(rO p n).length=n:=aK
 obtain⟨l,H⟩:=zA9 g (zBR oz) L E;have D:=zN4 oz L (at_ (cfG (rO p n) (jo p n W B n) (jm p n W B n) x)) n (na _);have e:(lZ n λi=>at_ (cfG (rO p n) (jo p n W B n) (jm p n W B n) x) i • gU (rO p n) i)=GT.mk x E:=by
  rw[<-H];unfold ej;rw[el]
 rw[e]at D;have A:El p n (cfG (rO p n) (jo p n W B n) (jm p n W B n) x):=by
  rcases F4 n with h0|h0
  .subst h0;exact⟨l.1,λy G=>by rw[YU l.1]at G;cases G⟩
  .rw[el,sK af,wM h0]at l;exact l
 refine(qX oz.r.o (ji oz x).1 A.1 (ji oz x).2 A.2 (D.trans (dq.of_eq λj=>?_))).symm;split
 .rfl
 .exact(A.beyond af).symm
end
def zOE(z:Lz p n W B c)(J:0<n):qO (rO p n)=p/\kT (rO p n) (jo p n W B n) (jm p n W B n) (rO p n).length=W/\kO (rO p n) (jo p n W B n) (jm p n W B n) (rO p n).length=B:=by
 obtain⟨I,β,L⟩:=(mV z).lie (zBR z);have g:=mV z;have o:=z.r.o;have q:=z.r.q;have el:(rO p n).length=n:=aK
 have D:∀{i},i<n->gS (rO p n) (Grp.unit (rO p n) i):=λ{i} l=>g.s.unit af (YV _);have X:=z.hp.bd;refine⟨by rw[sK af,wM J],?_,?_⟩
 .refine UM (by simp[kT,o.len]) λi M A=>?_;have l:i<n:=by rw[<-o.len];exact A
  simp only[kT,UE,Ux];unfold lrP;rw[t_cf z L (g.F.g.toMon.pw (D l) _),t_pw z (D l),zGW z l,wM J,YD af,zOo o l,qJ A]
 .refine UM (by simp[kO,q.len]) λi M A=>?_;have l:i<n:=by rw[<-q.len];exact A
  simp only[kO,UE,Ux];have R:=q.row i A;refine UM (by simp[lrR,R]) λj V G=>?_;have Q:i+1+j<n:=af
  simp only[lrR,UE,Ux];unfold lrC;have E:i+(1+j)<n:=af
  rw[t_cf z L (zJ7 g (zBR z) (D l) (D E)),t_br z (D l) (D E),zGW z l,zGW z E];have H:=(q.ent i A j G).1;refine qX o (ey o q).1 H.1 (ey o q).2 H.2 ((ZY o q _ _).trans (dq.of_eq λt=>?_));rw[show i+(1+j)=i+1+j by omega,zPo Q,zM A,zM G]
end
section
open Go.Im
section
variable{O:V1}{P:V2}{C:V3}{w:V1}
abbrev gGam(O:V1)(P:V2)(C:V3)(k:Nat):V1->Prop:=BP O P C (sG (Lc O P C k))
def zG7(g:LG O P C)(k:Nat):gN O P C (gGam O P C k):=NC.sub g.F.g λl A=>(uB g.s g.F k l A).1
def zDI(g:LG O P C){N:V1->Prop}(hN:gN O P C N)(l:N w){q:Int}(D:Rt O P C w q (rt O P C w q)):N (rt O P C w q):=by
 obtain⟨j,A⟩:=rtp g.F (hN.inS l) D;rw[A];exact uc.pw hN l j
def zQ7(g:LG O P C)(H:jq O P C){N:V1->Prop}(hN:gN O P C N)(E:N x)(J:N y):N (tu O P C x y):=by
 have G:=g.F.g;have A:=hN.inS E;have l:=hN.inS J;have D:=hN.com_in G E l;have I:=hN.com_in G D A;have b1:=hN.com_in G D l;have r1:=zDI g hN D (rT g (hN.inS D) (ok2 g H A l (.inl rfl)) (.inl rfl));have r2:=zDI g hN I (rT g (hN.inS I) (sn g H A l A) (.inr rfl) (c:=12));have r3:=zDI g hN b1 (rT g (hN.inS b1) (sn g H A l l) (.inr rfl) (c:=12));exact hN.cl (hN.cl (hN.cl (hN.cl E J) (hN.inv r1)) r2) (hN.inv r3)
def zSK(g:LG O P C)(R:jq O P C){k:Nat}(J:gGam O P C k x)(D:gS O y):gGam O P C (k+1) (gbr O P C x y):=by
 have G:=g.F.g;have hN:=zG7 g (k+1);have Q:=(zG7 g k).inS J;have l:gGam O P C (k+1) (dM O P C x y):=zHU g.s g.F k J D;have H:=hN.inS l;have E:=hN.com_in G l Q;have b1:=hN.com_in G l D;have ok:∀{w},gS O w->(dM O P C (dM O P C x y) w≠zv O->OkC (at_ O 0) 2):=λ{w} M I=>by
  have A:=ZQ (G.com_in H M) I;rcases R with k|⟨k,X,V⟩
  .rw[k]at A;simp at A
  .rcases g.isp A with e|e|e|e
   .exact absurd (Z6 g.s g.F V af H M) I
   .exact .inr (.inr ⟨e,.inl rfl⟩)
   .exact .inl e
   .exact .inr (.inl e)
 have r2:=zDI g hN E (rT g (hN.inS E) (ok Q) (.inl rfl) (c:=2));have r3:=zDI g hN b1 (rT g (hN.inS b1) (ok D) (.inl rfl) (c:=2));exact hN.cl (hN.cl l (hN.inv r2)) (hN.inv r3)
end
section
variable(oz:Lz p n W B c)
include oz
theorem zS7(k:Nat):pY p n W λf=>∃x,gGam (rO p n) (jo p n W B n) (jm p n W B n) k x/\dq p n W f (at_ (tG p n W B x)):=by
 have g:=mV oz;have H:=zBR oz;have o:=oz.r.o;have hN:=zG7 g k;refine⟨⟨_,hN.one,dq.of_eq λj=>by rw[show tG p n W B (zv (rO p n))=Ep n 0 from Qm oz,zb]⟩,?_,?_,λf f' h ⟨x,l,A⟩=>⟨x,l,h.trans A⟩⟩
 .rintro f f' ⟨x,l,A⟩ ⟨y,D,E⟩
  refine⟨_,zQ7 g H hN l D,(A.add E).trans ?_⟩;rw[t_sum oz (hN.inS l) (hN.inS D)];exact(qZ o (ji oz x) (ji oz y)).symm
 .rintro k f ⟨x,l,A⟩
  have nat:∀m:Nat,dq p n W (λj=>(m:Int)*f j) (at_ (tG p n W B (Grp.pw (gm (rO p n) (jo p n W B n) (jm p n W B n)) (zv (rO p n)) x m))):=λm=>by
   rw[t_pw oz (hN.inS l)];exact(A.mul m).trans (qK o (ji oz x) m).symm
  rcases If k with ⟨m,rfl|rfl⟩
  .exact⟨_,uc.pw hN l m,nat m⟩
  .have hp:=uc.pw hN l m;refine⟨_,hN.inv hp,?_⟩;have G:=t_inv oz (hN.inS hp);rw[show tG p n W B (la (gS (rO p n)) (gm (rO p n) (jo p n W B n) (jm p n W B n)) (zv (rO p n)) _)=_ from G];refine dq.trans ?_ (qK o (ji oz _) (-1)).symm;exact(dq.of_eq λj=>by grind).trans ((nat m).mul (-1))
theorem zMF:∀{k:Nat} {u:V2},wV p n W B k u->∀v∈u,∃x,gGam (rO p n) (jo p n W B n) (jm p n W B n) k x/\dq p n W (at_ v) (at_ (tG p n W B x))
 |0,u,h=>λv A=>by
  have l:=(h.els oz.r.o).1 v A;have g:=mV oz;refine⟨yG p n W B v,zGM g.s g.F ((jx oz).2 (vc_el oz l)),?_⟩;rw[show tG p n W B (yG p n W B v)=v from pt_vc oz l];exact dq.refl _
 |k+1,u,h=>λv A=>by
  cases h with
  |succ h hc=>
   rename_i w;refine zEb (zS7 oz (k+1)) (λy D=>?_) ((hc.gen _).2 (zY A));obtain⟨a,J,D⟩:=UD.1 D;obtain⟨e,l,rfl⟩:=YI.1 D;have E:=zCQ oz.r.o.pr e l;obtain⟨x,G,I⟩:=zMF h a J;have g:=mV oz;have H:gS (rO p n) (yG p n W B e):=(jx oz).2 (vc_el oz E);have M:=(zG7 g k).inS G;refine⟨_,zSK g (zBR oz) G H,?_⟩;rw[t_br oz M H,show tG p n W B (yG p n W B e)=e from pt_vc oz E];exact(ZY oz.r.o oz.r.q _ _).trans ((zBA oz.r.o oz.r.q oz.r.nf _ I).trans (ZY oz.r.o oz.r.q _ _).symm)
theorem zRH{k:Nat}(h:Lc (rO p n) (jo p n W B n) (jm p n W B n) k=[]):c<=k:=by
 have g:=mV oz;obtain⟨u,D⟩:=zGp oz.r.o oz.r.q oz.hp k;have At:∀v∈u,mw v:=λv l=>by
  obtain⟨x,I,G⟩:=zMF oz D v l;have J:x=zv (rO p n):=zH6 g.s g.F h I;rw[J,show tG p n W B (zv (rO p n))=Ep n 0 from Qm oz]at G;exact Zd oz.r.o ((D.els oz.r.o).1 v l) (G.trans (dq.of_eq λj=>zb n j))
 have A:u=[]:=by
  refine Classical.byContradiction λH=>?_;obtain⟨v,t,e⟩:=Il H;have l:v∈u:=by rw[e];simp
  have M:=At v l;have R:=(D.els oz.r.o).1 v l;cases D with
  |zero=>
   have A:0<n:=by
    rcases F4 n with h|h
    .subst h;simp[jg]at l
    .exact h
   have Q:cD n 0∈jg n:=by unfold jg;exact YI.2 ⟨0,UC.2 A,rfl⟩
   have:=At _ Q (at_ (cD n 0) 0) (by rw[dp (by rw[(zQ (n:=n) oz.r.o.pr A).1];exact A)];exact YZ _)
   rw[zw A,DK rfl]at this;omega
  |succ h sH=>
   have E:=sH.base.led v l
   have:=M (at_ v (cX v)) (by rw[dp (by rw[E.1.1];exact E.2.1)];exact YZ _)
   rw[E.2.2]at this;omega
 rw[A]at D;exact oz.r.cls.le_of D
theorem zRG{k:Nat}(h:Lc (rO p n) (jo p n W B n) (jm p n W B n) k=[])(A:∀j,j<k->Lc (rO p n) (jo p n W B n) (jm p n W B n) j≠[]):c=k:=by
 have l:=zRH oz h;rcases YG c k with h3|h3
 .refine absurd ?_ (A c h3);refine List.eq_nil_iff_forall_not_mem.2 λx D=>?_;obtain⟨l,A⟩:=zJl oz c x D;have E:=oz.r.zero (na _) (ji oz x) A;refine(uB (zBQ oz) (mV oz).F c x D).2 (zJL oz l (by rw[zv_rO];exact ZB oz.r.o.pr) ?_);rw[Qm oz];refine UM (by rw[(ji oz x).1];simp) λi l A=>?_;rw[E _ (YZ l)];simp
 .omega
end
end
end Go.Proofs
