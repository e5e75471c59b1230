/- . -/
import Derived.Test.YtnfnaniemocleaaGreatQP8
set_option linter.all false
set_option linter.defProp false
open Go.IntKind renaming wrap->Lp
open List renaming length->Lu
open Go.Proofs.Tryz renaming prog->Li
open Bool renaming true->DF
open List renaming all_cons->Ej,all_nil->Em,drop_zero->EC,ext_getElem?->En,getElem?_cons_succ->D3,getElem?_cons_zero->Hk,getElem?_of_mem->Ic,length->F6,length_nil->Eg,map_congr_left->EA,mem_or_eq_of_mem_set->Hs,nodup_append->FQ,nodup_cons->He,nodup_nil->FK,range->DO,range_succ->Ia,replicate->Ep,set_cons_succ->Ib,set_cons_zero->Eu,zipWith->FD
open Nat renaming eq_zero_or_pos->F4,mul_le_mul->Kq,mul_one->Fe,ne_of_lt->Ev
open Option renaming map_some->EF,some->Dc
open Prod renaming fst->Lb
open True renaming intro->DJ
open Int renaming reduceNatCast'->ae
set_option maxRecDepth 100000
namespace Go.Grp
section
section
variable{α:Type}[Inhabited α]{S:α->Prop}{m:α->α->α}{e:α}{a c x y z:α}
def Gp.inv_inv(G:Gp S m e)(l:S a):la S m e (la S m e a)=a:=(G.inv_eq (G.inv_in l).1 l (G.inv_l l)).symm
def Gp.com_swap(G:Gp S m e)(l:S x)(u:S y):iN S m e y x=la S m e (iN S m e x y):=by
 have A:=G.com_in l u;have D:=(G.inv_in A).1;refine(G.com_eq u l D ?_).symm;have E:=G.com_spec l u;rw[<-E,G.as (G.cl u l) A D,G.inv_r A,G.r1 (G.cl u l)]
def Gp.inv_one(G:Gp S m e):la S m e e=e:=(G.inv_eq G.one G.one (G.l1 G.one)).symm
def Cm(S:α->Prop)(m:α->α->α)(a:α):Prop:=S a/\∀z,S z->m a z=m z a
def Gp.cm_of(G:Gp S m e)(l:S a)(h:∀z,S z->iN S m e a z=e):Cm S m a:=⟨l,λz u=>by
 have A:=G.com_spec l u;rw[h z u,G.r1 (G.cl u l)]at A;exact A.symm⟩
def Gp.cm_pw(G:Gp S m e)(h:Cm S m a)(k:Nat):Cm S m (Grp.pw m e a k):=by
 refine⟨G.toMon.pw h.1 k,λz l=>?_⟩
 induction k with
 |zero=>show m e z=m z e;rw[G.l1 l,G.r1 l]
 |succ k ih=>
  show m (m (Grp.pw m e a k) a) z=m z (m (Grp.pw m e a k) a);have u:=G.toMon.pw h.1 k;rw[G.as u h.1 l,h.2 z l,<-G.as u l h.1,ih,G.as l u h.1]
def Gp.com_inv(G:Gp S m e)(l:S c)(A:S y)(h:Cm S m (iN S m e c y)):iN S m e (la S m e c) y=la S m e (iN S m e c y):=by
 have u:=(G.inv_in l).1;have E:=G.com_in l A;have D:=G.com_mul l u A;rw[G.inv_r l,G.com_one A]at D;have I:iN S m e c y=cnj S m e (iN S m e c y) (la S m e c):=G.cnj_eq E u E (h.2 _ u).symm;rw[<-I]at D;exact G.inv_eq E (G.com_in u A) D.symm
def Gp.pw_inv(G:Gp S m e)(l:S z):∀k,Grp.pw m e (la S m e z) k=la S m e (Grp.pw m e z k)
 |0=>G.inv_one.symm
 |k+1=>by
  have u:=(G.inv_in l).1;have D:=G.toMon.pw l k;have A:=G.toMon.pw u k;refine G.inv_eq (G.cl D l) (G.cl A u) ?_;show m (m (Grp.pw m e z k) z) (m (Grp.pw m e (la S m e z) k) (la S m e z))=e;rw[G.toMon.pw_comm u k,G.as D l (G.cl u A),<-G.as l u A,G.inv_r l,G.l1 A,G.pw_inv l k,G.inv_r D]
end
variable{O:V1}{P:V2}{C:V3}{x y z w:V1}
open Go.Lie Go.Ab
def rti(F:Full O P C (Lu O))(l:gS O z){c:Int}(h:Rt O P C z c w):Rt O P C (la (gS O) (gm O P C) (zv O) z) c (la (gS O) (gm O P C) (zv O) w):=by
 have G:=F.g;rcases h with ⟨rfl,rfl⟩|⟨u,j,y,n,A,D,E,rfl⟩
 .exact .inl ⟨G.inv_one,G.inv_one⟩
 .refine .inr ⟨λe=>u ?_,j,y,n,A,?_,E,(G.pw_inv l y).symm⟩
  .rw[<-G.inv_inv l,e,G.inv_one]
  .rw[G.pw_inv l,D,G.inv_one]
def rtp(F:Full O P C (Lu O))(E:gS O z){c:Int}(h:Rt O P C z c w):∃k,w=Grp.pw (gm O P C) (zv O) z k:=by
 rcases h with ⟨rfl,rfl⟩|⟨l,j,y,n,u,A,D,rfl⟩
 .exact⟨0,rfl⟩
 .exact⟨y,rfl⟩
def rts(F:Full O P C (Lu O))(l:gS O z)(h:Rt O P C z 2 w):gm O P C w w=z:=by
 have G:=F.g;rcases h with ⟨rfl,rfl⟩|⟨D,j,y,n,E,u,A,rfl⟩
 .exact G.l1 G.one
 .rw[<-G.toMon.pw_add l,<-show Grp.pw (gm O P C) (zv O) z 1=z from G.toMon.pw_one l];rw[G.toMon.pw_one l];refine(zBr F l u ?_).trans (G.toMon.pw_one l);rw[show((y+y:Nat):Int)=2*y by omega,A];rfl
section
variable(s:jl O P C)(F:Full O P C (Lu O))(hC:sc O C)
include s F hC
theorem zSR(N:2<=Lu O)(I:gS O x)(E:gS O y):TT O 2 (dM O P C x y):=by
 have G:=F.g;have D:=zC1 s F hC N;have l:∀i,i<Lu O->gS O (unit O i):=λi u=>s.unit u (YV _);have J:∀i,i<Lu O->1<=i->∀{y:V1},gS O y->TT O 2 (dM O P C (unit O i) y):=λi u M y E=>Qw s F hC (t:=1) af (s.unit u M) E;have U:∀{y:V1},gS O y->TT O 2 (dM O P C (unit O 0) y):=λ{y} E=>by
  refine zE8 s F D (l 0 af) (λj A=>?_) E;by_cases e:j=0
  .subst e;rw[show dM O P C (unit O 0) (unit O 0)=zv O from(G.com_eq (l 0 A) (l 0 A) G.one (G.r1 (G.cl (l 0 A) (l 0 A)))).symm];exact D.one
  .rw[show dM O P C (unit O 0) (unit O j)=_ from G.com_swap (l j A) (l 0 af)];exact D.inv (J j A af (l 0 af))
 refine zE8 s F D I (λi u=>?_) E;rw[show dM O P C x (unit O i)=_ from G.com_swap (l i u) I];refine D.inv ?_;by_cases e:i=0
 .subst e;exact U I
 .exact J i u af I
theorem com4(J:(Lu O)<=4)(D:gS O x)(E:gS O y){u v:V1}(l:gS O u)(A:gS O v):dM O P C (dM O P C (dM O P C x y) u) v=zv O:=by
 have G:=F.g;have I:=G.com_in D E;have hd:=G.com_in I l;have nil:∀{t:Nat} {x:V1},TT O t x->(Lu O)<=t->x=zv O:=λh U=>h.ext (s.zv _) λj N h2=>by omega
 have one:∀{z:V1},gS O z->dM O P C (zv O) z=zv O:=λM=>G.com_one M;rcases YG (Lu O) 2 with h|h
 .have:dM O P C x y=zv O:=by
   rcases YG 0 (Lu O) with g|g
   .exact nil (Qw s F hC g D E) af
   .exact nil (t:=0) I af
  rw[this,one l,one A]
 .have t2:=zSR s F hC h D E;rcases YG 2 (Lu O) with h2|h2
  .have t3:=Qw s F hC h2 t2 l;rcases YG 3 (Lu O) with h3|h3
   .exact nil (Qw s F hC h3 t3 A) J
   .rw[nil t3 h3,one A]
  .rw[nil t2 h2,one l,one A]
end
end
end Go.Grp
namespace Go.Proofs
open Go.Ab Go.Lie
variable{p:Int}{cO pc:List PV}{c n p0 sO sp:Nat}{H h σ:cg}{vC vO vP vz:PV}{K:PV->cg->Prop}{O x y z:V1}{P:V2}{C:V3}
section
open Go.Grp
variable{w:V1}
def rT(g:LG O P C)(u:gS O z){c:Int}(M:z≠zv O->OkC (at_ O 0) c)(X:c=2\/c=12):Rt O P C z c (rt O P C z c):=by
 by_cases l:z=zv O
 .exact zC4 (w:=zv O) (.inl ⟨l,rfl⟩)
 .have h0:=ZQ u l;have hp:=(g.isp h0).bd;have J:=g.bound h0 (na (Lu O));have G:∀i,i<=Lu O->TT O i (Grp.pw (gm O P C) (zv O) z ((at_ O 0).toNat ^ i)):=by
   intro i Z
   induction i with
   |zero=>rw[Nat.pow_zero,g.F.g.toMon.pw_one u];exact u
   |succ i ih=>
    have:=zAR g.s g.F g.cent (show i<(Lu O) by omega) (ih af)
    rw[g.eq (show i<(Lu O) by omega),<-g.F.g.toMon.pw_mul u]at this;rw[Nat.pow_succ];exact this
  have A:(((at_ O 0).toNat ^ (Lu O):Nat):Int)=at_ O 0 ^ (Lu O):=by
   rw[Int.natCast_pow,YD af]
  have E:Grp.pw (gm O P C) (zv O) z ((at_ O 0).toNat ^ (Lu O))=zv O:=(G _ (na _)).ext (g.s.zv _) λj U V=>by omega
  obtain⟨Y,I⟩:=zDG (M l) A af (c:=c) af;have N:((at_ O 0).toNat ^ (Lu O):Nat)≠0:=λe=>by have D:=J.1;rw[<-A,e]at D;simp at D
  have b1:=Y3 Y (show(((at_ O 0).toNat ^ (Lu O):Nat):Int)≠0 by omega);refine zC4 (w:=Grp.pw (gm O P C) (zv O) z (Y % ((at_ O 0).toNat ^ (Lu O):Nat)).toNat) (.inr ⟨l,(Lu O),_,_,A,E,?_,rfl⟩);rw[YD b1,Uw,UK _ (Uk _),<-Uw];exact I
def QE(g:LG O P C)(k:jq O P C)(A:gS O x)(D:gS O y)(l:gS O z):Cm (gS O) (gm O P C) (dM O P C (dM O P C x y) z):=by
 have G:=g.F.g;have E:=G.com_in A D;have hd:=G.com_in E l;refine G.cm_of hd λv u=>?_;have small:(Lu O)<=4->dM O P C (dM O P C (dM O P C x y) z) v=zv O:=λh=>com4 g.s g.F g.cent h A D l u;rcases YG 0 (Lu O) with h0|h0
 .rcases k with k|⟨k,J,I⟩
  .rw[k]at h0;simp at h0
  .rcases g.isp h0 with e|e|e|e
   .have:dM O P C (dM O P C x y) z=zv O:=Z6 g.s g.F I af E l
    rw[this];exact G.com_one u
   .have:dM O P C (dM O P C x y) z=zv O:=zCi g.s g.F I af A D l
    rw[this];exact G.com_one u
   all_goals
    refine small ?_;rcases YG 4 (Lu O) with h5|h5
    .have:=(g.bound h0 (i:=5) af).2
     rw[e]at this;exact absurd this LB
    .exact h5
 .exact small af
def zPU(g:LG O P C)(k:jq O P C)(l:gS O x)(A:gS O y):tu O P C x y=tu O P C y x:=by
 have G:=g.F.g;have F:=g.F;have E:=G.com_in l A;have I:=QE g k l A l;have J:=QE g k l A A;have X:=rT g E (ok2 g k l A (.inl rfl)) (.inl rfl);have Z:=rT g I.1 (sn g k l A l) (.inr rfl) (c:=12);have Y:=rT g J.1 (sn g k l A A) (.inr rfl) (c:=12);have V:dM O P C y x=yJ O P C (dM O P C x y):=G.com_swap l A;have e2:dM O P C (dM O P C y x) x=yJ O P C (dM O P C (dM O P C x y) x):=by rw[V];exact G.com_inv E l I
 have e3:dM O P C (dM O P C y x) y=yJ O P C (dM O P C (dM O P C x y) y):=by rw[V];exact G.com_inv E A J
 have iS:=(G.inv_in E).1;have f1:=rt_eq g iS (rti F E X);have f2:=rt_eq g (G.inv_in I.1).1 (rti F I.1 Z);have f3:=rt_eq g (G.inv_in J.1).1 (rti F J.1 Y);have sq:gm O P C (rt O P C (dM O P C x y) 2) (rt O P C (dM O P C x y) 2)=dM O P C x y:=rts F E X;have D:=X.gS F g.s E;obtain⟨ka,ea⟩:=rtp F I.1 Z;obtain⟨kb,eb⟩:=rtp F J.1 Y;have M:=G.cm_pw I ka;rw[<-ea]at M;have bS:=Y.gS F g.s J.1;unfold tu;rw[e2,e3,V,<-f1,<-f2,<-f3];generalize rt O P C (dM O P C x y) 2=h at *
 generalize rt O P C (dM O P C (dM O P C x y) x) 12=R at *
 generalize rt O P C (dM O P C (dM O P C x y) y) 12=Q at *
 have MA:=(G.inv_in D).1;have U:=(G.inv_in bS).1;have N:=G.cl A l;rw[show yJ O P C (yJ O P C h)=h from G.inv_inv D,show yJ O P C (yJ O P C R)=R from G.inv_inv M.1];have e4:gm O P C (gm O P C x y) (yJ O P C h)=gm O P C (gm O P C y x) h:=by
  have h1:gm O P C (gm O P C y x) (dM O P C x y)=gm O P C x y:=G.com_spec l A;rw[<-h1,<-sq,<-G.as N D D,G.as (G.cl N D) D MA,show gm O P C h (yJ O P C h)=zv O from G.inv_r D,G.r1 (G.cl N D)]
 have u:=G.cl N D;rw[e4,G.as u M.1 U,G.as u U M.1,M.2 _ U]
end
section
open Go.Grp
noncomputable def nB(O:V1)(P:V2)(C:V3)(z:V1):Nat->V1×V1
 |0=>(Ep (Lu O) 0,z)
 |i+1=>((nB O P C z i).1.set i (at_ (nB O P C z i).2 i),tu O P C (yJ O P C (Grp.pw (gm O P C) (zv O) (Grp.unit O i) (at_ (nB O P C z i).2 i).toNat)) (nB O P C z i).2)
def zAQ:∀i,(nB O P C z i).1.length=Lu O
 |0=>YL ..
 |i+1=>by rw[nB,YA];exact zAQ i
def zI7(g:LG O P C)(k:jq O P C)(l:gS O z):∀{i:Nat},i<=Lu O->gS O (nB O P C z i).2
 |0,_=>l
 |i+1,hi=>zSG g k (g.F.g.inv_in (g.F.g.toMon.pw (g.s.unit af (YV _)) _)).1 (zI7 g k l af)
noncomputable def cfG(O:V1)(P:V2)(C:V3)(z:V1):V1:=(nB O P C z (Lu O)).1
def zKc(g:LG O P C)(k:jq O P C)(hs:jh σ sp vO vP vC)(I:dU vO vP vC O P C)(Y:gS O z)(pd:FI vz z)(hk:∀cap,full 1 cap (Lu O)->K (.sl σ.aM 0 (Lu O) cap) (σ.bf (cS (cfG O P C z)))):
  zA Li 47 [.ptr sp 0,vz] σ K:=by
 have s:=g.s;have F:=g.F;have G:=F.g;have aX:=s.le;have U:=Y.len;obtain⟨wx,ax,rfl⟩:=pd;refine zA.gh ?_;have an:¬sp=σ.aM:=Ev hs.lt;refine Lg Tryz.func47 ?_;simp only[Z3,seval,-ae,U,YL,zh,uK (n:=(Lu O)) af,tn (n:=(Lu O)) af];refine zF (λm vs h'=>∃i v,i<=Lu O/\m=Lu O-i/\vs=[.ptr sp 0,v,.sl σ.aM 0 (Lu O) (.b6 (Lu O)),.int .i64 (Lu O),.int .i64 (i:Nat)]/\h'=σ.bf (cS (nB O P C z i).1)/\FI v (nB O P C z i).2) (Lu O) ?_ ?_
 .exact⟨0,.fz wx ax (Lu O) (cS z),af,af,rfl,rfl,⟨_,_,by rw[show(nB O P C z 0).2=z from rfl,U]⟩⟩
 rintro m vs h' ⟨i,v,hi,rfl,rfl,rfl,X⟩
 refine Lk ?_;refine Ll (λaG=>?_) λl=>?_
 .have aU:i=Lu O:=af
  subst aU;exact Gh.np (zC σ _) (by refine Lk ?_;rfl) (na _) (zL _ _) (hk _ (.inr rfl))
 have u:=zI7 g k Y hi;have hb:=u.bd i l;have nE:=u.len;have lh:=zAQ (P:=P) (C:=C) (O:=O) (z:=z) i;have E:i<(nB O P C z i).2.length:=af
 have D:i<(nB O P C z i).1.length:=af
 have hp:=(g.isp af).bd;have heq:=g.eq l;have Z:=X;obtain⟨w0,a0,rfl⟩:=X;rw[nE]at Z;have di:(cS (nB O P C z i).1).take i++[.int .i64 (at_ (nB O P C z i).2 i)]++(cS (nB O P C z i).1).drop (i+1)=cS (nB O P C z (i+1)).1:=zX D;have M:jh (σ.bf (cS (nB O P C z (i+1)).1)) sp vO vP vC:=hs.bf _;have J:gS O (Grp.unit O i):=s.unit l (YV _);have V:=G.toMon.pw J (at_ (nB O P C z i).2 i).toNat;simp only[Z3,seval,-ae,l,xL E,E,D,UX D,zJ,di,nE];refine zm af l λa1=>?_;simp only[Z3,seval,-ae,xL E];refine zAN s F M I (a:=Grp.unit O i) (up_ J) ⟨DF,a1,by rw[J.len];rfl⟩ (k:=at_ (nB O P C z i).2 i) af λv1 f1=>?_;refine Lk ?_;refine zEX s F M I (up_ V) f1 λv2 N t2 m2 f2=>?_;have A:gS O N:=by rw[Yk]at t2;exact t2
 have e2:N=yJ O P C _:=G.inv_eq V A m2;refine Lk ?_;refine zA.fzI (λK'=>λhr=>zLg g k M I u A Z f2 λ_=>hr) λa3=>?_;have e3:tu O P C (nB O P C z i).2 N=(nB O P C z (i+1)).2:=by rw[zPU g k u A,e2];rfl
 rw[e3];simp only[Z3,seval,-ae,WX l];exact⟨_,af,i+1,_,af,rfl,rfl,rfl,⟨_,_,rfl⟩⟩
def zBS(g:LG O P C)(k:jq O P C)(u:dU vO vP vC O P C)(Y:gS O z)(pd:FI vz z)(hk:∀v,FI v (cfG O P C z)->K v σ):
  zA Li 97 [.agg [vO,vP,vC],vz] σ K:=by
 have s:=g.s;have F:=g.F;have G:=F.g;have aX:=s.le;have I:=Y.len;have h0:=u.O.one;have h1:=u.P.one;have h2:=u.C.one;have D:=u;obtain⟨⟨wO,aO,rfl⟩,_,_⟩:=u;obtain⟨wx,ax,rfl⟩:=pd;refine Lh Tryz.func97 ?_;simp only[Z3,seval,-ae,h0,h1,h2,I,YL,zh,uK (n:=(Lu O)) af,tn (n:=(Lu O)) af];refine zF (λm vs h'=>∃i v,i<=Lu O/\m=Lu O-i/\vs=[.ptr σ.aM 0,.int .i64 (Lu O),.sl (σ.aM+1) 0 (Lu O) (.b6 (Lu O)),v,.int .i64 (i:Nat)]/\h'=(σ.bf [.fz wO aO (Lu O) (cS O),vP,vC]).bf (cS (nB O P C z i).1)/\FI v (nB O P C z i).2) (Lu O) ?_ ?_
 .exact⟨0,.fz wx ax (Lu O) (cS z),af,af,rfl,rfl,⟨_,_,by rw[show(nB O P C z 0).2=z from rfl,I]⟩⟩
 rintro m vs h' ⟨i,v,hi,rfl,rfl,rfl,X⟩
 refine Lk ?_;refine Ll (λaG=>?_) λl=>?_
 .have aU:i=Lu O:=af
  subst aU;exact Gh.finF (s:=σ.aM+1) ((zC σ _).bf _) (by refine Lk ?_;rfl) (UW _) (zL _ _) (by simp[gk,zAQ]) λo1=>hk _ ⟨DF,_,by rw[show(cfG O P C z).length=(Lu O) from zAQ _];rfl⟩
 have E:=zI7 g k Y hi;have hb:=E.bd i l;have nE:=E.len;have lh:=zAQ (P:=P) (C:=C) (O:=O) (z:=z) i;have U:i<(nB O P C z i).2.length:=af
 have A:i<(nB O P C z i).1.length:=af
 have hp:=(g.isp af).bd;have heq:=g.eq l;have Z:=X;obtain⟨w0,a0,rfl⟩:=X;rw[nE]at Z;have di:(cS (nB O P C z i).1).take i++[.int .i64 (at_ (nB O P C z i).2 i)]++(cS (nB O P C z i).1).drop (i+1)=cS (nB O P C z (i+1)).1:=zX A;have M:at_ (nB O P C z (i+1)).1 i=at_ (nB O P C z i).2 i:=by rw[nB,dp (by rw[YA];exact A)];simp
 have N:i<(nB O P C z (i+1)).1.length:=by rw[zAQ];exact l
 have V:gS O (Grp.unit O i):=s.unit l (YV _);have J:=G.toMon.pw V (at_ (nB O P C z i).2 i).toNat;have S2:=(G.inv_in J).1;simp only[Z3,seval,-ae,l,xL U,U,A,UX A,zJ,di,nE,xL N,M];refine QQ af l λv1 f1=>?_;simp only[Z3,seval,-ae,xL N,M];refine zCc g D (x:=Grp.unit O i) V f1 (k:=at_ (nB O P C z i).2 i) af λv2 f2=>?_;refine Lk ?_;refine zAV s g.co D J f2 λv3 f3=>?_;refine Lk ?_;refine zPH g k D S2 E f3 Z λv4 f4=>?_;simp only[Z3,seval,-ae,WX l];exact⟨_,af,i+1,v4,af,rfl,rfl,rfl,f4⟩
end
section
variable{ls:List (Option LS)}
def TI.setO(a:TI σ h p0 sO vO vP vC cO pc ls)(Y:List PV):TI σ (h.set sO Y) p0 sO vO vP vC Y pc ls:=by
 have D:=a.p0b;have hs:=a.sOb;refine⟨a.cf.set hs.1 _,by rw[zG,DL a.pO];exact a.bt,D,by rw[zG,DK rfl],hs,a.pO,?_,?_,λq A=>?_,a.nd,a.neP,a.neC,a.neL,a.nePC⟩
 .exact zAU a.accP (λs off l c e=>by rw[zG,DL λu=>a.neP sO (.inr (.inr rfl)) off l c (by rw[e,u])]) (na _)
 .exact zAU a.accC (λs off l c e=>by rw[zG,DL λu=>a.neC sO (.inr (.inr rfl)) off l c (by rw[e,u])]) (na _)
 .refine(a.ok q A).move ?_ (na _);rw[zG,DL λe=>a.neL.2 (by rw[<-e];exact LS.mem_slots.2 ⟨q,A,rfl⟩)]
def zKm(dg:1<=n)(aX:n<=6)
  (hk:∀vP vC pc ls h,TI σ h (σ.aM+1) σ.aM (.int .i64 p) vP vC [.int .i64 p,vP,vC] pc ls->(Lu pc)=n->(Lu ls)=n->zCM n ls->K (.agg [.int .i64 p,vP,vC]) h):
  zA Li 46 [.int .i64 p,.int .i64 n] σ K:=by
 refine Lg Tryz.func46 ?_;refine Lk ?_;refine zF (λm E h'=>∃(i:Nat) (vP vC:PV) (pc:List PV) (ls:List (Option LS)),i<=n/\m=n-i/\E=[.int .i64 n,.ptr σ.aM 0,.ptr (σ.aM+1) 0,.int .i64 n,.int .i64 i]/\TI σ h' (σ.aM+1) σ.aM (.int .i64 p) vP vC [.int .i64 0,Ln,Ln] pc ls/\Lu pc=i/\Lu ls=i/\zCM n ls) n ?_ ?_
 .exact⟨0,_,_,[],[],af,af,rfl,⟨(zC σ _).bf _,by simp only[Z3,seval,-ae],⟨af,by simp only[Z3,seval,-ae]⟩,by simp only[Z3,seval,-ae],⟨na _,by refine Lk ?_;omega⟩,af,ei.nil _ _ _,ei.nil _ _ _,λq hq=>(by cases hq),FK,λs hs off l c e=>(by cases e),λs hs off l c e=>(by cases e),⟨λh=>(by cases h),λh=>(by cases h)⟩,λs off l c e=>(by cases e)⟩,rfl,rfl,λj hj=>absurd hj aK⟩
 as_aux_lemma=>
 rintro m E h' ⟨i,vP,vC,pc,ls,hi,rfl,rfl,a,je,lV,dO⟩
 have Z:vP.one=DF/\vC.one=DF:=⟨a.accP.one,a.accC.one⟩;have q0:h'.dR (σ.aM+1) 1=Dc vP:=by rw[zH a.bt];rfl
 have q3:h'.rd (σ.aM+1) 0 3=Dc [.int .i64 p,vP,vC]:=by rw[zV a.bt];rfl
 refine Lk ?_;refine Ll (λaG=>?_) λah=>?_
 .have aU:i=n:=af
  have oH:h'.wr σ.aM 0 [.int .i64 p,vP,vC]=Dc (h'.set σ.aM [.int .i64 p,vP,vC]):=by
   rw[zR a.oO,DK ⟨aK,by simp only[Ej,Em,Z.1,Z.2];rfl⟩];rfl
  have cM:(h'.set σ.aM [.int .i64 p,vP,vC]).rd σ.aM 0 3=Dc [.int .i64 p,vP,vC]:=by rw[zi,DK rfl];rfl
  have:=hk vP vC pc ls _ (a.setO _) af af dO
  simp only[Z3,seval,-ae,q3,oH,cM];exact this
 have aq:i<n:=af
 have mk:=uK (n:=n) af;have jX:¬σ.aM+1=h'.aM:=by have:=a.p0b.2;omega
 have iM:¬σ.aM=h'.aM:=by have:=a.sOb.2;omega
 simp only[Z3,seval,-ae,q0,mk,tn (n:=n) af,YL,jX,iM];refine TI.pushP (a.keepI (zC h' _)) ⟨rfl,Z.2⟩ af λv2 h2 u1 u2 U D l2=>?_;simp only[Z3,seval,-ae,u1,u2,U];clear u1 u2 U q0 q3 jX iM;generalize h2.set (σ.aM+1) [.int .i64 p,v2,vC]=hb at *
 have bG:Lp .i64 ((n:Int)-1)=((n-1:Nat):Int):=WQ
 have ta:Lp .i64 (((n-1:Nat):Int)-i)=((n-1-i:Nat):Int):=WQ
 simp only[Z3,seval,-ae,bG,ta];refine zF (λm E A=>∃(q:Nat) (G:PV) (cells:List PV),q<=n-1-i/\m=n-1-i-q/\E=[.int .i64 n,.ptr σ.aM 0,.ptr (σ.aM+1) 0,G,.int .i64 n,.int .i64 i,.int .i64 ((n-1-i:Nat):Int),.int .i64 q]/\cT hb A/\ei hb.aM 1 A G q cells/\(q=0->G=Ln)) (n-1-i) ⟨0,_,[],af,rfl,rfl,cT.refl _,ei.nil _ _ _,λ_=>rfl⟩ ?_
 rintro m E A ⟨q,G,cells,hq,rfl,rfl,k3,N,ef⟩
 have b:=D.keepI k3;have q2:A.dR (σ.aM+1) 2=Dc vC:=by rw[zH b.bt];rfl
 refine Lk ?_;refine de (λiO=>?_) λpM=>?_
 .have aT:q<n-1-i:=af
  have e5:Lp .i64 ((q:Int)+1)=((q+1:Nat):Int):=gX aT af;simp only[Z3,seval,-ae,mk,tn (n:=n) af,YL];refine ei.push (bytes:=24) (σb:=hb) (k3.bf _) (N.cf (zC _ _)) af af λv' h4 k4 p4=>?_;simp only[Z3,seval,-ae,e5];exact⟨_,af,q+1,v',_,af,rfl,rfl,k4,p4.acc,λh=>af⟩
 have jr:q=n-1-i:=af
 have an:¬σ.aM+1=A.aM:=by have:=b.p0b.2;omega
 have pV:=N.one;have pU:=N.cells;have u4:hb.aM<=A.aM:=k3.aM;obtain⟨o,ho,ux⟩:∃o:Option LS,LS.pvo o=G/\((o=none/\q=0)\/∃s c,o=Dc ⟨s,c,cells⟩/\Lu cells=q/\0<q/\full 1 c q/\A.bt s=Dc cells/\hb.aM<=s/\s<A.aM):=by
  rcases F4 q with e|e
  .exact⟨none,(ef e).symm,.inl ⟨rfl,e⟩⟩
  .obtain⟨s,c,rfl,V,I,X,Y,J⟩:=N.pos e;exact⟨Dc ⟨s,c,cells⟩,by simp only[LS.pvo,LS.pv];rw[show (Lu cells)=q by omega],.inr ⟨s,c,rfl,af,e,V,I,Y,J⟩⟩
 subst ho;simp only[Z3,seval,-ae,q2,pV,pU,an];refine TI.pushC b ⟨rfl,b.accP.one⟩ af (λq' e=>?_) λv5 h5 u1 u2 U a5 l5=>?_
 .rcases ux with ⟨u,_⟩|⟨s,c,u,z0,V,I,X,Y,J⟩
  .rw[u]at e;cases e
  .rw[u]at e;cases e;have xv:=D.p0b;have jf:=D.sOb;refine⟨⟨by rw[z0];exact I,X,by have:=D.cf.aM;show σ.aM<=s;omega,J⟩,λhm=>?_,by show s≠_;omega,by show s≠_;omega,λoff l c' M=>?_,λoff l c' M=>?_⟩
   .have:=(D.lt hm).2
    have:s<hb.aM:=this
    omega
   .have:s<hb.aM:=Q7 D.accP M
    omega
   .have:s<hb.aM:=Q7 D.accC M
    omega
 simp only[Z3,seval,-ae,u1,u2,U,WX aq];refine⟨_,af,i+1,v2,v5,_,ls++[o],af,rfl,rfl,a5,by rw[YB];simp;omega,by rw[YB];simp;omega,dO.snoc (λe=>?_) λe=>?_⟩
 .rcases ux with ⟨u,_⟩|⟨s,c,u,z0,V,I,X,Y,J⟩
  .exact u
  .omega
 .rcases ux with ⟨u,M⟩|⟨s,c,u,z0,V,I,X,Y,J⟩
  .omega
  .exact⟨_,u,by rw[lV];show (Lu cells)=_;omega⟩
end
section
variable{H h:cg}{K:PV->cg->Prop}{n:Nat}{a:Nat->Nat}{b:Nat}{p:Int}{tp sO sP sC:Nat}{vO:PV}{pc cO:List PV}{ls:List (Option LS)}{x:V1}{capP capC cap:jZ}{rows:List SR}{Rs:List (List SR)}
def LI.finR{σ0 T:cg}{Y:List PV}{res:Nat}(V:cT σ0 T)(aQ:σ0.aM<=res/\res<T.aM)(Gi:full 1 capP (Lu rows))(Gx:full 1 capC (Lu Rs))(LM:(Lu pc)=Lu rows)
  (nA:∀q,Dc q∈ls->full 1 q.cap (Lu q.cs)) (u:BF T H tp sO sP sC ls) (l:LI T H h tp sO sP sC vO capP capC n cO pc ls rows Rs []) (D:Fits ls Rs)
  (hk:∀U vC t,jj U (rows.map SR.x)->Db vC (Rs.map λR=>R.map SR.x)->Own σ0.top t (.agg [.int .i64 p,U,vC])->σ0.top<=t->K (.tup [.agg [.int .i64 p,U,vC],.int .i64 0]) (σ0.up t)):
  Gh σ0 K (.tup [.agg [.int .i64 p,.sl sP 0 (Lu rows) capP,.sl sC 0 (Lu Rs) capC],.int .i64 0]) (h.set res Y):=by
 have bT:=V.aM;have bO:=u.b sO aK;have bP:=u.b sP aK;have bC:=u.b sC aK;have fq:=l.nx;have hlen:(Lu ls)=Lu Rs:=D.1;have J:(FD lrT ls Rs).length=Lu Rs:=by rw[Uo];omega
 have e:(TR.tup [.agg [.leaf (.int .i64 p),TR.rows sP capP rows,.lst sC capC (FD lrT ls Rs)],.leaf (.int .i64 0)]).pv=.tup [.agg [.int .i64 p,.sl sP 0 (Lu rows) capP,.sl sC 0 (Lu Rs) capC],.int .i64 0]:=by
  simp only[TR.pv,TR.pvs,TR.row_pv,TR.rows,YF,J]
 rw[<-e];have I:∀s,s≠res->(h.set res Y).bt s=h.bt s:=λs hs=>by rw[zG,DL hs]
 have rok:∀q:SR,q.ok h H.aM->q.ok (h.set res Y) σ0.aM:=λq ⟨M,N,g3,g4⟩=>⟨M,by rw[I _ (by have:=(u.b sO aK);omega)];exact N,by have:=(u.b sO aK);omega,g4⟩
 have D1:∀q∈rows,q.ok (h.set res Y) σ0.aM:=λq hq=>rok q (l.ok q (.inl hq));refine Gh.treeO ((V.trans l.cf).set aQ.1 _) ⟨⟨DJ,TR.rows_ok Gi (by rw[I _ af,l.oP,Ug af,Ye]) af (by show sP<h.aM;omega) D1,⟨⟨by rw[J];exact Gx,by rw[I _ af,l.oC,zGo D],af,by show sC<h.aM;omega⟩,zJh λj o R A E=>?_⟩,DJ⟩,DJ,DJ⟩ ?_ λa T' M N=>?_
 .cases o with
  |none=>trivial
  |some q=>
   have hm:=LS.mem_of_get A;have bq:=u.b q.s (YY.2 (.inr hm));have jB:(Lu R)=Lu q.cs:=D.2 j _ _ A E;obtain⟨hj,fI⟩:=Yj.1 E;refine TR.rows_ok (by rw[jB];exact nA q (Yg A)) ?_ af (by show q.s<h.aM;omega) λq' aT=>rok q' (l.ok q' (.inr (.inl (List.mem_flatten.2 ⟨R,Yg E,aT⟩))));rw[I _ af,l.oL j q A];unfold cont;rw[DK hj,YW,E];rfl
 .have G:=u.nd;have Z:=l.nd;rw[Ye]at Z;have hp:((TR.tup [.agg [.leaf (.int .i64 p),TR.rows sP capP rows,.lst sC capC (FD lrT ls Rs)],.leaf (.int .i64 0)]).ca).Perm (([sP,sC]++LS.ca ls)++qM (rows++Rs.flatten)):=by
   have e2:qM (rows++Rs.flatten)=qM rows++qM Rs.flatten:=by simp[qM]
   simp only[TR.ca,TR.slotss,TR.rows,TR.rows_slots,Ye,Yr,Yl,e2];refine List.Perm.cons _ ?_;have h3:=(zDe D).cons sC |>.append_left (qM rows);refine h3.trans ?_;simp only[<-Yr];rw[<-Yv,<-Yv];exact List.perm_append_comm.append_right _
  refine hp.nodup_iff.2 (FQ.2 ⟨?_,Z,λx X y hy e=>?_⟩)
  .simp only[Yr,Yl,He]at G ⊢;exact G.2.2
  .have h1:=(u.b x (by simp only[Yr,Yl,YH]at X ⊢;exact .inr (.inr X))).2;obtain⟨q,hq,e3⟩:=YI.1 hy;have h2:=(l.ok q (by rcases YY.1 hq with hq|hq;exact .inl hq;exact .inr (.inl hq))).2.2.1;omega
 .obtain⟨⟨w,_⟩,G,lt⟩:=M;refine hk _ _ T' TR.rows_FII ⟨DF,.sl (a sC) 0 (Lu Rs) capC,TR.fzs a (FD lrT ls Rs),by simp only[TR.fz,J,YF],zHq D⟩ ⟨w,?_,λo A=>lt o ?_⟩ N
  .simpa [TR.fz,TR.fzs,ead,n0]using G
  .simpa [TR.fz,TR.fzs,ead,n0]using A
end
section
open Go.Grp
variable{s:Nat}
noncomputable def lrP(O:V1)(P:V2)(C:V3)(i:Nat):V1:=cfG O P C (Grp.pw (gm O P C) (zv O) (Grp.unit O i) (at_ O 0).toNat)
noncomputable def lrC(O:V1)(P:V2)(C:V3)(i k:Nat):V1:=cfG O P C (gbr O P C (Grp.unit O i) (Grp.unit O (i+(1+k))))
noncomputable def kT(O:V1)(P:V2)(C:V3)(m:Nat):V2:=(DO m).map (lrP O P C)
noncomputable def lrR(O:V1)(P:V2)(C:V3)(i m:Nat):V2:=(DO m).map (lrC O P C i)
noncomputable def kO(O:V1)(P:V2)(C:V3)(m:Nat):V3:=(DO m).map λi=>lrR O P C i (Lu O-1-i)
open Classical in
noncomputable def uj(O:V1)(P:V2)(C:V3):(Int×V2×V3)×Int:=
 if ra O P C []=0 then((if O=[]then 2 else at_ O 0,kT O P C (Lu O),kO O P C (Lu O)),0)else((0,[],[]),ra O P C [])
def zHN(z:V1):(cfG O P C z).length=Lu O:=zAQ _
def zEs(J:dU vO vP vC O P C)(sz:SzP O P C)
  (hk:∀p vQ vB W B c t,ResG (uj O P C) (p,W,B) c->lx vQ vB W B->Own σ.top t (.agg [.int .i64 p,vQ,vB])->σ.top<=t->K (.tup [.agg [.int .i64 p,vQ,vB],.int .i64 c]) (σ.up t)):zA Li 13 [.agg [vO,vP,vC]] σ K:=by
 have h0:=J.O.one;have D:=J.P.one;have h2:=J.C.one;refine zA.gh ?_;generalize Z:(σ.bf [vO,vP,vC]).bf [.int .i64 0,Ln,Ln]=T;have bT:T.aM=σ.aM+2:=by rw[<-Z];rfl
 have IA:T.top=σ.top:=by rw[<-Z];rfl
 have cZ:cT σ T:=by rw[<-Z];exact(zC σ _).bf _
 have hs:jh T σ.aM vO vP vC:=⟨by rw[<-Z];simp only[Z3,seval,-ae],af⟩
 have fD:∀{g:cg} {u0 u1 u2:PV},cT T g->u0.one=DF->u1.one=DF->u2.one=DF->g.wr (σ.aM+1) 0 [u0,u1,u2]=Dc (g.set (σ.aM+1) [u0,u1,u2])/\(g.set (σ.aM+1) [u0,u1,u2]).rd (σ.aM+1) 0 3=Dc [u0,u1,u2]:=λ{g u0 u1 u2} k z0 z1 z2=>by
  have aQ:g.bt (σ.aM+1)=Dc [.int .i64 0,Ln,Ln]:=by rw[k.bt _ af,<-Z];simp only[Z3,seval,-ae]
  exact⟨by rw[zR aQ,DK ⟨aK,by simp only[Ej,Em,z0,z1,z2];rfl⟩];rfl,by rw[zi,DK rfl];rfl⟩
 refine qH mix Tryz.func13 ?_;simp only[Z3,seval,-ae,h0,D,h2];rw[Z];refine zEL (xs:=[]) hs J sz ⟨DF,.b8,[],rfl,dd.nil _⟩ ⟨aK,λy hy=>by cases hy⟩ ?_;by_cases V:ra O P C []=0;rotate_left
 .obtain⟨g1,A⟩:=fD (cT.refl T) (u0:=.int .i64 0) (u1:=Ln) (u2:=Ln) rfl rfl rfl;simp only[Z3,seval,-ae,V,g1,A];exact Gh.fin0T (t:=σ.top) (cZ.set af _) (by show σ.top<=T.top;omega) ⟨⟨DJ,DJ,DJ,DJ⟩,DJ,DJ⟩ λ_=>hk 0 _ _ [] [] _ σ.top ⟨by unfold uj;rw[DL V]⟩ ⟨⟨DF,.b8,[],rfl,dd.nil _⟩,⟨DF,.b8,[],rfl,dd.nil _⟩⟩ ⟨⟨DJ,.inl rfl,.inl rfl,DJ⟩,FK,λo ho=>by cases ho⟩ (na _)
 obtain⟨g,k0,_⟩:=zFE V;have aX:=g.s.le;have aJ:=J;obtain⟨⟨wO,aO,rfl⟩,hP,hC⟩:=J;have rO:∀{g:cg},cT T g->g.dR σ.aM 0=Dc (.fz wO aO (Lu O) (cS O)):=λ{g} k=>by
  have:=hs.bt
  rw[<-k.bt _ af]at this;rw[zH this];rfl
 have r0:=rO (cT.refl T);simp only[Z3,seval,-ae,V,r0];rcases F4 (Lu O) with gg|aL
 .obtain⟨g1,A⟩:=fD (cT.refl T) (u0:=.int .i64 2) (u1:=Ln) (u2:=Ln) rfl rfl rfl;have xB:O=[]:=YU gg;simp only[Z3,seval,-ae,gg,g1,A];refine Gh.fin0T (t:=σ.top) (cZ.set af _) (by show σ.top<=T.top;omega) ⟨⟨DJ,DJ,DJ,DJ⟩,DJ,DJ⟩ λ_=>hk 2 _ _ [] [] _ σ.top ⟨?_⟩ ⟨⟨DF,.b8,[],rfl,dd.nil _⟩,⟨DF,.b8,[],rfl,dd.nil _⟩⟩ ⟨⟨DJ,.inl rfl,.inl rfl,DJ⟩,FK,λo ho=>by cases ho⟩ (na _);unfold uj;rw[DK V,DK xB,gg];rfl
 have cN:=(g.isp aL).bd;have dH:¬(Lu O)=0:=af
 have dh:¬((Lu O:Int)=0):=af
 have xB:¬O=[]:=λe=>dH (by rw[e];rfl);have dC:(cS O)[0]? = Dc (.int .i64 (at_ O 0)):=xL aL;have kP:(0:Int)<Lu O:=af
 simp only[Z3,seval,-ae,dH,dh,kP,xB,r0,aL,dC];refine zKm (p:=at_ O 0) aL aX λvQ vB pc ls D u je lV dO=>?_;obtain⟨sP,capP,rfl,cP,oP,lP,bP,xP⟩:=u.accP.pos af;obtain⟨sC,capC,rfl,cC,oC,lC,bC,xC⟩:=u.accC.pos af;rw[je]at cP;rw[lV]at cC;have xO:=u.oO;have tg:=u.sOb;have b:BF T (D.bf [.int .i64 (at_ O 0),.sl sP 0 (Lu O) capP,.sl sC 0 (Lu O) capC]) D.aM T.aM sP sC ls:=by
  have hb:∀s,s∈[D.aM,T.aM,sP,sC]++LS.ca ls->T.aM<=s/\s<D.aM+1:=λs hs=>by
   simp only[Yr,Yl,YH]at hs
   have:=u.cf.aM
   rcases hs with rfl|rfl|rfl|rfl|hs
   .omega
   .omega
   .omega
   .omega
   .have:=u.lt hs;omega
  refine⟨λs hs=>hb s hs,?_⟩;simp only[Yr,Yl,He,YH,not_or];refine⟨⟨af,af,af,λhm=>by have:=(u.lt hm).2;omega⟩,⟨λe=>u.neP T.aM (.inr (.inr rfl)) 0 _ capP (by rw[<-e]),λe=>u.neC T.aM (.inr (.inr rfl)) 0 _ capC (by rw[<-e]),u.neL.2⟩,⟨λe=>u.nePC sP 0 _ capP rfl 0 _ capC (by rw[e]),λhm=>u.neP sP (.inl hm) 0 _ capP rfl⟩,λhm=>u.neC sC (.inl hm) 0 _ capC rfl,u.nd⟩
 have li:LI T (D.bf [.int .i64 (at_ O 0),.sl sP 0 (Lu O) capP,.sl sC 0 (Lu O) capC]) (D.bf [.int .i64 (at_ O 0),.sl sP 0 (Lu O) capP,.sl sC 0 (Lu O) capC]) D.aM T.aM sP sC (.int .i64 (at_ O 0)) capP capC (Lu O) [.int .i64 (at_ O 0),.sl sP 0 (Lu pc) capP,.sl sC 0 (Lu ls) capC] pc ls [] [] []:=by
  refine⟨u.cf.bf _,na _,by rw[zI,DK rfl],by rw[zI,DL af];exact xO,by rw[zI,DL af];simpa using oP,by rw[zI,DL af];exact oC,λj q hq=>?_,λq hq=>(by simp at hq),by simp[qM]⟩
  have:=(u.ok q (Yg hq))
  rw[zI,DL (by have:=this.2.2.2;omega),this.2.1];unfold cont;simp
 rw[je,lV];rw[je,lV]at li;refine Lk ?_;clear oP oC lP lC bP bC xO tg;generalize D.bf [.int .i64 (at_ O 0),.sl sP 0 (Lu O) capP,.sl sC 0 (Lu O) capC]=H at *
 generalize D.aM=tp at *
 have cJ:=hs.lt;refine zF (λm us h=>∃(i:Nat) (rows:List SR) (Rs:List (List SR)),i<=Lu O/\m=Lu O-i/\us=[.ptr σ.aM 0,.ptr (σ.aM+1) 0,.int .i64 (Lu O),.ptr tp 0,.int .i64 (Lu O),.int .i64 i]/\LI T H h tp T.aM sP sC (.int .i64 (at_ O 0)) capP capC (Lu O) [.int .i64 (at_ O 0),.sl sP 0 (Lu O) capP,.sl sC 0 (Lu O) capC] pc ls rows Rs []/\Lu rows=i/\Lu Rs=i/\rows.map SR.x=kT O P C i/\Rs.map (λR=>R.map SR.x)=kO O P C i) (Lu O) ⟨0,[],[],af,af,rfl,li,rfl,rfl,rfl,rfl⟩ ?_
 as_aux_lemma=>
 rintro m us h ⟨i,rows,Rs,hi,rfl,rfl,a,N,jB,fA,pT⟩
 have kX:jh h σ.aM (.fz wO aO (Lu O) (cS O)) vP vC:=⟨by rw[a.cf.bt _ af];exact hs.bt,by have:=a.cf.aM;omega⟩
 have p0:=rO a.cf;have f1:h.dR tp 1=Dc (.sl sP 0 (Lu O) capP):=by rw[zH a.tpo];rfl
 have f2:h.dR tp 2=Dc (.sl sC 0 (Lu O) capC):=by rw[zH a.tpo];rfl
 have f3:h.rd tp 0 3=Dc [.int .i64 (at_ O 0),.sl sP 0 (Lu O) capP,.sl sC 0 (Lu O) capC]:=by rw[zV a.tpo];rfl
 refine Lk ?_;refine Ll (λaG=>?_) λah=>?_
 .as_aux_lemma=>
  have aU:i=Lu O:=af
  rw[aU]at N jB fA pT;obtain⟨g1,A⟩:=fD a.cf (u0:=.int .i64 (at_ O 0)) (u1:=.sl sP 0 (Lu O) capP) (u2:=.sl sC 0 (Lu O) capC) rfl rfl rfl;simp only[Z3,seval,-ae,f3,g1,A];have hf:Fits ls Rs:=by
   refine⟨af,λj o' R ho J=>?_⟩;obtain⟨hj,X⟩:=Yj.1 ho;obtain⟨uQ,Fu⟩:=Yj.1 J;have Gc:(Lu R)=Lu O-1-j:=by
    have e:=congrArg (λL=>L[j]?) pT;simp only[UZ,J,EF]at e;unfold kO at e;rw[UZ,List.getElem?_range af]at e;simp only[EF,YC]at e
    have:=congrArg F6 e
    simpa [lrR]using this
   obtain⟨s1,s2⟩:=dO j hj;rw[X]at s1 s2;by_cases e:j+1=Lu O
   .rw[s1 e];exact YU af
   .obtain⟨q,I,e2⟩:=s2 af;rw[I];show (Lu R)=_;omega
  have fin:=LI.finR (K:=K) (p:=at_ O 0) (Y:=[.int .i64 (at_ O 0),.sl sP 0 (Lu O) capP,.sl sC 0 (Lu O) capC]) (res:=σ.aM+1) (capP:=capP) (capC:=capC) cZ ⟨af,af⟩ (by rw[N];exact cP) (by rw[jB];exact cC) af (λq hq=>(u.ok q hq).1) b a hf λvQ vC t h2 h3 h4 h5=>hk _ vQ vC _ _ _ t ⟨by unfold uj;rw[DK V,DL xB,fA,pT]⟩ ⟨h2,h3⟩ h4 h5;rw[N,jB]at fin;exact fin
 have E:i<Lu O:=af
 have hu:gS O (Grp.unit O i):=g.s.unit E (YV _);have eW:=g.F.g.toMon.pw hu (at_ O 0).toNat;have an:¬tp=h.aM:=by have:=(b.b tp aK).2;have:=a.nx;omega
 have Ae:¬σ.aM=h.aM:=by have:=kX.lt;omega
 simp only[Z3,seval,-ae,f1,p0,kP,dC];refine zm af E λa1=>?_;have N4:FI (.fz DF a1 (Lu O) (cS (cD (Lu O) i))) (Grp.unit O i):=⟨DF,a1,by rw[hu.len];rfl⟩
 simp only[Z3,seval,-ae,f1,p0,kP,dC];refine zAN g.s g.F kX aJ (a:=Grp.unit O i) (up_ hu) N4 (k:=at_ O 0) af λv1 xG=>?_;simp only[Z3,seval,-ae,f1,p0,kP,dC];refine zKc g k0 kX aJ eW xG λbD fT=>?_;have Cp:cfG O P C (Grp.pw (gm O P C) (zv O) (Grp.unit O i) (at_ O 0).toNat)=lrP O P C i:=rfl;have bj:(lrP O P C i).length=Lu O:=zHN _;rw[show cfG O P C (Grp.pw (mu O P C (Lu O)) (zv O) (Grp.unit O i) (at_ O 0).toNat)=lrP O P C i from rfl];have a9:=a;obtain⟨u1,a2⟩:=LI.putP b a (x:=lrP O P C i) (cap:=bD) (by rw[bj];exact fT) af;rw[N,bj]at u1;rw[N]at a2;have BH:(h.bf (cS (lrP O P C i))).dR tp 1=Dc (.sl sP 0 (Lu O) capP):=by rw[zH (a.keepI b (zC h _)).tpo];rfl
 have Ho:(h.bf (cS (lrP O P C i))).dR σ.aM 0=Dc (.fz wO aO (Lu O) (cS O)):=rO ((a.keepI b (zC h _)).cf);generalize h.bf (cS (lrP O P C i))=hN at *
 have cA:(rows++[(⟨h.aM,bD,lrP O P C i⟩:SR)]).map SR.x=kT O P C (i+1):=by
  rw[Yx,fA];unfold kT;rw[Ia,Yx];rfl
 have yY:(rows++[(⟨h.aM,bD,lrP O P C i⟩:SR)]).length=i+1:=by rw[YB,N];rfl
 generalize rows++[(⟨h.aM,bD,lrP O P C i⟩:SR)]=dE at *
 clear f1 f2 f3 p0 fA N a9;generalize hN.set sP (dE.map SR.pv++pc.drop (i+1))=h0 at *
 have lC:∀{g:cg} {cur:List SR},LI T H g tp T.aM sP sC (.int .i64 (at_ O 0)) capP capC (Lu O) [.int .i64 (at_ O 0),.sl sP 0 (Lu O) capP,.sl sC 0 (Lu O) capC] pc ls dE Rs cur->g.dR tp 2=Dc (.sl sC 0 (Lu O) capC)/\g.dR sC i=Dc (LS.pvo (ls[i]'(by omega))):=λ{g cur} l=>by
  refine⟨by rw[zH l.tpo];rfl,?_⟩;rw[zH l.oC,UZ,YQ af];rfl
 obtain⟨A,gC⟩:=lC a2;obtain⟨s1,s2⟩:=dO i af;have je:mo (LS.pvo (ls[i]'(by omega)))=Dc (.int .i64 ((Lu O-1-i:Nat):Int)):=by
  by_cases e:i+1=Lu O
  .rw[s1 e,show (Lu O)-1-i=0 by omega];rfl
  .obtain⟨q',I,e2⟩:=s2 af;rw[I,<-e2];rfl
 simp only[Z3,seval,-ae,BH,Ho,E,u1,A,gC,je,kP,dC];clear u1 BH Ho;refine zD6 2 (λe h=>∃(cur:List SR) (b0:PV),e=ec.mk [1,2,5,6,7,26,27,48,49,50] [.ptr σ.aM 0,.ptr (σ.aM+1) 0,.int .i64 (Lu O),.ptr tp 0,.int .i64 i,.int .i64 (Lu O),.int .i64 i,.int .i64 ((Lu O-1-i:Nat):Int),.int .i64 ((Lu O-1-i:Nat):Int),b0]/\LI T H h tp T.aM sP sC (.int .i64 (at_ O 0)) capP capC (Lu O) [.int .i64 (at_ O 0),.sl sP 0 (Lu O) capP,.sl sC 0 (Lu O) capC] pc ls dE Rs cur/\cur.map SR.x=lrR O P C i (Lu O-1-i)) (λQ hQ=>?_) ?_;rotate_left
 .as_aux_lemma=>
  rintro e h9 ⟨cur,b0,rfl,l,U⟩
  have bJ:(Lu cur)=Lu O-1-i:=by have:=congrArg F6 U;simpa [lrR]using this
  have l2:=l.close (λq' aT=>by
   rw[jB]at aT;obtain⟨hj,X⟩:=Yj.1 aT;by_cases e:i+1=Lu O
   .rw[s1 e]at X;cases X
   .obtain⟨q2,I,e2⟩:=s2 af;rw[I]at X;cases X;omega)
  simp only[Z3,seval,-ae,WX E];refine⟨_,af,i+1,dE,Rs++[cur],af,rfl,rfl,l2,yY,by rw[YB,jB];rfl,cA,?_⟩;rw[Yx,pT];unfold kO;rw[Ia,Yx];simp only[YE,Ya,U]
 as_aux_lemma=>
 refine zF (λm us h=>∃(k:Nat) (cur:List SR),k<=Lu O-1-i/\m=Lu O-1-i-k/\us=[.ptr σ.aM 0,.ptr (σ.aM+1) 0,.int .i64 (Lu O),.ptr tp 0,.int .i64 i,.int .i64 (Lu O),.int .i64 i,.int .i64 ((Lu O-1-i:Nat):Int),.int .i64 k]/\LI T H h tp T.aM sP sC (.int .i64 (at_ O 0)) capP capC (Lu O) [.int .i64 (at_ O 0),.sl sP 0 (Lu O) capP,.sl sC 0 (Lu O) capC] pc ls dE Rs cur/\Lu cur=k/\cur.map SR.x=lrR O P C i k) (Lu O-1-i) ⟨0,[],af,af,rfl,a2,rfl,rfl⟩ ?_
 rintro m us M ⟨k,cur,Fo,rfl,rfl,l,bJ,U⟩
 obtain⟨A,gC⟩:=lC l;refine Lk ?_;refine Ll (λFG=>?_) λFf=>?_
 .have eg:k=Lu O-1-i:=af
  rw[eg]at U;exact hQ _ _ ⟨cur,_,by rw[eg],l,U⟩
 have bM:k<Lu O-1-i:=af
 obtain⟨G,I,e2⟩:=s2 af;have hj:i+(1+k)<Lu O:=af
 have iZ:gS O (Grp.unit O (i+(1+k))):=g.s.unit hj (YV _);have oN:Lp .i64 ((i:Int)+1)=((i+1:Nat):Int):=WQ
 have lI:Lp .i64 (((i+1:Nat):Int)+(k:Int))=((i+(1+k):Nat):Int):=WQ
 rw[I]at gC;have sZ:M.dR sC i=Dc (.sl G.s 0 (Lu G.cs) G.cap):=gC;simp only[Z3,seval,-ae,A,sZ,E,oN,lI];have mE:jh M σ.aM (.fz wO aO (Lu O) (cS O)) vP vC:=⟨by rw[l.cf.bt _ af];exact hs.bt,by have:=l.cf.aM;omega⟩
 refine zm af E λa3=>?_;simp only[Z3,seval,-ae,A,sZ,E,oN,lI];refine zm af hj λa4=>?_;simp only[Z3,seval,-ae,A,sZ,E,oN,lI];refine zA.fzI (λK' h'=>zG5 g k0 mE aJ (x:=Grp.unit O i) (y:=Grp.unit O (i+(1+k))) hu iZ ⟨DF,a3,by rw[hu.len];rfl⟩ ⟨DF,a4,by rw[iZ.len];rfl⟩ λ_=>h') λa5=>?_;have xr:=zJ7 g k0 hu iZ;simp only[Z3,seval,-ae,A,sZ,E,oN,lI];refine zKc g k0 mE aJ xr ⟨DF,a5,rfl⟩ λbn c8=>?_;have bj:(lrC O P C i k).length=Lu O:=zHN _;rw[show cfG O P C (gbr O P C (Grp.unit O i) (Grp.unit O (i+(1+k))))=lrC O P C i k from rfl];have iA:ls[(Lu Rs)]? = Dc (Dc G):=by rw[jB,YQ af,I]
 obtain⟨u1,l2⟩:=LI.putC b l (x:=lrC O P C i k) (cap:=bn) (by rw[bj];exact c8) iA af;rw[bJ,bj]at u1;rw[bJ]at l2;have lN:=l.keepI b (zC M (cS (lrC O P C i k)));obtain⟨j2,jC⟩:=lC lN;rw[I]at jC;have Ek:(M.bf (cS (lrC O P C i k))).dR sC i=Dc (.sl G.s 0 (Lu G.cs) G.cap):=jC;generalize M.bf (cS (lrC O P C i k))=hN at *
 have hJ:(cur++[(⟨M.aM,bn,lrC O P C i k⟩:SR)]).map SR.x=lrR O P C i (k+1):=by
  rw[Yx,U];unfold lrR;rw[Ia,Yx];rfl
 have uZ:(cur++[(⟨M.aM,bn,lrC O P C i k⟩:SR)]).length=k+1:=by rw[YB,bJ];rfl
 generalize cur++[(⟨M.aM,bn,lrC O P C i k⟩:SR)]=ot at *
 generalize hN.set G.s (ot.map SR.pv++G.cs.drop (k+1))=hE at *
 have Fj:k<Lu G.cs:=af
 simp only[Z3,seval,-ae,j2,Ek,E,Fj,u1,oN,lI,WX bM];exact⟨_,af,k+1,ot,af,rfl,rfl,l2,uZ,hJ⟩
end
section
variable{h:cg}{K:PV->cg->Prop}
structure SU(T h:cg)(p0:Nat)(v0:PV)(fs:List (PV×List PV))(ls:List LS):Prop where
 cf:cT T h
 bt:h.bt p0=Dc (v0::fs.map Lb)
 p0b:T.aM<=p0/\p0<h.aM
 acc:∀f,f∈fs->eA T.aM 1 h f.1 (Lu f.2) f.2
 ne:∀f,f∈fs->∀off l c,f.1≠.sl p0 off l c
 dis:∀(i j:Nat) f g,fs[i]? = Dc f->fs[j]? = Dc g->i≠j->∀s off l c,f.1=.sl s off l c->∀off l c,g.1≠.sl s off l c
 lok:∀q,q∈ls->q.ok h T.aM
 lne:∀q,q∈ls->q.s≠p0/\∀f,f∈fs->∀off l c,f.1≠.sl q.s off l c
variable{T:cg}{p0:Nat}{v0:PV}{fs:List (PV×List PV)}{ls:List LS}
def SU.keepI{l:cg}(a:SU T h p0 v0 fs ls)(k:cT h l):SU T l p0 v0 fs ls:=
 ⟨a.cf.trans k,by rw[k.bt _ a.p0b.2];exact a.bt,⟨a.p0b.1,Yw a.p0b.2 k.aM⟩,λf A=>(a.acc f A).cf k,a.ne,a.dis,λq u=>(a.lok q u).move (k.bt _ (a.lok q u).2.2.2) k.aM,a.lne⟩
def SU.more{q:LS}(a:SU T h p0 v0 fs ls)(D:q.ok h T.aM)(E:q.s≠p0/\∀f,f∈fs->∀off l c,f.1≠.sl q.s off l c):SU T h p0 v0 fs (ls++[q]):=
 ⟨a.cf,a.bt,a.p0b,a.acc,a.ne,a.dis,λA u=>(YY.1 u).elim (a.lok A) λe=>by rw[YT.1 e];exact D,λA u=>(YY.1 u).elim (a.lne A) λe=>by rw[YT.1 e];exact E⟩
def SU.push{K:PV×cg->Prop}{bytes j:Nat}{v x:PV}{cs:List PV}(a:SU T h p0 v0 fs ls)(hj:fs[j]? = Dc (v,cs))(hb:(Lu cs)<=1000)(pQ:bytes<=24)(aH:∀f,f∈fs->f.1.one=DF)
    (k:∀u G,u.one=DF->u.cells=[u]->G.wr p0 (j+1) [u]=Dc (G.set p0 (v0::(fs.set j (u,cs++[x])).map Lb))->SU T (G.set p0 (v0::(fs.set j (u,cs++[x])).map Lb)) p0 v0 (fs.set j (u,cs++[x])) ls->K (u,G)):
    fw (qL 1 bytes (h.bf [x]) v (.sl h.aM 0 1 (.b6 1))) K:=by
  have hm:(v,cs)∈fs:=Yg hj;obtain⟨Z,fI⟩:=Yj.1 hj;have gF:(Lu cs+1)*bytes<=1001*24:=Kq af pQ;refine ei.pushS (σb:=T) (bytes:=bytes) a.cf (a.acc _ hm).acc rfl (by show(Lu cs+1)*bytes<=_;omega) (by show (Lu cs)+1<=_;omega) λu G k2 X o2 V l2=>?_;have N:=a.p0b;have kA:G.bt p0=Dc (v0::fs.map Lb):=by rw[o2 _ N.2 (a.ne _ hm)];exact a.bt
  have di:(fs.set j (u,cs++[x])).map Lb=(fs.map Lb).set j u:=by rw[List.map_set]
  have Y:∀f,f∈fs.set j (u,cs++[x])->f=(u,cs++[x])\/∃i,i≠j/\fs[i]? = Dc f:=λf A=>by
    obtain⟨i,D⟩:=Ic A;rw[Y4]at D;split at D
    . first
      |(cases D;exact .inl rfl)
      | (split at D
         .cases D;exact .inl rfl
         .cases D)
    .rename_i e;exact .inr ⟨i,λE=>e E.symm,D⟩
  refine k u G X.one X.cells ?_ ⟨k2.set N.1 _,by rw[zG,DK rfl],⟨N.1,by show p0<G.aM;omega⟩,λf A=>?_,λf A=>?_,λi1 i2 f g A I an s off l c e=>?_,λq J=>?_,λq J=>⟨(a.lne q J).1,λf A=>?_⟩⟩
  . rw[zR kA,DK ⟨by simp only[Yu,YF,Eg];omega,by simp only[Ej,Em,X.one];rfl⟩,di]
    congr 2;rw[Yv,US,Yb,take_set _ (by rw[Yu,YF];exact Nat.succ_lt_succ Z),Ib]
  . rcases Y f A with rfl|⟨i,D,M⟩
    . have a3:eA T.aM 1 (G.set p0 (v0::(fs.set j (u,cs++[x])).map Lb)) u (Lu cs+1) (cs++[x]):=zAz X (λs off l c e=>by rw[zG,DL λE=>V p0 N.2 off l c (by rw[e,E])]) (na _)
      simpa using a3
    . have U:=Yg M
      refine zAz (a.acc f U) (λs off l c e=>?_) (Y8 l2);rw[zG,DL λE=>a.ne f U off l c (by rw[e,E]),o2 s (QB (a.acc f U) e) (a.dis i j f _ M hj D s off l c e)]
  . rcases Y f A with rfl|⟨i,D,M⟩
    .exact V p0 N.2
    .exact a.ne f (Yg M)
  . rw[Y4]at A I
    by_cases e1:j=i1
    . rw[DK e1,DK Z]at A
      cases A;rw[DL λE=>an (e1.symm.trans E)]at I;have FE:=Yg I;intro dx l' c' e';exact V s (QB (a.acc g FE) e') off l c e
    . rw[DL e1]at A
      have U:=Yg A;by_cases E:j=i2
      . rw[DK E,DK Z]at I
        cases I;exact V s (QB (a.acc f U) e)
      . rw[DL E]at I
        exact a.dis i1 i2 f g A I an s off l c e
  . have aT:=a.lok q J
    refine aT.move ?_ (Y8 l2);rw[zG,DL (a.lne q J).1,o2 _ aT.2.2.2 ((a.lne q J).2 _ hm)]
  . rcases Y f A with rfl|⟨i,D,M⟩
    .exact V _ (a.lok q J).2.2.2
    .exact(a.lne q J).2 f (Yg M)
def SU.setV(a:SU T h p0 v0 fs ls){v:PV}(G:v.one=DF):h.wr p0 0 [v]=Dc (h.set p0 (v::fs.map Lb))/\SU T (h.set p0 (v::fs.map Lb)) p0 v fs ls:=by
 have A:=a.p0b;refine⟨by rw[zR a.bt,DK ⟨aK,by simp only[Ej,Em,G];rfl⟩];rfl,a.cf.set A.1 _,by rw[zG,DK rfl],A,λf u=>?_,a.ne,a.dis,λq D=>?_,a.lne⟩
 .exact zAz (a.acc f u) (λs off l c e=>by rw[zG,DL λE=>a.ne f u off l c (by rw[e,E])]) (na _)
 .exact(a.lok q D).move (by rw[zG,DL (a.lne q D).1]) (na _)
end
end Go.Proofs
namespace Go.Grp
open Go.Lie Go.Ab
variable{O:V1}{P:V2}{C:V3}
def zL5(s:jl O P C)(F:Full O P C (Lu O)){i:Nat}(D:i<Lu O):Grp.pw (gm O P C) (zv O) (unit O i) (at_ O i).toNat=eM P i:=by
 have l:=F.rel.pow i af D;have E:TT O (i+1) (eM P i):=s.pw i D;have u:=F.nfx (E.mono (YV _));have A:=F.g.toMon.ph_skip (h:=unit O) (x:=nx (eM P i)) (d:=(Lu O)-(i+1)) (k:=i+1) (t:=0) (λj l u=>by show(at_ _ j).toNat=0;rw[E.zero j af];rfl) (λj l u=>s.unit af (YV _));rw[show i+1+(Lu O-(i+1))=(Lu O) by omega,u,Y5]at A;refine l.trans ?_;show ph _ _ _ _ (Lu O-(Lu O-(i+1))) _=_;rw[show (Lu O)-(Lu O-(i+1))=i+1 by omega];exact A.symm
end Go.Grp
namespace Go.Proofs
open Go.Ab Go.Lie
variable{aj capP:jZ}{a p sd:Int}{i j k n nC nP r s0 sB sP t:Nat}{h h' σ σ0 σ1:cg}{c v vC vO vP vS vX:PV}{K:PV->cg->Prop}{O bs x xs:V1}{P W:V2}{B C:V3}
section
open Go.Grp
variable{c s:Nat}
def zNH(g:LG O P C)(k0:jq O P C)(hR:dU vO vP vC O P C)(hk:∀q D vB,(q=if O=[]then 2 else at_ O 0)->jj D (kT O P C (Lu O))->Db vB (kO O P C (Lu O))->K (.agg [.int .i64 q,D,vB]) σ):zA Li 50 [.agg [vO,vP,vC]] σ K:=by
 have aX:=g.s.le;have aJ:=hR;have A9:=hR.C.one;obtain⟨⟨wO,aO,rfl⟩,⟨wp,ap,rp,rfl,lT⟩,hC⟩:=hR;have xA:(Lu P)=Lu O:=g.pr.2.1;refine zA.gh ?_;generalize hT:(σ.bf [.fz wO aO (Lu O) (cS O),.fz wp ap (Lu P) rp,vC]).bf [.int .i64 0,Ln,Ln]=T;have E:T.aM=σ.aM+2:=by rw[<-hT];rfl
 have cZ:cT σ T:=by rw[<-hT];exact(zC σ _).bf _
 have ld:∀{g:cg},cT T g->g.rd σ.aM 0 3=Dc [.fz wO aO (Lu O) (cS O),.fz wp ap (Lu P) rp,vC]/\g.dR σ.aM 0=Dc (.fz wO aO (Lu O) (cS O))/\g.dR σ.aM 1=Dc (.fz wp ap (Lu P) rp):=λ{g} k=>by
  have U:g.bt σ.aM=Dc [.fz wO aO (Lu O) (cS O),.fz wp ap (Lu P) rp,vC]:=by rw[k.bt _ af,<-hT];simp only[Z3,seval,-ae]
  exact⟨by rw[zV U];rfl,by rw[zH U];rfl,by rw[zH U];rfl⟩
 have fD:∀{g:cg} {u0 u1 u2:PV},cT T g->u0.one=DF->u1.one=DF->u2.one=DF->g.wr (σ.aM+1) 0 [u0,u1,u2]=Dc (g.set (σ.aM+1) [u0,u1,u2])/\(g.set (σ.aM+1) [u0,u1,u2]).rd (σ.aM+1) 0 3=Dc [u0,u1,u2]:=λ{g u0 u1 u2} k z0 z1 z2=>by
  have aQ:g.bt (σ.aM+1)=Dc [.int .i64 0,Ln,Ln]:=by rw[k.bt _ af,<-hT];simp only[Z3,seval,-ae]
  exact⟨by rw[zR aQ,DK ⟨aK,by simp only[Ej,Em,z0,z1,z2];rfl⟩];rfl,by rw[zi,DK rfl];rfl⟩
 obtain⟨G,Z,l1⟩:=ld (cT.refl T);refine Lg Tryz.func50 ?_;simp only[Z3,seval,-ae,A9];rw[hT];simp only[Z3,seval,-ae,Z];refine zF (λm us h=>∃(i:Nat) (q:Int) (D vB:PV) (A cC:List PV) (ls:List LS),i<=Lu O/\m=Lu O-i/\us=[.ptr σ.aM 0,.ptr (σ.aM+1) 0,.int .i64 (Lu O),.ptr (σ.aM+4) 0,.int .i64 i]/\SU T h (σ.aM+4) (.int .i64 q) [(D,A),(vB,cC)] ls/\(q=if i=0 then 2 else at_ O 0)/\dd FI A (kT O P C i)/\cC=ls.map LS.pv/\zEp ls (kO O P C i)) (Lu O) ?_ ?_
 .refine⟨0,2,.sl (σ.aM+2) 0 0 (.b6 0),.sl (σ.aM+3) 0 0 (.b6 0),[],[],[],af,af,rfl,⟨((zC T _).bf _).bf _,by simp only[Z3,seval,-ae,E],⟨af,by first|(simp only[Z3,seval,-ae,E];done)|(simp only[Z3,seval,-ae,E];omega)⟩,λf u=>?_,λf u off l c e=>?_,λi j f g u hg an s off l c e dx l' c' e'=>?_,λq J=>(by cases J),λq J=>(by cases J)⟩,rfl,dd.nil _,rfl,dd.nil _⟩
  .simp only[YH,Ym,or_false]at u;rcases u with rfl|rfl
   .exact eA.own (.inr rfl) (by simp only[Z3,seval,-ae,E]) rfl af (by first|(simp only[Z3,seval,-ae,E];done)|(simp only[Z3,seval,-ae,E];omega))
   .exact eA.own (.inr rfl) (by simp only[Z3,seval,-ae,E]) rfl af (by first|(simp only[Z3,seval,-ae,E];done)|(simp only[Z3,seval,-ae,E];omega))
  .simp only[YH,Ym,or_false]at u;rcases u with rfl|rfl<;>(simp only[PV.sl.injEq]at e;omega)
  .match i,j with
   |0,0=>exact an rfl
   |1,1=>exact an rfl
   |0,1|1,0=>cases u;cases hg;simp only[PV.sl.injEq]at e e';omega
   |i+2,_=>simp at u
   |0,j+2|1,j+2=>simp at hg
 as_aux_lemma=>
 rintro m us h ⟨i,q,D,vB,A,cC,ls,hi,rfl,rfl,a,J,iT,fj,Y⟩
 obtain⟨G,Z,l1⟩:=ld a.cf;have aP:=a.acc (D,A) aK;have aC:=a.acc (vB,cC) aK;have f3:h.rd (σ.aM+4) 0 3=Dc [.int .i64 q,D,vB]:=by rw[zV a.bt];rfl
 refine Lk ?_;refine Ll (λaG=>?_) λah=>?_
 .as_aux_lemma=>
  have aU:i=Lu O:=af
  subst aU;obtain⟨g1,g2⟩:=fD a.cf (u0:=.int .i64 q) rfl aP.one aC.one;simp only[Z3,seval,-ae,f3,g1,g2];obtain⟨sP,capP,e2,q1,q2,q3,q4,q5⟩:=aP;obtain⟨sC,capC,e3,r1,r2,r3,r4,r5⟩:=aC;dsimp only at e2 q1 q2 q3 e3 r1 r2 r3;subst e2 e3;have et:(TR.agg [.leaf (.int .i64 q),.lst sP capP (A.map TR.leaf),.lst sC capC (ls.map LS.tr)]).pv=.agg [.int .i64 q,.sl sP 0 (Lu A) capP,.sl sC 0 (Lu cC) capC]:=by
   simp only[TR.pv,TR.pvs,YF];rw[fj,YF]
  rw[<-et];have U:∀s,T.aM<=s->(h.set (σ.aM+1) [.int .i64 q,.sl sP 0 (Lu A) capP,.sl sC 0 (Lu cC) capC]).bt s=h.bt s:=λs hs=>by rw[zG,DL af]
  refine Gh.treeF ((cZ.trans a.cf).set af _) ⟨DJ,⟨⟨by rw[YF];exact q1,by rw[U _ q4,Zu];exact q2,af,q5⟩,Zv (iT.bI 0)⟩,⟨⟨by rw[YF];rw[fj,YF]at r1;exact r1,by rw[U _ r4,LS.tr_pvs,<-fj];exact r2,af,r5⟩,LS.trs_okF λq J=>?_⟩,DJ⟩ λaa=>hk q _ _ ?_ ⟨DF,.sl (aa sP) 0 (Lu A) capP,A,?_,iT⟩ ⟨DF,.sl (aa sC) 0 (Lu ls) capC,TR.fzs aa (ls.map LS.tr),?_,zAC Y⟩
  .obtain⟨g1,g2,g3,g4⟩:=a.lok q J;refine⟨⟨g1,by rw[U _ g3];exact g2,af,g4⟩,?_⟩;obtain⟨k,fQ,rfl⟩:=YR.1 J;exact(Y.2 k _ _ (YQ fQ) (YQ (by rw[<-Y.1];exact fQ))).bI 0
  .rw[J];by_cases e:O=[]
   .rw[DK e,DK (by rw[e];rfl)]
   .rw[DL e,DL λe2=>e (YU e2)]
  .simp only[TR.fz,Zw,YF];rw[iT.1]
  .simp only[TR.fz,YF];rw[Y.1]
 have I:i<Lu O:=af
 have dA:i<Lu P:=af
 have kP:(0:Int)<Lu O:=af
 have dC:(cS O)[0]? = Dc (.int .i64 (at_ O 0)):=xL af;have AM:(Lu A)=i:=by rw[iT.1];simp[kT]
 have AN:(Lu cC)=i:=by rw[fj,YF,Y.1];simp[kO]
 obtain⟨N,V⟩:=a.setV (v:=.int .i64 (at_ O 0)) rfl;simp only[YE,Ya]at N V;generalize h.set (σ.aM+4) [.int .i64 (at_ O 0),D,vB]=h2 at *
 simp only[Z3,seval,-ae,Z,kP,dC,N];clear N;obtain⟨G,Z,l1⟩:=ld V.cf;have f1:h2.dR (σ.aM+4) 1=Dc D:=by rw[zH V.bt];rfl
 obtain⟨w4,a4,uh⟩:=lT.rowI dA;simp only[Z3,seval,-ae,G,l1,f1,I,dA,uh];have xe:eM P i=P[i]:=by show P.getD i []=_;rw[YW,YQ dA];rfl
 have LN:gS O P[i]:=by rw[<-xe];exact(g.s.pw i I).mono (YV _)
 refine zBS g k0 aJ LN ⟨w4,a4,rfl⟩ λv2 cA=>?_;have fX:FI v2 (lrP O P C i):=by unfold lrP;rw[<-g.eq I,zL5 g.s g.F I,xe];exact cA
 have N:=fX.one;have y2:=fX.cells;have gD:¬σ.aM+4=h2.aM:=by have:=V.p0b.2;omega
 simp only[Z3,seval,-ae,N,y2,f1,gD];have fB:∀f,f∈[(D,A),(vB,cC)]->f.1.one=DF:=λf u=>(V.acc f u).one;refine SU.push V (j:=0) (bytes:=24) rfl af af fB λv3 h3 z4 z5 z6 X=>?_;simp only[Eu,Ib,YE,Ya]at z6 X;generalize h3.set (σ.aM+4) [.int .i64 (at_ O 0),v3,vB]=h4 at *
 have bG:Lp .i64 ((i:Int)+1)=((i+1:Nat):Int):=gX I af;simp only[Z3,seval,-ae,z4,z5,z6,bG];clear z4 z5 z6 f1 f3 G Z l1 N y2;refine zD6 2 (λe h=>∃(M:PV) (cells:List PV) (b0:PV),e=ec.mk [1,2,3,4,5,6,7,41] [.ptr σ.aM 0,.ptr (σ.aM+1) 0,.int .i64 (Lu O),.ptr (σ.aM+4) 0,.int .i64 i,M,.int .i64 (Lu O),b0]/\cT h4 h/\eA h4.aM 1 h M (Lu O-1-i) cells/\dd FI cells (lrR O P C i (Lu O-1-i))) (λQ hQ=>?_) ?_;rotate_left
 .as_aux_lemma=>
  rintro e h9 ⟨M,cells,b0,rfl,k9,p9,bJ⟩
  have a9:=X.keepI k9;obtain⟨t,cap,rfl,u,q2,q3,q4,q5⟩:=p9;have f2:h9.dR (σ.aM+4) 2=Dc vB:=by rw[zH a9.bt];rfl
  have pE:¬σ.aM+4=h9.aM:=by have:=a9.p0b.2;omega
  have eK:∀f,f∈[(v3,A++[v2]),(vB,cC)]->f.1.one=DF:=λf u=>(a9.acc f u).one;have kJ:(Lu cells)=Lu O-1-i:=af
  have lL:=SU.more (q:=⟨t,cap,cells⟩) a9 ⟨by rw[kJ];exact u,q2,by have:=X.cf.aM;show T.aM<=t;omega,q5⟩ ⟨by have:=X.p0b.2;show t≠σ.aM+4;omega,λf u off l c e=>by
   have:=QB (X.acc f u) e
   have:t<h4.aM:=this
   omega⟩
  simp only[Z3,seval,-ae,f2,pE];refine SU.push lL (j:=1) (bytes:=24) rfl af af eK λv5 h5 z1 z2 z3 a5=>?_;simp only[Eu,Ib,YE,Ya]at z3 a5;generalize h5.set (σ.aM+4) [.int .i64 (at_ O 0),v3,v5]=h6 at *
  simp only[Z3,seval,-ae,z1,z2,z3,WX I];refine⟨_,af,i+1,_,v3,v5,_,_,ls++[⟨t,cap,cells⟩],af,rfl,rfl,a5,by rw[DL (Nat.succ_ne_zero i)],?_,?_,?_⟩
  .unfold kT;rw[Ia,Yx];exact iT.snoc fX
  .rw[fj,Yx];simp only[YE,Ya,LS.pv];rw[kJ]
  .unfold kO;rw[Ia,Yx];exact Y.snoc bJ
 as_aux_lemma=>
 refine zF (λm us h=>∃(k:Nat) (M:PV) (cells:List PV),i+(1+k)<=Lu O/\m=Lu O-(i+(1+k))/\us=[.ptr σ.aM 0,.ptr (σ.aM+1) 0,.int .i64 (Lu O),.ptr (σ.aM+4) 0,.int .i64 i,M,.int .i64 ((i+(1+k):Nat):Int)]/\cT h4 h/\eA h4.aM 1 h M k cells/\dd FI cells (lrR O P C i k)) (Lu O-(i+1)) ⟨0,_,[],af,rfl,rfl,zC _ _,eA.bf _ 1 rfl (na _),dd.nil _⟩ ?_
 rintro m us h7 ⟨k,M,cells,sD,rfl,rfl,k7,p7,bJ⟩
 obtain⟨G,Z,l1⟩:=ld (X.keepI k7).cf;refine Lk ?_;refine Ll (λAw=>?_) λAn=>?_
 .have eg:k=Lu O-1-i:=af
  subst eg;exact hQ _ _ ⟨M,cells,_,by rw[show((i+(1+(Lu O-1-i)):Nat):Int)=(Lu O:Int) by omega],k7,p7,bJ⟩
 have hj:i+(1+k)<Lu O:=af
 have cY:gS O (Grp.unit O i):=g.s.unit I (YV _);have iZ:gS O (Grp.unit O (i+(1+k))):=g.s.unit hj (YV _);simp only[Z3,seval,-ae,G];refine QQ af I λb1 N8=>?_;simp only[Z3,seval,-ae,G];refine QQ af hj λb2 N7=>?_;simp only[Z3,seval,-ae,G];refine zIl g k0 aJ (x:=Grp.unit O i) (y:=Grp.unit O (i+(1+k))) cY iZ N8 N7 λv6 pf=>?_;simp only[Z3,seval,-ae,G];refine zBS g k0 aJ (zJ7 g k0 cY iZ) pf λv8 mD=>?_;have N:=mD.one;have y2:=mD.cells;have fO:k<=10:=af
 simp only[Z3,seval,-ae,N,y2];refine eA.push (bytes:=24) (σb:=h4) k7 p7 af af λv9 h8 k8 p8=>?_;have e5:Lp .i64 (((i+(1+k):Nat):Int)+1)=((i+(1+(k+1)):Nat):Int):=WQ
 simp only[Z3,seval,-ae,e5];refine⟨_,af,k+1,v9,_,af,rfl,rfl,k8,p8,?_⟩;unfold lrR;rw[Ia,Yx];exact bJ.snoc mD
end
section
variable{s:Nat}
def FB(v:PV)(bs:V1):Prop:=∃w a,v=.fz w a (Lu bs) (bs.map (.int .u8))
structure Byt(bs:V1):Prop where
 len:(Lu bs)<=1048576
 bd:∀b∈bs,0<=b/\b<=255
abbrev oR(vC:PV)(a:Nat)(sd:Int):List PV:=[vC,.int .i64 (a:Int),.int .i64 sd]
structure Src(σ:cg)(s:Nat)(vC:PV)(bs:V1)(a:Nat)(sd:Int):Prop where
 bt:σ.bt s=Dc (oR vC a sd)
 lt:s<σ.aM
 fb:FB vC bs
 byt:Byt bs
 le:a<=Lu bs
 sd:0<=sd/\sd<2147483647
def FB.one{v:PV}(h:FB v bs):v.one=DF:=by obtain⟨w,a,rfl⟩:=h;rfl
def FB.bel{v:PV}(h:FB v bs)(n:Nat):Bel n v:=by obtain⟨w,a,rfl⟩:=h;trivial
def FB.bels{v:PV}(h:FB v bs)(n a:Nat)(sd:Int):hZ n (oR v a sd):=⟨h.bel n,DJ,DJ,DJ⟩
def Gh.setS{v:PV}{s:Nat}{G A:List PV}(D:σ0.bt s=Dc G)(hb:hZ 0 A)(k:Gh (σ0.set s A) K v σ1):Gh σ0 K v σ1:=λw ι Z h b r hv h1 h2 h3 h4=>by
 have hs:s<σ0.aM:=w.lt D;have w':PWF (σ0.set s A):=by
  refine⟨λt l=>?_,λt cs l=>?_⟩
  .have dY:σ0.aM<=t:=l;rw[zG,DL af];exact w.wf t dY
  .rw[zG]at l;split at l
   .cases l;exact hZ.up (YV _) hb
   .exact w.bel t cs l
 obtain⟨v2,σ2,ι2,E,I,J,M,N,U,V,X,Y,g9⟩:=k w' ι Z h b r hv h1 h2 h3 (λt l u=>by
  rw[zG]at u;split at u
  .cases u
  .exact h4 t l u)
 refine⟨v2,σ2,ι2,E,I,J,M,N,U,V,λt l u=>X t l ?_,Y,g9⟩;rw[zG,DL (by rintro rfl;rw[D]at u;cases u)];exact u
def Src.set{σ:cg}{a a':Nat}{sd sd':Int}(h:Src σ s vC bs a sd)(l:a'<=Lu bs)(hs:0<=sd'/\sd'<2147483647):Src (σ.set s (oR vC a' sd')) s vC bs a' sd':=
 ⟨by rw[zG,DK rfl],h.lt,h.fb,h.byt,l,hs⟩
def Src.cf{σ σ':cg}{a:Nat}{sd:Int}(h:Src σ s vC bs a sd)(k:cT σ σ'):Src σ' s vC bs a sd:=
 ⟨by rw[k.bt s h.lt];exact h.bt,Yw h.lt k.aM,h.fb,h.byt,h.le,h.sd⟩
def Src.q{σ:cg}{a:Nat}{sd:Int}(h:Src σ s vC bs a sd):σ.dR s 0=Dc vC/\σ.dR s 1=Dc (.int .i64 a)/\σ.dR s 2=Dc (.int .i64 sd):=by
 refine⟨?_,?_,?_⟩<;>(rw[zH h.bt];rfl)
def Src.w1{σ:cg}{a:Nat}{sd x:Int}(h:Src σ s vC bs a sd):σ.wr s 1 [.int .i64 x]=Dc (σ.set s [vC,.int .i64 x,.int .i64 sd]):=by
 rw[zR h.bt,DK ⟨aK,rfl⟩];rfl
def Src.w2{σ:cg}{a:Nat}{sd x:Int}(h:Src σ s vC bs a sd):σ.wr s 2 [.int .i64 x]=Dc (σ.set s (oR vC a x)):=by
 rw[zR h.bt,DK ⟨aK,rfl⟩];rfl
def zN8(σ:cg)(s:Nat)(x y:List PV):(σ.set s x).set s y=σ.set s y:=by
 simp only[cg.set];congr 1;funext t;split<;>rfl
def zPn{j:Nat}(u:Byt bs)(l:j<Lu bs):(bs.map (PV.int .u8))[j]? = Dc (.int .u8 (bs.getD j 0))/\0<=bs.getD j 0/\bs.getD j 0<=255:=by
 have e:bs.getD j 0=bs[j]:=by simp[YW,YQ l]
 rw[e];exact⟨by rw[UZ,YQ l];rfl,u.bd _ (YZ l)⟩
def Nx(n x:Int):Prop:=0<=x/\(n<=1->x=0)/\(1<n->x<n)
def Nx.lt{n x:Int}(h:Nx n x)(D:1<=n):x<n:=by
 obtain⟨A,l,u⟩:=h;rcases Us 1 n with g|g
 .exact u g
 .have:=l g;omega
def zOx{n x:Int}(D:1<n)(A:0<=x):Nx n (x.tmod n):=by
 rw[Yd A];have l:=Y3 x (show n≠0 by omega);have u:=Y6 x (show 0<n by omega);exact⟨l,λh=>af,λ_=>u⟩
def zG0(X:FB vC bs)(A:Byt bs)(Y:∀sd,0<=sd/\sd<2147483647->K (.ptr σ.aM 0) (σ.bf (oR vC 0 sd))):zA Li 60 [vC] σ K:=by
 obtain⟨w,av,rfl⟩:=X;have hl:=A.len;refine Lg Tryz.func60 ?_;refine Lk ?_;generalize hC:(PV.fz w av (Lu bs) (bs.map (.int .u8)))=vC at *
 refine zF (λm vs h'=>∃(i:Nat) (sd:Int),i<=Lu bs/\m=Lu bs-i/\vs=[vC,.ptr σ.aM 0,.int .i64 i]/\σ.bf (oR vC 0 sd)=h'/\0<=sd/\sd<2147483647) (Lu bs) ?_ ?_
 .exact⟨0,76001,af,af,rfl,rfl,af,af⟩
 rintro m vs h' ⟨i,sd,hi,rfl,rfl,rfl,U,V⟩
 have hlen:mo vC=Dc (.int .i64 (Lu bs)):=by rw[<-hC];rfl
 have G:Lp .i64 ((i:Int)+1)=((i+1:Nat):Int):=WQ
 have out:K (.ptr σ.aM 0) (σ.bf (oR vC 0 sd)):=Y sd ⟨U,V⟩;simp only[Z3,seval,-ae,hlen];by_cases l:i<Lu bs;rotate_left
 .simp only[Z3,seval,-ae,l,decide_false];exact out
 obtain⟨b1,D,E⟩:=zPn A l;by_cases Z:i<64;rotate_left
 .have u:¬(i:Int)<64:=af
  simp only[Z3,seval,-ae,l,u,decide_true,decide_false];exact out
 have u:(i:Int)<64:=af
 generalize bs.getD i 0=b at b1 D E;have I:Lp .i64 (sd*71)=sd*71:=WE;have J:Lp .i64 b=b:=WE;have M:Lp .i64 (sd*71+b)=sd*71+b:=WE;have N:(sd*71+b).tmod 2147483647=(sd*71+b) % 2147483647:=Yd af;subst hC;simp only[Z3,seval,-ae,l,u,decide_true,b1,I,J,M,N,G];exact⟨_,af,i+1,_,af,rfl,rfl,rfl,af,af⟩
def zNb{a:Nat}{sd n:Int}(S:Src σ s vC bs a sd)(hn:n<=4611686018427387904)(M:∀x a' sd',Nx n x->a'<=Lu bs->0<=sd'/\sd'<2147483647->K (.int .i64 x) (σ.set s (oR vC a' sd'))):zA Li 110 [.ptr s 0,.int .i64 n] σ K:=by
 have hl:=S.byt.len;have tY:=S.sd;have J:=S.le;obtain⟨w,av,rfl⟩:=S.fb;obtain⟨q0,q1,q2⟩:=S.q;have e1:Lp .i64 (sd*48271)=sd*48271:=WE;have e2:Lp .i64 (sd*48271+71)=sd*48271+71:=WE;have e4:(sd*48271+71).tmod 2147483647=(sd*48271+71) % 2147483647:=Yd af;refine Lg Tryz.func110 ?_;simp only[Z3,seval,-ae,q2,e1,e2,e4,S.w2];refine de (λah=>?_) λaG=>?_
 .have:=M 0 a sd ⟨UA _,λ_=>rfl,λh=>af⟩ J tY
  rw[zBz S.bt]at this;exact this
 have G:0<=(sd*48271+71) % 2147483647/\(sd*48271+71) % 2147483647<2147483647:=af
 generalize (sd*48271+71) % 2147483647=oA at *
 have I:=S.set (sd':=oA) J G;obtain⟨p0,V,p2⟩:=I.q;obtain⟨l,e5,eF⟩:∃l,Lp .i64 (oA.tdiv 47)=l/\0<=l/\l<=2147483647:=by
  have d1:oA.tdiv 47=oA / 47:=Uq af;exact⟨oA / 47,by rw[d1];exact fl af af,af,af⟩
 have E:n≠0:=af
 generalize U:σ.set s (oR (PV.fz w av (Lu bs) (bs.map (.int .u8))) a oA)=σ1 at *
 have hT:∀(a':Nat) (sd':Int),σ1.set s (oR (PV.fz w av (Lu bs) (bs.map (.int .u8))) a' sd')=σ.set s (oR (PV.fz w av (Lu bs) (bs.map (.int .u8))) a' sd'):=λa' sd'=>by rw[<-U];exact zN8 _ _ _ _
 simp only[Z3,seval,-ae,p0,V,p2,e5];by_cases u:a<Lu bs;rotate_left
 .simp only[Z3,seval,-ae,u,decide_false]
  have:=M _ a oA (zOx af eF.1) J G
  rw[U]at this;simp only[Z3,seval,-ae,E,e5];exact this
 obtain⟨b1,b2,b3⟩:=zPn S.byt u;generalize bs.getD a 0=b at b1 b2 b3;have A:Lp .i64 b=b:=WE;have D:Lp .i64 (l+b)=l+b:=WE;have bG:Lp .i64 ((a:Int)+1)=((a+1:Nat):Int):=WQ
 simp only[Z3,seval,-ae,u,decide_true,p0,V,b1,e5,A,D,I.w1,bG];have Z:=I.set (a':=a+1) (sd':=oA) af G;obtain⟨r0,r1,r2⟩:=Z.q;generalize ja:σ1.set s (oR (PV.fz w av (Lu bs) (bs.map (.int .u8))) (a+1) oA)=σ2 at *
 have X:((a+1:Nat):Int).tmod 2=((a+1:Nat):Int) % 2:=Yd af;have ta:Lp .i64 (((a+1:Nat):Int)-1)=(a:Int):=WQ
 have fin:∀x:Int,0<=x->K (.int .i64 (x.tmod n)) σ2:=λx hx=>by
  have:=M _ (a+1) oA (zOx af hx) af G
  rw[<-ja,hT];exact this
 by_cases N:n<=256;rotate_left
 .simp only[Z3,seval,-ae,N,decide_false,E,e5,A,D];exact fin _ af
 by_cases Y:((a+1:Nat):Int) % 2=0;rotate_left
 .simp only[Z3,seval,-ae,N,decide_true,r1,X,Y,decide_false,E,e5,A,D];exact fin _ af
 simp only[Z3,seval,-ae,N,decide_true,r0,r1,X,Y,ta,u,b1,E,e5,A,D];exact fin _ af
end
section
variable{s:Nat}
def So(σ:cg)(s:Nat)(vC:PV)(bs:V1):Prop:=∃a sd,Src σ s vC bs a sd
def Mv(σ:cg)(s:Nat)(σ':cg):Prop:=∃u l,σ.bt s=Dc u/\hZ 0 l/\σ'=σ.set s l
def KM(σ:cg)(s:Nat)(h:cg):Prop:=∃σ',Mv σ s σ'/\cT σ' h
def Mv.aM(m:Mv σ s h):h.aM=σ.aM:=by obtain⟨_,_,_,_,rfl⟩:=m;rfl
def Mv.bt(m:Mv σ s h){t:Nat}(l:t≠s):h.bt t=σ.bt t:=by obtain⟨_,_,_,_,rfl⟩:=m;rw[zG,DL l]
def So.lt(k:So σ s vC bs):s<σ.aM:=by obtain⟨_,_,k⟩:=k;exact k.lt
def So.mv(k:So σ s vC bs){a:Nat}{sd:Int}(l:a<=Lu bs)(hs:0<=sd/\sd<2147483647):Mv σ s (σ.set s (oR vC a sd))/\So (σ.set s (oR vC a sd)) s vC bs:=by
 obtain⟨A,u,k⟩:=k;exact⟨⟨_,_,k.bt,k.fb.bels _ _ _,rfl⟩,a,sd,k.set l hs⟩
def So.mv0(k:So σ s vC bs):Mv σ s σ:=by
 obtain⟨u,l,k⟩:=k;exact⟨_,_,k.bt,k.fb.bels _ _ _,(zBz k.bt).symm⟩
def So.cf(k:So σ s vC bs)(l:cT σ h):So h s vC bs:=by
 obtain⟨A,u,k⟩:=k;exact⟨_,_,k.cf l⟩
def So.set(k:So σ s vC bs){t:Nat}(A:s≠t)(cs:List PV):So (σ.set t cs) s vC bs:=by
 obtain⟨u,l,k⟩:=k;exact⟨u,l,by rw[zG,DL A];exact k.bt,k.lt,k.fb,k.byt,k.le,k.sd⟩
def KM.cf(k:KM σ s h)(l:cT h h'):KM σ s h':=by
 obtain⟨σ',m,q⟩:=k;exact⟨σ',m,q.trans l⟩
def KM.aM(k:KM σ s h):σ.aM<=h.aM:=by
 obtain⟨σ',m,q⟩:=k;rw[<-m.aM];exact q.aM
def KM.bt(k:KM σ s h){t:Nat}(u:t<σ.aM)(l:t≠s):h.bt t=σ.bt t:=by
 obtain⟨σ',m,q⟩:=k;rw[q.bt t (by rw[m.aM];exact u),m.bt l]
def So.km(k:So σ s vC bs):KM σ s σ:=⟨σ,k.mv0,cT.refl _⟩
def So.kmK(k:So σ s vC bs)(l:cT σ h):KM σ s h:=⟨σ,k.mv0,l⟩
def KM.bf(k:KM σ s h)(cs:List PV):KM σ s (h.bf cs):=k.cf (zC h cs)
def KM.set(k:KM σ s h){t:Nat}(l:σ.aM<=t)(cs:List PV):KM σ s (h.set t cs):=by
 obtain⟨σ',m,q⟩:=k;exact⟨σ',m,q.set (by rw[m.aM];exact l) cs⟩
def KM.mv(k:KM σ s h)(hs:s<σ.aM)(G:Mv h s h'):KM σ s h':=by
 obtain⟨σ',⟨u,I,D,N,rfl⟩,q⟩:=k;obtain⟨J,l,M,A,rfl⟩:=G;refine⟨σ.set s l,⟨u,l,D,A,rfl⟩,q.aM,q.top,λt E=>?_⟩;rw[zG,zG];split
 .rfl
 .rename_i e;rw[q.bt t E,zG,DL e]
def KM.trans(k:KM σ s h)(hs:s<σ.aM)(l:KM h s h'):KM σ s h':=by
 obtain⟨σ',m,q⟩:=l;exact(k.mv hs m).cf q
def Gh.km{v:PV}(k:KM σ s h)(I:So h s vC bs)(hs:s<σ.aM)(c:∀σ',Mv σ s σ'->So σ' s vC bs->cT σ' h->Gh σ' K v h):Gh σ K v h:=by
 obtain⟨σ',m,q⟩:=k;obtain⟨E,G,u,A,e⟩:=m;obtain⟨a,sd,S⟩:=I;have l:s<σ'.aM:=by rw[e];exact hs
 have D:So σ' s vC bs:=⟨a,sd,by rw[<-q.bt s l];exact S.bt,l,S.fb,S.byt,S.le,S.sd⟩
 have:=c σ' ⟨E,G,u,A,e⟩ D q
 rw[e]at this;exact Gh.setS u A this
def zZ{n:Int}(I:So σ s vC bs)(A:n<=4611686018427387904)(u:∀x h,Nx n x->Mv σ s h->So h s vC bs->K (.int .i64 x) h):zA Li 110 [.ptr s 0,.int .i64 n] σ K:=by
 obtain⟨a,sd,S⟩:=I;refine zNb S A λx a' sd' D l hs=>?_;obtain⟨E,G⟩:=So.mv ⟨a,sd,S⟩ l hs;exact u x _ D E G
def zGt{p:Int}{n:Nat}{vP vB:PV}(l:vP.one=DF)(u:vB.one=DF)(A:mo vP=Dc (.int .i64 n))(E:n<=1048576)(D:∀cap,full 1 cap n->K (.sl σ.aM 0 n cap) (σ.bf (cS (Ep n 0)))):zA Li 102 [.agg [.int .i64 p,vP,vB]] σ K:=by
 refine Lh Tryz.func102 ?_;simp only[Z3,seval,-ae,l,u,A,zh,uK (n:=n) af,tn (n:=n) af];exact Gh.np (s:=σ.aM+1) ((zC σ _).bf _) (by simp only[Z3,seval,-ae]) af (zL _ _) (D _ (.inr rfl))
def Q8{p:Int}{n k:Nat}{vP vB:PV}(u:vP.one=DF)(A:vB.one=DF)(D:mo vP=Dc (.int .i64 n))(I:n<=1048576)(l:k<n)(G:∀v,FI v (cD n k)->K v σ):zA Li 105 [.agg [.int .i64 p,vP,vB],.int .i64 k] σ K:=by
 refine Lh Tryz.func105 ?_;simp only[Z3,seval,-ae,u,A];refine zGt u A D I λcap E=>?_;simp only[Z3,seval,-ae,l,zJ,YL,UX l];rw[zX (by simpa using l)];exact Gh.finF (s:=σ.aM+1) ((zC σ _).bf _) (by refine Lk ?_;rfl) af (zL _ _) E.ok λ_=>G _ ⟨_,_,by rw[zU];rfl⟩
def zJp{n:Nat}(D:So σ s vC bs)(hn:n<=6)(hk:∀p h,jF p->fG p n<=729->Mv σ s h->So h s vC bs->K (.int .i64 p) h):zA Li 222 [.ptr s 0,.int .i64 n] σ K:=by
 have E:=D.lt;refine Lh Tryz.func222 ?_;refine Lk ?_;refine zZ (D.cf (zC _ _)) LB λx I M U Z=>?_;have bj:=M.lt LB;have eF:=M.1;have l:I.bt σ.aM=Dc (cS [2,3,3,5,7,2]):=by rw[U.bt af];refine Lk ?_;rfl
 obtain⟨k,rfl⟩:∃k:Nat,x=k:=⟨x.toNat,af⟩
 have X:k<6:=af
 obtain⟨p0,ga,hr⟩:∃p0,jF p0/\I.dR σ.aM k=Dc (.int .i64 p0):=by
  have e:k=0\/k=1\/k=2\/k=3\/k=4\/k=5:=af
  rcases e with rfl|rfl|rfl|rfl|rfl|rfl
  .exact⟨2,.inl rfl,by rw[zH l];rfl⟩
  .exact⟨3,.inr (.inl rfl),by rw[zH l];rfl⟩
  .exact⟨3,.inr (.inl rfl),by rw[zH l];rfl⟩
  .exact⟨5,.inr (.inr (.inl rfl)),by rw[zH l];rfl⟩
  .exact⟨7,.inr (.inr (.inr rfl)),by rw[zH l];rfl⟩
  .exact⟨2,.inl rfl,by rw[zH l];rfl⟩
 simp only[Z3,seval,-ae,hr,X];have V:n=0\/n=1\/n=2\/n=3\/n=4\/n=5\/n=6:=af
 have big:∀q:Int,jF q->¬fG q n<=729->q=5\/q=7:=λq u J=>by
  rcases u with rfl|rfl|rfl|rfl
  .exact absurd (by rcases V with rfl|rfl|rfl|rfl|rfl|rfl|rfl<;>decide) J
  .exact absurd (by rcases V with rfl|rfl|rfl|rfl|rfl|rfl|rfl<;>decide) J
  .exact .inl rfl
  .exact .inr rfl
 refine zF (λm vs h=>∃q:Int,jF q/\m=q.toNat/\vs=[.int .i64 n,.int .i64 q]/\KM σ s h/\So h s vC bs) p0.toNat ?_ ?_
 .exact⟨p0,ga,rfl,rfl,(D.km.bf _).mv E U,Z⟩
 rintro m vs h2 ⟨q,u,rfl,rfl,km,A⟩
 refine Lk ?_;refine zGv (p:=q) (n:=n) (by rcases u with rfl|rfl|rfl|rfl<;>decide) hn λk N k2 k3 k4=>?_;by_cases G:k<=729
 .have pI:¬k > 729:=af
  simp only[Z3,seval,-ae,pI,decide_false];exact Gh.km km A E λσ' m' Y kp=>Gh.fin0 kp trivial (hk q σ' u (N.1 G) m' Y)
 .have pI:k > 729:=af
  rcases big q u (λe=>G (N.2 e))with rfl|rfl
  .simp only[Z3,seval,-ae,pI,decide_true,show((5:Int)<((8:Nat):Int)) by decide];exact⟨_,LB,3,.inr (.inl rfl),rfl,rfl,km.bf _,A.cf (zC _ _)⟩
  .simp only[Z3,seval,-ae,pI,decide_true,show((7:Int)<((8:Nat):Int)) by decide];exact⟨_,LB,5,.inr (.inr (.inl rfl)),rfl,rfl,km.bf _,A.cf (zC _ _)⟩
structure TailI(σ h:cg)(s:Nat)(vC:PV)(bs:V1)(p:Int)(n k:Nat)(vP vB:PV)(x:V1):Prop where
 km:KM σ s h
 so:So h s vC bs
 o1:h.bt σ.aM=Dc [.int .i64 p,vP,vB]
 o2:h.bt (σ.aM+1)=Dc (cS x)
 lt:σ.aM+1<h.aM
 el:El p n x
 z:∀j,j<k->at_ x j=0
def zGu{n k:Nat}{p:Int}{vP vB:PV}(I:So σ s vC bs)(hp:2<=p/\p<=7)(V:vP.one=DF)(X:vB.one=DF)(gl:mo vP=Dc (.int .i64 n))(hn:n<=1048576)(bM:k<=n)
  (hk:∀x h cap,El p n x->(∀j,j<k->at_ x j=0)->full 1 cap n->Mv σ s h->So h s vC bs->K (.sl σ.aM 0 n cap) (h.bf (cS x))):zA Li 182 [.ptr s 0,.agg [.int .i64 p,vP,vB],.int .i64 k] σ K:=by
 have M:=I.lt;refine Lh Tryz.func182 ?_;simp only[Z3,seval,-ae,V,X];refine zGt V X gl hn λcap hc=>?_;refine Lk ?_;generalize E:(σ.bf [.int .i64 p,vP,vB])=H;have J:cT σ H:=by rw[<-E];exact zC _ _
 have fq:H.aM=σ.aM+1:=by rw[<-E];rfl
 have KO:H.bt σ.aM=Dc [.int .i64 p,vP,vB]:=by rw[<-E];simp only[Z3,seval,-ae]
 refine zF (λm vs h=>∃(i:Nat) (x:V1),k<=i/\i<=n/\m=n-i/\vs=[.ptr s 0,.ptr σ.aM 0,.sl (σ.aM+1) 0 n cap,.int .i64 i]/\TailI σ h s vC bs p n k vP vB x) (n-k) ?_ ?_
 .refine⟨k,Ep n 0,na _,bM,rfl,rfl,⟨(I.kmK J).bf _,(I.cf J).cf (zC _ _),by rw[zI,DL af];exact KO,by rw[zI,DK fq.symm],by show _<H.aM+1;omega,⟨aK,λy u=>by rw[Yi u];omega⟩,λj _=>zb _ _⟩⟩
 rintro m vs h ⟨i,x,pH,cw,rfl,rfl,⟨km,N,o1,o2,fH,G,Y⟩⟩
 have U:=G.1;refine Lk ?_;refine Ll (λMy=>?_) λMt=>?_
 .have e:i=n:=af
  refine Gh.km km N M λσ' Z bQ kp=>?_;have D:=Z.aM;rw[<-D];refine Gh.np (s:=σ'.aM+1) kp (by rw[D];exact o2) af (zL _ _) ?_
  have:=hk x σ' cap G Y hc Z bQ
  rw[D];exact this
 have r0:h.dR σ.aM 0=Dc (.int .i64 p):=by rw[zH o1];rfl
 simp only[Z3,seval,-ae,r0];refine zZ N af λy l u A dD=>?_;have gJ:=u.lt af;have P3:=u.1;have Av:i<n:=af
 have o3:l.bt (σ.aM+1)=Dc (cS x):=by rw[A.bt af];exact o2
 have w3:l.wr (σ.aM+1) i [.int .i64 y]=Dc (l.set (σ.aM+1) (cS (x.set i y))):=by
  rw[zR o3,DK ⟨by rw[zJ,U];simp;omega,rfl⟩];congr 2;exact zX af
 have wi:Lp .i64 ((i:Int)+1)=((i+1:Nat):Int):=WQ
 simp only[Z3,seval,-ae,Av,w3,wi];refine⟨_,?_,i+1,x.set i y,af,af,rfl,rfl,⟨(km.mv M A).set af _,dD.set af _,by rw[zG,DL af,A.bt af];exact o1,by rw[zG,DK rfl],by show _<l.aM;rw[A.aM];exact fH,⟨by rw[YA];exact U,λz dQ=>?_⟩,λj hj=>?_⟩⟩
 .omega
 .rcases Hs dQ with e|e
  .exact G.2 z e
  .omega
 .rw[eJ af,DL af];exact Y j hj
def ql{n k:Nat}{p:Int}{vP vB:PV}(l:So σ s vC bs)(Y:2<=p/\p<=7)(J:vP.one=DF)(M:vB.one=DF)(N:mo vP=Dc (.int .i64 n))(X:n<=1048576)(E:k<=n)
  (V:∀v x h,El p n x->(∀j,j<k->at_ x j=0)->FI v x->Mv σ s h->So h s vC bs->K v h):zA Li 182 [.ptr s 0,.agg [.int .i64 p,vP,vB],.int .i64 k] σ K:=by
 refine zA.gh (zGu l Y J M N X E λx h cap u Z U m D=>?_);refine Gh.km (l.km.mv l.lt m |>.bf _) (D.cf (zC _ _)) l.lt λσ' A G kp=>?_;have I:=u.1;subst I;exact Gh.finF (s:=σ.aM) kp (by rw[zI,DK m.aM.symm]) (by rw[A.aM];exact na _) (zL _ _) U.ok λo=>V _ x σ' u Z ⟨_,_,rfl⟩ A G
end
section
variable{s b:Nat}{RP R:PV->V1->Prop}{cs:List PV}{ls:List LS}
def RowsG(R:PV->V1->Prop)(ls:List LS)(B:V3):Prop:=dd (λ(q:LS) (M:V2)=>dd R q.cs M) ls B
structure RS(RP R:PV->V1->Prop)(b:Nat)(h:cg)(n sP:Nat)(capP:jZ)(cs:List PV)(sB:Nat)(aj:jZ)(ls:List LS)(W:V2)(B:V3):Prop where
 P:full 1 capP n/\h.bt sP=Dc cs/\b<=sP/\sP<h.aM
 Q:full 1 aj n/\h.bt sB=Dc (ls.map LS.pv)/\b<=sB/\sB<h.aM
 ne:sP≠sB
 lok:∀q∈ls,q.ok h b
 lne:∀q∈ls,q.s≠sP/\q.s≠sB
 nd:(ls.map LS.s).Nodup
 aP:dd RP cs W
 aB:RowsG R ls B
 lW:(Lu W)=n
 lB:(Lu B)=n
def RS.move(a:RS RP R b h n sP capP cs sB aj ls W B)(l:∀t,(t=sP\/t=sB\/∃q∈ls,q.s=t)->h'.bt t=h.bt t)(A:h.aM<=h'.aM):RS RP R b h' n sP capP cs sB aj ls W B:=by
 obtain⟨D,E,G,N⟩:=a.P;obtain⟨I,J,M,U⟩:=a.Q;exact⟨⟨D,by rw[l _ (.inl rfl)];exact E,G,af⟩,⟨I,by rw[l _ (.inr (.inl rfl))];exact J,M,af⟩,a.ne,λq u=>(a.lok q u).move (l _ (.inr (.inr ⟨q,u,rfl⟩))) A,a.lne,a.nd,a.aP,a.aB,a.lW,a.lB⟩
def RS.lt(a:RS RP R b h n sP capP cs sB aj ls W B){t:Nat}(u:t=sP\/t=sB\/∃q∈ls,q.s=t):b<=t/\t<h.aM:=by
 rcases u with rfl|rfl|⟨q,l,rfl⟩
 .exact a.P.2.2
 .exact a.Q.2.2
 .exact(a.lok q l).2.2
def RS.cf(a:RS RP R b h n sP capP cs sB aj ls W B)(k:cT h h'):RS RP R b h' n sP capP cs sB aj ls W B:=a.move (λt l=>k.bt t (a.lt l).2) k.aM
def RS.bf(a:RS RP R b h n sP capP cs sB aj ls W B)(xs:List PV):RS RP R b (h.bf xs) n sP capP cs sB aj ls W B:=a.cf (zC h xs)
def RS.mv(a:RS RP R b h n sP capP cs sB aj ls W B)(hs:s<b)(m:Mv h s h'):RS RP R b h' n sP capP cs sB aj ls W B:=a.move (λt l=>m.bt (by have:=(a.lt l).1;omega)) (by rw[m.aM];exact na _)
def RS.low{b':Nat}(a:RS RP R b h n sP capP cs sB aj ls W B)(u:b'<=b):RS RP R b' h n sP capP cs sB aj ls W B:=
 ⟨⟨a.P.1,a.P.2.1,by have:=a.P.2.2.1;omega,a.P.2.2.2⟩,⟨a.Q.1,a.Q.2.1,by have:=a.Q.2.2.1;omega,a.Q.2.2.2⟩,a.ne,λq l=>⟨(a.lok q l).1,(a.lok q l).2.1,by have:=(a.lok q l).2.2.1;omega,(a.lok q l).2.2.2⟩,a.lne,a.nd,a.aP,a.aB,a.lW,a.lB⟩
def RS.csl(a:RS RP R b h n sP capP cs sB aj ls W B):(Lu cs)=n:=a.aP.1.trans a.lW
def RS.lsl(a:RS RP R b h n sP capP cs sB aj ls W B):(Lu ls)=n:=a.aB.1.trans a.lB
def RS.rdB(a:RS RP R b h n sP capP cs sB aj ls W B){i:Nat}(l:i<n):∃q,ls[i]? = Dc q/\h.dR sB i=Dc q.pv/\Lu q.cs=(B.getD i []).length:=by
 have u:=a.lsl;refine⟨ls[i]'(by omega),YQ af,?_,?_⟩
 .rw[zH a.Q.2.1,UZ,YQ af];rfl
 .have hB:=a.lB
  have:=a.aB.2 i _ _ (YQ af) (YQ af)
  rw[this.1,YW,YQ af];rfl
def zGI{α β:Type}{R:α->β->Prop}{xs:List α}{ys:List β}(k:dd R xs ys){i:Nat}{a:α}{b:β}(A:R a b):dd R (xs.set i a) (ys.set i b):=by
 refine⟨by rw[YA,YA];exact k.1,λj x y l u=>?_⟩;rw[Y4]at l u;by_cases e:i=j
 .rw[DK e]at l u;split at l
  .split at u
   .cases l;cases u;exact A
   .cases u
  .cases l
 .rw[DL e]at l u;exact k.2 j x y l u
def zBI{h:cg}{t i:Nat}{cs:List PV}{v:PV}(u:h.bt t=Dc cs)(l:i<Lu cs)(A:v.one=DF):h.wr t i [v]=Dc (h.set t (cs.set i v)):=by
 rw[zR u,DK ⟨by simp;omega,by simp[A]⟩];congr 2;rw[Yv];exact take_set cs l v
def RS.putP(a:RS RP R b h n sP capP cs sB aj ls W B){i:Nat}{v:PV}{w:V1}(u:i<n)(D:RP v w)(A:v.one=DF):
  h.wr sP i [v]=Dc (h.set sP (cs.set i v))/\RS RP R b (h.set sP (cs.set i v)) n sP capP (cs.set i v) sB aj ls (W.set i w) B:=by
 obtain⟨E,G,I,J⟩:=a.P;obtain⟨M,N,U,V⟩:=a.Q;refine⟨zBI G (by rw[a.csl];exact u) A,⟨E,by rw[zG,DK rfl],I,J⟩,⟨M,by rw[zG,DL (Ne.symm a.ne)];exact N,U,V⟩,a.ne,λq l=>(a.lok q l).move (by rw[zG,DL (a.lne q l).1]) (na _),a.lne,a.nd,zGI a.aP D,a.aB,by rw[YA];exact a.lW,a.lB⟩
def zEJ{α β:Type}(f:α->β){xs:List α}{i:Nat}{x y:α}(l:xs[i]? = Dc x)(e:f y=f x):(xs.set i y).map f=xs.map f:=by
 rw[List.map_set,e];refine En λj=>?_;rw[Y4];split
 .rename_i u;subst u;rw[UZ,l];split
  .rfl
  .rename_i A
   have:=(Yj.1 l).1
   simp only[YF]at A;omega
 .rfl
def RS.putB(a:RS RP R b h n sP capP cs sB aj ls W B){i k:Nat}{q:LS}{v:PV}{w:V1}(D:ls[i]? = Dc q)(hk:k<Lu q.cs)(hv:R v w)(ho:v.one=DF):
    h.wr q.s k [v]=Dc (h.set q.s (q.cs.set k v))/\RS RP R b (h.set q.s (q.cs.set k v)) n sP capP cs sB aj (ls.set i ⟨q.s,q.cap,q.cs.set k v⟩) W (B.set i ((B.getD i []).set k w)):=by
  obtain⟨p1,p2,p3,p4⟩:=a.P;obtain⟨q1,q2,q3,q4⟩:=a.Q;have M:=Yg D;obtain⟨g1,g2,g3,g4⟩:=a.lok q M;obtain⟨U,V⟩:=Yj.1 D;have G:=a.lne q M;have N:LS.pv ⟨q.s,q.cap,q.cs.set k v⟩=q.pv:=by simp[LS.pv]
  have I:∀l,l∈ls.set i ⟨q.s,q.cap,q.cs.set k v⟩->l=⟨q.s,q.cap,q.cs.set k v⟩\/(l∈ls/\l.s≠q.s):=λl A=>by
    obtain⟨j,u⟩:=Ic A;rw[Y4]at u;split at u
    . first
      |(cases u;exact .inl rfl)
      | (split at u
         .cases u;exact .inl rfl
         .cases u)
    . rename_i e
      refine .inr ⟨Yg u,λY=>e ?_⟩;obtain⟨X,Z⟩:=Yj.1 u
      have:=(List.getElem_inj (xs:=ls.map LS.s) (i:=i) (j:=j) (h₀:=by rw[YF];exact U) (h₁:=by rw[YF];exact X) a.nd).1 (by rw[UE,UE,V,Z,Y])
      exact this
  refine⟨zBI g2 hk ho,⟨p1,by rw[zG,DL (Ne.symm G.1)];exact p2,p3,p4⟩,⟨q1,by rw[zG,DL (Ne.symm G.2),zEJ LS.pv D N];exact q2,q3,q4⟩,a.ne,λl A=>?_,λl A=>?_,?_,a.aP,?_,a.lW,by rw[YA];exact a.lB⟩
  . rcases I l A with rfl|⟨E,J⟩
    .exact⟨by show full 1 q.cap (q.cs.set k v).length;rw[YA];exact g1,by rw[zG,DK rfl],g3,g4⟩
    .exact(a.lok l E).move (by rw[zG,DL J]) (na _)
  . rcases I l A with rfl|⟨E,J⟩
    .exact G
    .exact a.lne l E
  . rw[zEJ LS.s (y:=⟨q.s,q.cap,q.cs.set k v⟩) D rfl]
    exact a.nd
  . have hB:=a.lB
    have hl:=a.lsl;refine zGI a.aB (zGI ?_ hv)
    have:=a.aB.2 i _ _ D (YQ af)
    rw[YW,YQ af];exact this
def RS.imp{RP' R':PV->V1->Prop}(a:RS RP R b h n sP capP cs sB aj ls W B)(l:dd RP' cs W)(u:RowsG R' ls B):RS RP' R' b h n sP capP cs sB aj ls W B:=⟨a.P,a.Q,a.ne,a.lok,a.lne,a.nd,l,u,a.lW,a.lB⟩
def zHg{t o:Nat}{xs:List PV}:∀vs:List PV,kq t o xs vs=vs.map (sb t o xs)
 |[]=>rfl
 |v::vs=>by simp only[kq,YE,zHg vs]
def Q4{t o u:Nat}{xs l:List PV}(A:u≠t)(D:h.bt u=Dc l):((h.kill t).sub t o xs).bt u=Dc (kq t o xs l):=by
 show(((h.kill t).bt u).map (kq t o xs))=_
 rw[zIC,DL A,D];rfl
def LS.fr(t o:Nat)(xs:List PV)(q:LS):LS:=⟨q.s,q.cap,kq t o xs q.cs⟩
def LS.fr_pv{t o:Nat}{xs:List PV}(q:LS):(LS.fr t o xs q).pv=q.pv:=by simp[LS.fr,LS.pv,Zq]
def LS.sbs_pv{t o:Nat}{xs:List PV}:∀{ls:List LS},(∀q∈ls,q.s≠t)->kq t o xs (ls.map LS.pv)=ls.map LS.pv
 |[],_=>rfl
 |q::ls,hn=>by
  have:=hn q (UH ..)
  simp only[YE,kq,LS.sbs_pv λu l=>hn u (Yt _ l)];simp only[LS.pv,sb,this,false_and,if_false]
def LS.fr_ok{t o:Nat}{xs:List PV}{q:LS}(a:q.ok h b)(E:q.s≠t):(LS.fr t o xs q).ok ((h.kill t).sub t o xs) b:=by
 obtain⟨l,u,A,D⟩:=a;exact⟨by show full 1 q.cap (kq t o xs q.cs).length;rw[Zq];exact l,Q4 E u,A,D⟩
def LS.fr_same{t o:Nat}{xs:List PV}{ls:List LS}(l:∀q∈ls,hZ 0 q.cs):ls.map (LS.fr t o xs)=ls:=by
 conv=>rhs;rw[<-List.map_id ls]
 refine EA λq u=>?_
 show(⟨q.s,q.cap,kq t o xs q.cs⟩:LS)=q
 rw[Q5 (YV _) (l q u)]
def RS.fzh{RP' R':PV->V1->Prop}{t o:Nat}{xs:List PV}(a:RS RP R b h n sP capP cs sB aj ls W B)(D:t≠sP/\t≠sB/\∀q∈ls,q.s≠t)(V:∀v w,RP v w->RP' (sb t o xs v) w)(X:∀v w,R v w->R' (sb t o xs v) w):
  RS RP' R' b ((h.kill t).sub t o xs) n sP capP (kq t o xs cs) sB aj (ls.map (LS.fr t o xs)) W B:=by
 obtain⟨p1,p2,p3,p4⟩:=a.P;obtain⟨q1,q2,q3,q4⟩:=a.Q;have N:(ls.map (LS.fr t o xs)).map LS.pv=ls.map LS.pv:=by rw[Un];exact EA λq _=>LS.fr_pv q
 have U:(ls.map (LS.fr t o xs)).map LS.s=ls.map LS.s:=by rw[Un];exact EA λq _=>rfl
 have J:∀{S I:PV->V1->Prop} {vs:List PV} {M:V2},(∀v w,S v w->I (sb t o xs v) w)->dd S vs M->dd I (kq t o xs vs) M:=λY k=>by
  refine⟨by rw[Zq];exact k.1,λj x y A G=>?_⟩;rw[zHg,UZ]at A;obtain⟨v,Z,rfl⟩:=YK.1 A;exact Y _ _ (k.2 j v y Z G)
 refine⟨⟨p1,Q4 (Ne.symm D.1) p2,p3,p4⟩,⟨q1,by rw[N,Q4 (Ne.symm D.2.1) q2,LS.sbs_pv D.2.2],q3,q4⟩,a.ne,λq E=>?_,λq E=>?_,by rw[U];exact a.nd,J V a.aP,⟨by rw[YF];exact a.aB.1,λj x y A G=>?_⟩,a.lW,a.lB⟩
 .obtain⟨u,l,rfl⟩:=YI.1 E;exact LS.fr_ok (a.lok u l) (D.2.2 u l)
 .obtain⟨u,l,rfl⟩:=YI.1 E;exact a.lne u l
 .rw[UZ]at A;obtain⟨u,l,rfl⟩:=YK.1 A;exact J X (a.aB.2 j u y l G)
def RS.fin(a:RS FI FI b h n sP capP cs sB aj ls W B)(N:cT σ h)(hb:σ.aM<=b)(k:∀vP vB,lx vP vB W B->K (.agg [.int .i64 p,vP,vB]) σ):Gh σ K (.agg [.int .i64 p,.sl sP 0 n capP,.sl sB 0 n aj]) h:=by
 obtain⟨U,V,p3,X⟩:=a.P;obtain⟨Y,Z,q3,q4⟩:=a.Q;have u:=a.csl;have A:=a.lsl;have G:(TR.agg [.leaf (.int .i64 p),.lst sP capP (cs.map TR.leaf),.lst sB aj (ls.map LS.tr)]).pv=.agg [.int .i64 p,.sl sP 0 n capP,.sl sB 0 n aj]:=by
  simp only[TR.pv,TR.pvs,YF];rw[u,A]
 rw[<-G];refine Gh.treeF N ⟨DJ,⟨⟨by rw[YF,u];exact U,by rw[Zu];exact V,af,X⟩,Zv (a.aP.bI 0)⟩,⟨⟨by rw[YF,A];exact Y,by rw[LS.tr_pvs];exact Z,af,q4⟩,LS.trs_okF λq E=>?_⟩,DJ⟩ λl=>k _ _ ⟨⟨DF,.sl (l sP) 0 (Lu cs) capP,cs,?_,a.aP⟩,⟨DF,.sl (l sB) 0 (Lu ls) aj,TR.fzs l (ls.map LS.tr),?_,zAC a.aB⟩⟩
 .obtain⟨I,J,g3,M⟩:=a.lok q E;refine⟨⟨I,J,af,M⟩,?_⟩;obtain⟨k,D,rfl⟩:=YR.1 E;exact(a.aB.2 k _ _ (YQ D) (YQ (by rw[<-a.aB.1];exact D))).bI 0
 .simp only[TR.fz,Zw,YF];rw[u,a.lW]
 .simp only[TR.fz,YF];rw[A,a.lB]
def SU.fzh{T:cg}{p0 t o:Nat}{v0:PV}{fs:List (PV×List PV)}{xs:List PV}(w:PWF T)(a:SU T h p0 v0 fs ls)(V:T.aM<=t)(hp:t≠p0)(hv:sb t o xs v0=v0)(M:∀f∈fs,∀off l c,f.1≠.sl t off l c)(hl:∀q∈ls,q.s≠t):
  SU T ((h.kill t).sub t o xs) p0 v0 (fs.map λf=>(f.1,kq t o xs f.2)) (ls.map (LS.fr t o xs)):=by
 have Z:∀f∈fs,sb t o xs f.1=f.1:=λf A=>by
  obtain⟨s,cap,e,_⟩:=a.acc f A;rw[e]
  have:s≠t:=λI=>M f A 0 (Lu f.2) cap (by rw[e,I])
  simp only[sb,this,false_and,if_false]
 have G:∀{f:PV×List PV},f∈fs.map (λf=>(f.1,kq t o xs f.2))->∃f',f'∈fs/\f=(f'.1,kq t o xs f'.2):=λA=>by
  obtain⟨f',u,D⟩:=YI.1 A;exact⟨f',u,D.symm⟩
 have X:(fs.map λf=>(f.1,kq t o xs f.2)).map Lb=fs.map Lb:=by rw[Un];exact EA λf _=>rfl
 refine⟨(a.cf.kill V).sub w V,?_,a.p0b,λf A=>?_,λf A=>?_,λi j f g N U Y s off l c e=>?_,λq J=>?_,λq J=>?_⟩
 .rw[X,Q4 (Ne.symm hp) a.bt];simp only[kq,hv];congr 2;rw[zHg,Un];exact EA λf A=>Z f A
 .obtain⟨f',u,rfl⟩:=G A;obtain⟨s,cap,e,g1,g2,g3,g4,g5⟩:=a.acc f' u
  have:s≠t:=λI=>M f' u 0 (Lu f'.2) cap (by rw[e,I])
  exact⟨s,cap,by show f'.1=_;rw[e,Zq],by show full 1 cap (kq t o xs f'.2).length;rw[Zq];exact g1,Q4 this g2,by show(kq t o xs f'.2).length=(kq t o xs f'.2).length*1;rw[Fe],g4,g5⟩
 .obtain⟨f',u,rfl⟩:=G A;exact a.ne f' u
 .rw[UZ]at N U;obtain⟨f',u,rfl⟩:=YK.1 N;obtain⟨g',D,rfl⟩:=YK.1 U;exact a.dis i j f' g' u D Y s off l c e
 .obtain⟨E,u,rfl⟩:=YI.1 J;exact LS.fr_ok (a.lok E u) (hl E u)
 .obtain⟨E,u,rfl⟩:=YI.1 J;refine⟨(a.lne E u).1,λf A=>?_⟩;obtain⟨f',D,rfl⟩:=G A;exact(a.lne E u).2 f' D
def SU.move{T u:cg}{p0:Nat}{v0:PV}{fs:List (PV×List PV)}(a:SU T h p0 v0 fs ls)(I:cT T u)(E:h.aM<=u.aM)(A:∀t,(t=p0\/(∃f∈fs,∃off l c,f.1=.sl t off l c)\/∃q∈ls,q.s=t)->u.bt t=h.bt t):SU T u p0 v0 fs ls:=
 ⟨I,by rw[A _ (.inl rfl)];exact a.bt,⟨a.p0b.1,by have:=a.p0b.2;omega⟩,λf D=>zAz (a.acc f D) (λs off l c e=>A _ (.inr (.inl ⟨f,D,off,l,c,e⟩))) E,a.ne,a.dis,λq G=>(a.lok q G).move (A _ (.inr (.inr ⟨q,G,rfl⟩))) E,a.lne⟩
def SU.rs{T:cg}{p0:Nat}{v0 vP vB:PV}{cC:List PV}(a:SU T h p0 v0 [(vP,cs),(vB,cC)] ls)(hC:cC=ls.map LS.pv)(Y:(ls.map LS.s).Nodup)(G:dd RP cs W)(E:RowsG R ls B)(M:(Lu W)=n)(J:(Lu B)=n):
  ∃sP capP sB aj,vP=.sl sP 0 n capP/\vB=.sl sB 0 n aj/\RS RP R T.aM h n sP capP cs sB aj ls W B:=by
 have V:(Lu cs)=n:=G.1.trans M;have X:(Lu cC)=n:=by rw[hC,YF];exact E.1.trans J
 obtain⟨sP,capP,l,A,N,Z,p4,p5⟩:=a.acc (vP,cs) aK;obtain⟨sB,aj,u,D,U,q3,q4,q5⟩:=a.acc (vB,cC) aK;dsimp only at l A N Z u D U q3;rw[V]at l A;rw[X]at u D;refine⟨sP,capP,sB,aj,l,u,⟨A,N,p4,p5⟩,⟨D,by rw[<-hC];exact U,q4,q5⟩,λe=>?_,a.lok,λq I=>⟨λe=>?_,λe=>?_⟩,Y,G,E,M,J⟩
 .exact a.dis 0 1 (vP,cs) (vB,cC) rfl rfl af sP 0 n capP l 0 n aj (by rw[u,e])
 .exact(a.lne q I).2 (vP,cs) aK 0 n capP (by rw[e];exact l)
 .exact(a.lne q I).2 (vB,cC) aK 0 n aj (by rw[e];exact u)
def res3{g:cg}{r:Nat}{u0 u1 u2 l u A:PV}(D:u0.one=DF)(E:u1.one=DF)(G:u2.one=DF)(o:g.bt r=Dc [l,u,A]):g.wr r 0 [u0,u1,u2]=Dc (g.set r [u0,u1,u2])/\(g.set r [u0,u1,u2]).rd r 0 3=Dc [u0,u1,u2]:=
 ⟨by rw[zR o,DK ⟨aK,by simp only[Ej,Em,D,E,G];rfl⟩];rfl,by rw[zi,DK rfl];rfl⟩
end
section
open Go.Grp
variable{b s:Nat}{L L':Nat->Nat}{Q:Nat->Prop}{len:Nat->Nat}{cs:List PV}
def zPE{v:PV}(h:Ap v)(n:Nat):Bel n v:=by
 cases v<;>simp only[Ap]at h<;>trivial
mutual
def mg:∀{t:TR},t.ok h b->t.okF h b
 | .leaf v,a=>zPE a 0
 | .nil,_=>trivial
 | .lst s cap kids,a=>⟨a.1,zEw a.2⟩
 | .cut _ _ _ _ _,a=>a.elim
 | .agg kids,a=>zEw (ts:=kids) a
 | .tup kids,a=>zEw (ts:=kids) a
def zEw:∀{ts:List TR},TR.oks h b ts->TR.okFs h b ts
 |[],_=>trivial
 |t::ts,a=>⟨mg a.1,zEw a.2⟩
end
mutual
def zC3{b':Nat}(u:b'<=b):∀{t:TR},t.okF h b->t.okF h b'
 | .leaf v,a=>a
 | .nil,_=>trivial
 | .lst s cap kids,a=>⟨⟨a.1.1,a.1.2.1,UJ u a.1.2.2.1,a.1.2.2.2⟩,zC2 u a.2⟩
 | .cut s off l cap kids,a=>⟨⟨a.1.1,a.1.2.1,UJ u a.1.2.2.1,a.1.2.2.2⟩,zC2 u a.2⟩
 | .agg kids,a=>zC2 (ts:=kids) u a
 | .tup kids,a=>zC2 (ts:=kids) u a
def zC2{b':Nat}(l:b'<=b):∀{ts:List TR},TR.okFs h b ts->TR.okFs h b' ts
 |[],_=>trivial
 |t::ts,a=>⟨zC3 l a.1,zC2 l a.2⟩
end
def rX(L:Nat->Nat)(h:cg)(b k:Nat)(x:V1)(v:PV):Prop:=∃s cap,v=.sl s 0 (Lu x) cap/\full 1 cap (Lu x)/\h.bt s=Dc (cS x)/\b<=s/\s<h.aM/\L s=k
def eE(L:Nat->Nat)(h:cg)(b:Nat)(Q:Nat->Prop)(v:PV):Prop:=∃x,Q (Lu x)/\rX L h b 1 x v
def ft(L:Nat->Nat)(h:cg)(b:Nat)(Q:Nat->Prop)(k n:Nat)(v:PV):Prop:=∃s cap cs,v=.sl s 0 n cap/\full 1 cap n/\h.bt s=Dc cs/\Lu cs=n/\b<=s/\s<h.aM/\L s=k/\∀c∈cs,eE L h b Q c
def yp(L:Nat->Nat)(h:cg)(b:Nat)(Q:Nat->Prop)(n:Nat)(len:Nat->Nat)(v:PV):Prop:=∃s cap cs,v=.sl s 0 n cap/\full 1 cap n/\h.bt s=Dc cs/\Lu cs=n/\b<=s/\s<h.aM/\L s=4/\∀i c,cs[i]? = Dc c->ft L h b Q 3 (len i) c
def MatO(L:Nat->Nat)(h:cg)(b:Nat)(Q:Nat->Prop)(n:Nat)(v:PV):Prop:=(n=0/\v=Ln)\/ft L h b Q 2 n v
def TenO(L:Nat->Nat)(h:cg)(b:Nat)(Q:Nat->Prop)(n:Nat)(len:Nat->Nat)(v:PV):Prop:=(n=0/\v=Ln)\/yp L h b Q n len v
def rX.one(a:rX L h b k x v):v.one=DF:=by obtain⟨s,cap,rfl,_⟩:=a;rfl
def rX.cells(a:rX L h b k x v):v.cells=[v]:=by obtain⟨s,cap,rfl,_⟩:=a;rfl
def eE.one(a:eE L h b Q v):v.one=DF:=by obtain⟨x,_,a⟩:=a;exact a.one
def ft.one(a:ft L h b Q k n v):v.one=DF:=by obtain⟨s,cap,cs,rfl,_⟩:=a;rfl
def ft.cells(a:ft L h b Q k n v):v.cells=[v]:=by obtain⟨s,cap,cs,rfl,_⟩:=a;rfl
def MatO.one(a:MatO L h b Q n v):v.one=DF:=by rcases a with ⟨_,rfl⟩|a;rfl;exact a.one
def MatO.cells(a:MatO L h b Q n v):v.cells=[v]:=by rcases a with ⟨_,rfl⟩|a;rfl;exact a.cells
def TenO.one(a:TenO L h b Q n len v):v.one=DF:=by rcases a with ⟨_,rfl⟩|⟨s,cap,cs,rfl,_⟩<;>rfl
def TenO.cells(a:TenO L h b Q n len v):v.cells=[v]:=by rcases a with ⟨_,rfl⟩|⟨s,cap,cs,rfl,_⟩<;>rfl
def MatO.mo(a:MatO L h b Q n v):mo v=Dc (.int .i64 n):=by rcases a with ⟨rfl,rfl⟩|⟨s,cap,cs,rfl,_⟩<;>rfl
def TenO.mo(a:TenO L h b Q n len v):mo v=Dc (.int .i64 n):=by rcases a with ⟨rfl,rfl⟩|⟨s,cap,cs,rfl,_⟩<;>rfl
def rX.cf(a:rX L h b k x v)(J:h.aM<=h'.aM)(I:∀t,b<=t->t<h.aM->h'.bt t=h.bt t)(G:∀t,t<h.aM->L' t=L t):rX L' h' b k x v:=by
 obtain⟨s,cap,rfl,A,D,l,u,E⟩:=a;exact⟨s,cap,rfl,A,by rw[I s l u];exact D,l,af,by rw[G s u];exact E⟩
def eE.cf(a:eE L h b Q v)(A:h.aM<=h'.aM)(D:∀t,b<=t->t<h.aM->h'.bt t=h.bt t)(u:∀t,t<h.aM->L' t=L t):eE L' h' b Q v:=by
 obtain⟨x,l,a⟩:=a;exact⟨x,l,a.cf A D u⟩
def ft.cf(a:ft L h b Q k n v)(U:h.aM<=h'.aM)(D:∀t,b<=t->t<h.aM->h'.bt t=h.bt t)(A:∀t,t<h.aM->L' t=L t):ft L' h' b Q k n v:=by
 obtain⟨s,cap,cs,rfl,E,G,I,l,u,J,M⟩:=a;exact⟨s,cap,cs,rfl,E,by rw[D s l u];exact G,I,l,af,by rw[A s u];exact J,λc N=>(M c N).cf U D A⟩
def yp.cf(a:yp L h b Q n len v)(U:h.aM<=h'.aM)(D:∀t,b<=t->t<h.aM->h'.bt t=h.bt t)(A:∀t,t<h.aM->L' t=L t):yp L' h' b Q n len v:=by
 obtain⟨s,cap,cs,rfl,E,G,I,l,u,J,M⟩:=a;exact⟨s,cap,cs,rfl,E,by rw[D s l u];exact G,I,l,af,by rw[A s u];exact J,λi c N=>(M i c N).cf U D A⟩
structure PW(L:Nat->Nat)(b:Nat)(h:cg)(Q:Nat->Prop)(O:V1)(nP nC:Nat)(len:Nat->Nat)(vO vP vC:PV):Prop where
 hO:rX L h b 5 O vO
 hP:MatO L h b Q nP vP
 hC:TenO L h b Q nC len vC
variable{nP nC:Nat}
def PW.keepL(a:PW L b h Q O nP nC len vO vP vC)(u:h.aM<=h'.aM)(A:∀t,b<=t->t<h.aM->h'.bt t=h.bt t)(l:∀t,t<h.aM->L' t=L t):PW L' b h' Q O nP nC len vO vP vC:=
 ⟨a.hO.cf u A l,a.hP.imp id λa=>a.cf u A l,a.hC.imp id λa=>a.cf u A l⟩
def PW.mv(a:PW L b h Q O nP nC len vO vP vC)(hs:s<b)(m:Mv h s h'):PW L b h' Q O nP nC len vO vP vC:=a.keepL (by rw[m.aM];exact na _) (λt l _=>m.bt af) λ_ _=>rfl
def PW.set(a:PW L b h Q O nP nC len vO vP vC)(hs:s<b)(l:List PV):PW L b (h.set s l) Q O nP nC len vO vP vC:=a.keepL (na _) (λt u _=>by rw[zG,DL af]) λ_ _=>rfl
def rX.tree(a:rX L h b k x v):∃t:TR,t.ok h b/\t.pv=v/\∀l,FI (t.fz l) x:=by
 obtain⟨s,cap,rfl,u,A,D,E,G⟩:=a;exact⟨TR.row s cap x,TR.row_ok u A D E,TR.row_pv,λl=>TR.row_FI⟩
def trees{α:Type}{R:PV->α->Prop}:∀{cs:List PV},(∀c∈cs,∃(t:TR) (x:α),t.ok h b/\t.pv=c/\∀l,R (t.fz l) x)->∃(ts:List TR) (xs:List α),TR.oks h b ts/\TR.pvs ts=cs/\∀l,dd R (TR.fzs l ts) xs
 |[],_=>⟨[],[],DJ,rfl,λ_=>dd.nil _⟩
 |c::cs,hc=>by
  obtain⟨t,x,M,N,U⟩:=hc c (UH ..);obtain⟨ts,xs,G,I,J⟩:=trees λE h'=>hc E (Yt _ h');refine⟨t::ts,x::xs,⟨M,G⟩,by simp only[TR.pvs,N,I],λl=>?_⟩;have V:=U l;have D:=J l;refine⟨by simp only[TR.fzs,Yu,D.1],λi v y u A=>?_⟩;cases i with
  |zero=>simp only[TR.fzs,Hk,YC]at u A;rw[<-u,<-A];exact V
  |succ i=>simp only[TR.fzs,D3]at u A;exact D.2 i v y u A
def zDV:∀ts:List TR,(TR.pvs ts).length=Lu ts
 |[]=>rfl
 |t::ts=>by simp only[TR.pvs,Yu,zDV ts]
def RowQ(Q:Nat->Prop)(v:PV)(x:V1):Prop:=FI v x/\Q (Lu x)
def MatQ(Q:Nat->Prop)(v:PV)(M:V2):Prop:=jj v M/\∀r∈M,Q (Lu r)
def zTP{cs:List PV}{xs:V2}(a:dd (RowQ Q) cs xs):dd FI cs xs/\∀r∈xs,Q (Lu r):=by
 refine⟨⟨a.1,λi v y A D=>(a.2 i v y A D).1⟩,λr u=>?_⟩;obtain⟨i,l,rfl⟩:=YR.1 u;exact(a.2 i _ _ (YQ (by rw[a.1];exact l)) (YQ l)).2
def ft.tree(a:ft L h b Q k n v):∃(t:TR) (M:V2),(t.ok h b/\t.pv=v/\∀l,MatQ Q (t.fz l) M)/\Lu M=n:=by
 obtain⟨s,cap,cs,rfl,I,J,N,U,V,h6,X⟩:=a;obtain⟨ts,xs,G,D,E⟩:=trees (R:=RowQ Q) (cs:=cs) (h:=h) (b:=b) λc Y=>by
  obtain⟨x,q,a⟩:=X c Y;obtain⟨t,Z,k2,k3⟩:=a.tree;exact⟨t,x,Z,k2,λl=>⟨k3 l,q⟩⟩
 have u:(Lu ts)=n:=by rw[<-N,<-D,zDV]
 have A:(Lu xs)=n:=by
  have:=(E λ_=>0).1
  rw[TR.fzs_length]at this;omega
 refine⟨.lst s cap ts,xs,⟨⟨⟨by rw[u];exact I,by rw[D];exact J,U,V⟩,G⟩,by simp only[TR.pv,u],λl=>?_⟩,A⟩;obtain⟨q1,q2⟩:=zTP (E l);exact⟨⟨DF,.sl (l s) 0 (Lu ts) cap,TR.fzs l ts,by simp only[TR.fz,u,A],q1⟩,q2⟩
structure Cw(Q:Nat->Prop)(P:V2)(C:V3)(nP nC:Nat)(len:Nat->Nat):Prop where
 pl:(Lu P)=nP
 cl:(Lu C)=nC
 pq:∀r∈P,Q (Lu r)
 row:∀i,i<nC->(C.getD i []).length=len i
 cq:∀q∈C,∀r∈q,Q (Lu r)
def MatO.tree(a:MatO L h b Q n v):∃(t:TR) (M:V2),(t.ok h b/\t.pv=v/\∀l,MatQ Q (t.fz l) M)/\Lu M=n:=by
 rcases a with ⟨rfl,rfl⟩|a
 .exact⟨.nil,[],⟨DJ,rfl,λl=>⟨⟨DF,.b8,[],rfl,dd.nil _⟩,λr u=>by cases u⟩⟩,rfl⟩
 .exact a.tree
def TenO.tree(a:TenO L h b Q n len v):∃(t:TR) (C:V3),(t.ok h b/\t.pv=v/\∀l,Db (t.fz l) C)/\Lu C=n/\(∀i,i<n->(C.getD i []).length=len i)/\∀q∈C,∀r∈q,Q (Lu r):=by
 rcases a with ⟨rfl,rfl⟩|⟨s,cap,cs,rfl,h1,h2,h3,h4,h5,h6,h7⟩
 .exact⟨.nil,[],⟨DJ,rfl,λl=>⟨DF,.b8,[],rfl,dd.nil _⟩⟩,rfl,λi D=>af,λq hq=>by cases hq⟩
 .have key:∀(m:Nat) (u:List PV),(∀i c,u[i]? = Dc c->ft L h b Q 3 (len (m+i)) c)->∃(ts:List TR) (xs:V3),TR.oks h b ts/\TR.pvs ts=u/\(∀l,dd jj (TR.fzs l ts) xs)/\(∀i,i<Lu xs->(xs.getD i []).length=len (m+i))/\∀q∈xs,∀r∈q,Q (Lu r):=by
   intro m u
   induction u generalizing m with
   |nil=>exactλ_=>⟨[],[],DJ,rfl,λ_=>dd.nil _,λi D=>(by simp at D),λq hq=>by cases hq⟩
   |cons d u ih=>
    intro hd;obtain⟨t,M,⟨k1,k2,Z⟩,k4⟩:=(hd 0 d rfl).tree;obtain⟨ts,xs,J,E,A,N,U⟩:=ih (m+1) λi c V=>by
     have:=hd (i+1) c (by simpa using V)
     rw[show m+1+i=m+(i+1) by omega];exact this
    refine⟨t::ts,M::xs,⟨k1,J⟩,by simp only[TR.pvs,k2,E],λl=>⟨by simp only[TR.fzs,Yu,(A l).1],λi w y hw G=>?_⟩,λi D=>?_,λq hq r Y=>?_⟩
    .cases i with
     |zero=>simp only[TR.fzs,Hk,YC]at hw G;rw[<-hw,<-G];exact(Z l).1
     |succ i=>simp only[TR.fzs,D3]at hw G;exact(A l).2 i w y hw G
    .cases i with
     |zero=>simpa using k4
     |succ i=>
      have:=N i (by simpa using D)
      rw[show m+1+i=m+(i+1) by omega]at this;simpa using this
    .rcases YH.1 hq with rfl|hq
     .exact(Z λ_=>0).2 r Y
     .exact U q hq r Y
  obtain⟨ts,xs,J,E,A,N,U⟩:=key 0 cs λi c V=>by rw[Y5];exact h7 i c V
  have I:(Lu ts)=n:=by rw[<-h3,<-E,zDV]
  have X:(Lu xs)=n:=by
   have:=(A λ_=>0).1
   rw[TR.fzs_length]at this;omega
  exact⟨.lst s cap ts,xs,⟨⟨⟨by rw[I];exact h1,by rw[E];exact h2,h4,h5⟩,J⟩,by simp only[TR.pv,I],λl=>⟨DF,.sl (l s) 0 (Lu ts) cap,TR.fzs l ts,by simp only[TR.fz,I,X],A l⟩⟩,X,λi D=>by have:=N i af;rw[Y5]at this;exact this,U⟩
def PW.fin(a:PW L b h Q O nP nC len vO vP vC)(hk:cT σ h)(u:σ.aM<=b)(k:∀J M I P C,dU J M I O P C->Cw Q P C nP nC len->K (.agg [J,M,I]) σ):Gh σ K (.agg [vO,vP,vC]) h:=by
 obtain⟨A,N,rfl,U⟩:=a.hO.tree;obtain⟨D,P,⟨b1,rfl,G⟩,V⟩:=a.hP.tree;obtain⟨E,C,⟨X,rfl,Y⟩,Z,c5,c6⟩:=a.hC.tree;have et:(TR.agg [A,D,E]).pv=.agg [A.pv,D.pv,E.pv]:=by simp only[TR.pv,TR.pvs]
 rw[<-et];refine Gh.treeF hk ⟨zC3 u (mg N),zC3 u (mg b1),zC3 u (mg X),DJ⟩ λl=>?_
 have:=k (A.fz l) (D.fz l) (E.fz l) P C ⟨U l,(G l).1,Y l⟩ ⟨V,Z,(G l).2,c5,c6⟩
 simpa only[TR.fz,TR.fzs]using this
def nU(L:Nat->Nat)(s k:Nat):Nat->Nat:=λt=>if t=s then k else L t
def zGP{i:Nat}{y:Int}(u:h.bt s=Dc (cS x))(l:i<Lu x):h.wr s i [.int .i64 y]=Dc (h.set s (cS (x.set i y))):=by
 rw[zR u,DK ⟨by rw[zJ];simp;omega,rfl⟩];congr 2;exact zX l
def rX.wr{y:V1}{j:Nat}(a:rX L h b j y v)(J:L s=k)(M:j≠k):rX L (h.set s cs) b j y v:=by
 obtain⟨u,cap,rfl,D,E,G,I,l⟩:=a;have A:u≠s:=λe=>M (by rw[<-l,e,J]);exact⟨u,cap,rfl,D,by rw[zG,DL A];exact E,G,I,l⟩
def eE.wrR{y:V1}(a:eE L h b Q v)(N:h.bt s=Dc (cS x))(M:(Lu y)=Lu x):eE L (h.set s (cS y)) b Q v:=by
 obtain⟨z,J,A,cap,rfl,D,u,E,G,I⟩:=a;by_cases e:A=s
 .subst e;rw[N]at u;have U:(Lu x)=Lu z:=by rw[<-zJ x,<-zJ z];exact congrArg F6 (Option.some.inj u)
  have l:(Lu y)=Lu z:=M.trans U;exact⟨y,by rw[l];exact J,A,cap,by rw[l],by rw[l];exact D,by rw[zG,DK rfl],E,G,I⟩
 .exact⟨z,J,A,cap,rfl,D,by rw[zG,DL e];exact u,E,G,I⟩
def eE.wrN(a:eE L h b Q v)(l:L s≠1):eE L (h.set s cs) b Q v:=by
 obtain⟨z,u,a⟩:=a;exact⟨z,u,a.wr rfl (Ne.symm l)⟩
def ft.wrR{y:V1}(a:ft L h b Q k n v)(Y:h.bt s=Dc (cS x))(X:(Lu y)=Lu x)(N:L s=1)(V:k≠1):ft L (h.set s (cS y)) b Q k n v:=by
 obtain⟨u,cap,cs,rfl,D,E,G,I,J,l,M⟩:=a;have A:u≠s:=λe=>V (by rw[<-l,e,N]);exact⟨u,cap,cs,rfl,D,by rw[zG,DL A];exact E,G,I,J,l,λc U=>(M c U).wrR Y X⟩
def PW.setRow(a:PW L b h Q O nP nC len vO vP vC){i:Nat}{y:Int}(A:h.bt s=Dc (cS x))(X:i<Lu x)(l:L s=1):
  h.wr s i [.int .i64 y]=Dc (h.set s (cS (x.set i y)))/\PW L b (h.set s (cS (x.set i y))) Q O nP nC len vO vP vC:=by
 refine⟨zGP A X,a.hO.wr l LB,a.hP.imp id λa=>a.wrR A (YA ..) l LB,a.hC.imp id λa=>?_⟩;obtain⟨D,cap,cs,rfl,G,I,J,M,N,u,U⟩:=a;have E:D≠s:=λe=>by rw[e,l]at u;cases u
 exact⟨D,cap,cs,rfl,G,by rw[zG,DL E];exact I,J,M,N,u,λj c V=>(U j c V).wrR A (YA ..) l LB⟩
def ft.wrL{i:Nat}(a:ft L h b Q k n v){j:Nat}(Y:h.bt s=Dc cs)(U:L s=j)(X:j≠1)(V:eE L h b Q c):ft L (h.set s (cs.set i c)) b Q k n v:=by
 obtain⟨A,cap,N,rfl,D,l,E,G,I,J,M⟩:=a;have u:L s≠1:=by rw[U];exact X
 by_cases e:A=s
 .subst e;rw[Y]at l;cases l;refine⟨A,cap,cs.set i c,rfl,D,by rw[zG,DK rfl],by rw[YA];exact E,G,I,J,λd hd=>?_⟩;rcases Hs hd with hd|rfl
  .exact(M d hd).wrN u
  .exact V.wrN u
 .exact⟨A,cap,N,rfl,D,by rw[zG,DL e];exact l,E,G,I,J,λd hd=>(M d hd).wrN u⟩
def PW.putRow(a:PW L b h Q O nP nC len vO vP vC){i:Nat}(u:h.bt s=Dc cs)(Y:i<Lu cs)(Z:L s=2\/L s=3)(l:eE L h b Q c):
  h.wr s i [c]=Dc (h.set s (cs.set i c))/\PW L b (h.set s (cs.set i c)) Q O nP nC len vO vP vC:=by
 have D:L s≠1:=af
 refine⟨zBI u Y l.one,a.hO.wr rfl af,a.hP.imp id λa=>a.wrL u rfl D l,a.hC.imp id λa=>?_⟩;obtain⟨E,cap,I,rfl,J,M,N,U,V,A,X⟩:=a;have G:E≠s:=λe=>by rw[e]at A;omega
 exact⟨E,cap,I,rfl,J,by rw[zG,DL G];exact M,N,U,V,A,λj d hd=>(X j d hd).wrL u rfl D l⟩
def PW.powers(a:PW L b h Q O nP nC len vO vP vC)(J:0<nP):∃s cap cs,vP=.sl s 0 nP cap/\h.bt s=Dc cs/\Lu cs=nP/\L s=2/\b<=s/\s<h.aM/\∀c∈cs,eE L h b Q c:=by
 rcases a.hP with ⟨e,_⟩|⟨s,cap,cs,rfl,I,l,u,A,D,E,G⟩
 .omega
 .exact⟨s,cap,cs,rfl,l,u,E,A,D,G⟩
def PW.mT(a:PW L b h Q O nP nC len vO vP vC){i:Nat}(hi:i<nC):∃s cap t l,vC=.sl s 0 nC cap/\h.dR s i=Dc (.sl t 0 (len i) l)/\b<=s/\s<h.aM/\∃cs,h.bt t=Dc cs/\Lu cs=len i/\L t=3/\b<=t/\t<h.aM/\∀c∈cs,eE L h b Q c:=by
 rcases a.hC with ⟨e,_⟩|⟨s,cap,cs,rfl,Y,M,Z,N,U,h6,V⟩
 .omega
 .obtain⟨t,l,u,e,X,A,D,E,G,I,J⟩:=V i _ (YQ af);exact⟨s,cap,t,l,rfl,by rw[zH M,YQ af,e],N,U,u,A,D,I,E,G,J⟩
end
section
open Go.Grp
variable{b s:Nat}{L L':Nat->Nat}{Q:Nat->Prop}{len:Nat->Nat}{cs:List PV}
def qh(hs:h.aM<=s):∀t,t<h.aM->nU L s k t=L t:=λt l=>DL af
def Qf:nU L s k s=k:=DK rfl
def rX.keepK{j:Nat}(a:rX L h b j x v)(J:j≠k)(N:h.aM<=h'.aM)(M:∀t,b<=t->t<h.aM->L t≠k->h'.bt t=h.bt t)(I:∀t,t<h.aM->L t≠k->L' t=L t):rX L' h' b j x v:=by
 obtain⟨s,cap,rfl,E,G,u,A,D⟩:=a;have l:L s≠k:=by rw[D];exact J
 exact⟨s,cap,rfl,E,by rw[M s u A l];exact G,u,af,by rw[I s A l];exact D⟩
def eE.keepK(a:eE L h b Q v)(A:1≠k)(D:h.aM<=h'.aM)(E:∀t,b<=t->t<h.aM->L t≠k->h'.bt t=h.bt t)(u:∀t,t<h.aM->L t≠k->L' t=L t):eE L' h' b Q v:=by
 obtain⟨x,l,a⟩:=a;exact⟨x,l,a.keepK A D E u⟩
def ft.keepK{j:Nat}(a:ft L h b Q j n v)(X:j≠k)(I:1≠k)(Y:h.aM<=h'.aM)(G:∀t,b<=t->t<h.aM->L t≠k->h'.bt t=h.bt t)(E:∀t,t<h.aM->L t≠k->L' t=L t):ft L' h' b Q j n v:=by
 obtain⟨s,cap,cs,rfl,J,M,N,u,A,D,U⟩:=a;have l:L s≠k:=by rw[D];exact X
 exact⟨s,cap,cs,rfl,J,by rw[G s u A l];exact M,N,u,af,by rw[E s A l];exact D,λc V=>(U c V).keepK I Y G E⟩
def yp.keepK(a:yp L h b Q n len v)(I:1≠k)(M:3≠k)(J:4≠k)(Z:h.aM<=h'.aM)(G:∀t,b<=t->t<h.aM->L t≠k->h'.bt t=h.bt t)(E:∀t,t<h.aM->L t≠k->L' t=L t):yp L' h' b Q n len v:=by
 obtain⟨s,cap,cs,rfl,N,U,V,u,A,D,X⟩:=a;have l:L s≠k:=by rw[D];exact J
 exact⟨s,cap,cs,rfl,N,by rw[G s u A l];exact U,V,u,af,by rw[E s A l];exact D,λi c Y=>(X i c Y).keepK M I Z G E⟩
def PW.keepK(a:PW L b h Q O nP nC len vO vP vC)(D:6<=k)(u:h.aM<=h'.aM)(A:∀t,b<=t->t<h.aM->L t≠k->h'.bt t=h.bt t)(l:∀t,t<h.aM->L t≠k->L' t=L t):PW L' b h' Q O nP nC len vO vP vC:=
 ⟨a.hO.keepK af u A l,a.hP.imp id λa=>a.keepK af af u A l,a.hC.imp id λa=>a.keepK af af af u A l⟩
def Bs(L:Nat->Nat)(h:cg)(b:Nat)(Q:Nat->Prop)(k n:Nat)(v:PV):Prop:=(n=0/\v=Ln)\/ft L h b Q k n v
def Bs.acc(a:Bs L h b Q k n v):∃cs,ei b 1 h v n cs/\(∀c∈cs,eE L h b Q c)/\∀t off l c,v=.sl t off l c->L t=k:=by
 rcases a with ⟨rfl,rfl⟩|⟨s,cap,cs,rfl,u,A,M,D,E,G,I⟩
 .exact⟨[],ei.nil _ _ _,λc J=>(by cases J),λt off l c e=>by cases e⟩
 .exact⟨cs,.inr ⟨s,cap,rfl,u,A,af,D,E⟩,I,λt off l c e=>by simp only[PV.sl.injEq]at e;rw[<-e.1];exact G⟩
def Bs.push{G:PV×cg->Prop}(a:Bs L h b Q k n v)(X:k≠1)(hc:eE L h b Q c)(hk:cT σ h)(hb:σ.aM<=b)(u4:b<=h.aM)(hn:n<=1048576)
  (kk:∀E h' L',cT σ h'->ft L' h' b Q k (n+1) E->h.aM<h'.aM->(∀t,t<h.aM->L' t=L t)->(∀t,t<h.aM->L t≠k->h'.bt t=h.bt t)->(∀t,t<b->h'.bt t=h.bt t)->G (E,h')):fw (qL 1 24 (h.bf [c]) v (.sl h.aM 0 1 (.b6 1))) G:=by
 obtain⟨cs,acc,Z,hL⟩:=a.acc;refine ei.pushS hk (acc.low hb) rfl af af λE h' k1 V N n1 l1=>?_;obtain⟨A,I,rfl,g1,g2,g3,g4,g5⟩:=V;have J:h.aM<=A:=by
  rcases YG A h.aM with q|q
  .exact absurd rfl (n1 A q 0 _ I)
  .exact q
 have U:∀t,t<h.aM->L t≠k->h'.bt t=h.bt t:=λt u D=>N t u λoff l c e=>D (hL t off l c e);have Y:h.aM<=h'.aM:=af
 have M:∀{d:PV},eE L h b Q d->eE (nU L A k) h' b Q d:=λ{d} hd=>hd.keepK (k:=k) (Ne.symm X) Y (λt _ u D=>U t u D) λt u _=>qh J t u;refine kk _ h' (nU L A k) k1 ⟨A,I,cs++[c],rfl,g1,g2,by simpa using g3,af,g5,Qf,λd hd=>?_⟩ l1 (qh J) U λt u=>?_
 .rcases YY.1 hd with hd|hd
  .exact M (Z d hd)
  .rw[YT.1 hd];exact M hc
 .refine N t af λoff l c e=>?_;rcases acc with ⟨rfl,_,_⟩|⟨s,cap,rfl,q1,q2,q3,q4,q5⟩
  .cases e
  .simp only[PV.sl.injEq]at e;omega
def PW.pushP{G:PV×cg->Prop}(a:PW L b h Q O nP nC len vO vP vC)(M:eE L h b Q c)(N:cT σ h)(J:σ.aM<=b)(u4:b<=h.aM)(U:nP<=1048576)
  (X:∀u h' L',cT σ h'->PW L' b h' Q O (nP+1) nC len vO u vC->h.aM<h'.aM->(∀t,t<b->h'.bt t=h.bt t)->(∀t,t<h.aM->7<=L t->h'.bt t=h.bt t/\L' t=L t)->G (u,h')):fw (qL 1 24 (h.bf [c]) vP (.sl h.aM 0 1 (.b6 1))) G:=by
 refine Bs.push (k:=2) a.hP LB M N J u4 U λu h' L' V Z Y D E I=>X u h' L' V ⟨?_,.inr Z,?_⟩ Y I λt l h7=>⟨E t l af,D t l⟩
 .exact a.hO.keepK (k:=2) LB af (λt _ l A=>E t l A) λt l _=>D t l
 .exact a.hC.imp id λa=>a.keepK (k:=2) LB LB LB af (λt _ l A=>E t l A) λt l _=>D t l
def PW.pushC{Y:PV×cg->Prop}{m:Nat}(a:PW L b h Q O nP nC len vO vP vC)(E:ft L h b Q 6 m c)(hm:len nC=m)(hk:cT σ h)(hb:σ.aM<=b)(u4:b<=h.aM)(hn:nC<=1048576)
  (kk:∀X h' L',cT σ h'->PW L' b h' Q O nP (nC+1) len vO vP X->h.aM<h'.aM->(∀t,t<b->h'.bt t=h.bt t)->(∀t,t<h.aM->7<=L t->h'.bt t=h.bt t/\L' t=L t)->Y (X,h')):fw (qL 1 24 (h.bf [c]) vC (.sl h.aM 0 1 (.b6 1))) Y:=by
 obtain⟨s0,lK,G8,rfl,z1,z2,z3,z4,z5,z6,z7⟩:=E;have acc:∃cs,ei b 1 h vC nC cs/\(∀i c,cs[i]? = Dc c->ft L h b Q 3 (len i) c)/\∀t off l c,vC=.sl t off l c->L t=4:=by
  rcases a.hC with ⟨rfl,rfl⟩|⟨s,cap,cs,rfl,N,U,h3,h4,h5,h6,h7⟩
  .exact⟨[],ei.nil _ _ _,λi c E=>(by simp at E),λt off l c e=>by cases e⟩
  .exact⟨cs,.inr ⟨s,cap,rfl,N,U,af,h4,h5⟩,h7,λt off l c e=>by simp only[PV.sl.injEq]at e;rw[<-e.1];exact h6⟩
 obtain⟨cs,acc,eY,hL⟩:=acc;have csl:(Lu cs)=nC:=by
  rcases acc with ⟨_,N,U⟩|⟨_,_,_,_,_,h,_⟩
  .rw[N,U];rfl
  .omega
 refine ei.pushS hk (acc.low hb) rfl af af λX h' k1 a1 o1 n1 l1=>?_;obtain⟨D,Z,rfl,g1,g2,g3,g4,g5⟩:=a1;have cu:h.aM<=D:=by
  rcases YG D h.aM with q|q
  .exact absurd rfl (n1 D q 0 _ Z)
  .exact q
 have I:∀t,t<h.aM->L t≠4->h'.bt t=h.bt t:=λt A J=>o1 t A λoff l c e=>J (hL t off l c e);have cb:h.aM<=h'.aM:=af
 -- oT marks: oT Eg slot bears 4, oT new Ed 3
 have M:∀t,t<h.aM->L t≠6->nU (nU L D 4) s0 3 t=L t:=λt A J=>by
  unfold nU;rw[DL (λe=>J (by rw[e];exact z6)),DL af]
 have PL:∀t,b<=t->t<h.aM->L t≠4->h'.bt t=h.bt t:=λt _ A J=>I t A J;have kR:∀{d:PV},eE L h b Q d->eE (nU (nU L D 4) s0 3) h' b Q d:=λ{d} ⟨x,q,s,cap,e,r1,r2,r3,G,u⟩=>
  ⟨x,q,s,cap,e,r1,by rw[I s G (by rw[u];decide)];exact r2,r3,af,by rw[M s G (by rw[u];decide)];exact u⟩
 have kM:∀{j m:Nat} {d:PV},j≠4->j≠6->ft L h b Q j m d->ft (nU (nU L D 4) s0 3) h' b Q j m d:=λ{j m d} Fy CH ⟨s,cap,cs,e,r1,r2,r3,G,u,V,r7⟩=>
  ⟨s,cap,cs,e,r1,by rw[I s u (by rw[V];exact Fy)];exact r2,r3,G,af,by rw[M s u (by rw[V];exact CH)];exact V,λc E=>kR (r7 c E)⟩
 refine kk _ h' (nU (nU L D 4) s0 3) k1 ⟨?_,a.hP.imp id (kM LB LB),.inr ⟨D,Z,cs++[_],rfl,g1,g2,by simpa using g3,af,g5,?_,λi d hd=>?_⟩⟩ l1 (λt A=>?_) λt A h7=>⟨I t A af,M t A af⟩
 .obtain⟨s,cap,e,r1,r2,r3,G,u⟩:=a.hO;exact⟨s,cap,e,r1,by rw[I s G (by rw[u];decide)];exact r2,r3,af,by rw[M s G (by rw[u];decide)];exact u⟩
 .unfold nU;rw[DL af,DK rfl]
 .rcases YG i (Lu cs) with hi|hi
  .rw[Yn hi]at hd;exact kM LB LB (eY i d hd)
  .rw[Yz hi]at hd;obtain rfl:i=Lu cs:=by
    rcases YG (i-Lu cs) 1 with q|q
    .omega
    .rw[Yq (by simpa using q)]at hd;cases hd
   rw[Yk,Hk]at hd;cases hd;rw[csl,hm];exact⟨s0,lK,G8,rfl,z1,by rw[I s0 z5 (by rw[z6];decide)];exact z2,z3,z4,af,Qf,λc E=>kR (z7 c E)⟩
 .refine o1 t af λoff l c e=>?_;rcases acc with ⟨rfl,_,_⟩|⟨s,cap,rfl,q1,q2,q3,q4,q5⟩
  .cases e
  .simp only[PV.sl.injEq]at e;omega
def PW.set7(a:PW L b h Q O nP nC len vO vP vC)(u:7<=L s)(cs:List PV):PW L b (h.set s cs) Q O nP nC len vO vP vC:=
 a.keepK (k:=L s) af (na _) (λt _ _ l=>by rw[zG,DL (λe=>l (by rw[e]))]) λ_ _ _=>rfl
def eE.fresh{cap:jZ}(l:b<=h.aM)(A:Q (Lu x))(u:full 1 cap (Lu x)):eE (nU L h.aM 1) (h.bf (cS x)) b Q (.sl h.aM 0 (Lu x) cap):=
 ⟨x,A,h.aM,cap,rfl,u,by rw[zI,DK rfl],l,YM _,Qf⟩
def PW.fresh(a:PW L b h Q O nP nC len vO vP vC)(cs:List PV)(k:Nat):PW (nU L h.aM k) b (h.bf cs) Q O nP nC len vO vP vC:=a.keepL (UW _) (λt _ l=>by rw[zI,DL af]) (qh (na _))
def zN6{vS:PV}{bs:V1}{σ':cg}(q:cT σ' h)(l:So h s vS bs)(hs:s<σ'.aM):So σ' s vS bs:=by
 obtain⟨a,sd,S⟩:=l;exact⟨a,sd,by rw[<-q.bt s hs];exact S.bt,hs,S.fb,S.byt,S.le,S.sd⟩
def kmSo{vS:PV}{bs:V1}(km:KM σ s h)(l:So h s vS bs)(hs:s<σ.aM):∃σ',Mv σ s σ'/\So σ' s vS bs/\cT σ' h/\σ'.aM=σ.aM:=by
 obtain⟨σ',m,q⟩:=km;exact⟨σ',m,zN6 q l (by rw[m.aM];exact hs),q,m.aM⟩
def zAO{vS:PV}{bs:V1}{cap:jZ}(I:So σ s vS bs)(A:s≠t)(G:σ.bt t=Dc (cS xs))(J:0<Lu xs/\Lu xs<=1000)(E:∀x h,x∈xs->Mv σ s h->So h s vS bs->K (.int .i64 x) h):zA Li 133 [.ptr s 0,.sl t 0 (Lu xs) cap] σ K:=by
 refine Lg Tryz.func133 ?_;refine Lk ?_;refine zZ I af λx h u m D=>?_;obtain⟨i,rfl⟩:∃i:Nat,x=(i:Int):=⟨x.toNat,by have:=u.1;omega⟩
 have l:i<Lu xs:=by have:=u.lt af;omega
 have r1:h.dR t i=Dc (.int .i64 xs[i]):=by rw[zH (by rw[m.bt (Ne.symm A)];exact G),zN,gi l];rfl
 simp only[Z3,seval,-ae,l,r1];exact E _ h (YZ l) m D
def zDC{cap:jZ}(E:σ.bt s=Dc (cS xs))(hs:s<σ.aM)(I:(Lu xs)<=1048576)(D:∀cap,full 1 cap (Lu xs)->K (.sl σ.aM 0 (Lu xs) cap) (σ.bf (cS xs))):zA Li 206 [.sl s 0 (Lu xs) cap] σ K:=by
 refine zA.gh ?_;have u:¬s=σ.aM:=Ev hs;refine Lg Tryz.func206 ?_;refine Lk ?_;refine eA.app (b:=0) (news:=cS xs) (m:=(Lu xs)) (zC σ _) (YV _) (eA.bf _ 1 rfl (na _)) rfl (λA=>?_) (by rw[zJ,Fe]) af af λJ h' G l=>?_
 .rw[ZG];simp only[A,if_false,na,if_true,Fe,zAS,u];rw[zV E,DK (by rw[zJ];omega),EC,YS (by rw[zJ];exact na _)]
 .simp only[Z3,seval,-ae]at l ⊢;exact l.out G (zL _ _) D
def zBj{n k:Nat}(A:n<=1048576)(l:k<n)(u:∀cap,full 1 cap n->K (.sl σ.aM 0 n cap) (σ.bf (cS (cD n k)))):zA Li 98 [.int .i64 n,.int .i64 k] σ K:=by
 refine Lh Tryz.func98 ?_;simp only[Z3,seval,-ae,l,zJ,YL,zh,uK (n:=n) af,Go.Ab.tn (n:=n) af,UX l];rw[zX (by simpa using l)];exact Gh.np (s:=σ.aM) (cs:=cS (cD n k)) (zC σ _) (by refine Lk ?_;rfl) (na _) (zL _ _) (u _ (.inr rfl))
end
section
open Go.Grp
variable{b s:Nat}{L L':Nat->Nat}{Q:Nat->Prop}{len:Nat->Nat}{cs:List PV}
structure BV(σ h:cg)(Q:Nat->Prop)(O:V1)(L:Nat->Nat)(nP nC:Nat)(len:Nat->Nat)(r s:Nat)(vO vP vC:PV):Prop where
 cf:cT σ h
 res:h.bt r=Dc [Ln,Ln,Ln]
 ob:h.bt s=Dc [vO,vP,vC]
 pw:PW L σ.aM h Q O nP nC len vO vP vC
 lr:L r=7
 ls:L s=7
 ne:r≠s
 nr:σ.aM<=r/\r<h.aM
 ns:σ.aM<=s/\s<h.aM
variable{r:Nat}
def BV.r1(a:BV σ h Q O L nP nC len r s vO vP vC):h.dR s 1=Dc vP:=by rw[zH a.ob];rfl
def BV.r2(a:BV σ h Q O L nP nC len r s vO vP vC):h.dR s 2=Dc vC:=by rw[zH a.ob];rfl
def BV.r3(a:BV σ h Q O L nP nC len r s vO vP vC):h.rd s 0 3=Dc [vO,vP,vC]:=by rw[zV a.ob];rfl
def BV.fin(a:BV σ h Q O L nP nC len r s vO vP vC):h.wr r 0 [vO,vP,vC]=Dc (h.set r [vO,vP,vC])/\(h.set r [vO,vP,vC]).rd r 0 3=Dc [vO,vP,vC]/\cT σ (h.set r [vO,vP,vC])/\PW L σ.aM (h.set r [vO,vP,vC]) Q O nP nC len vO vP vC:=by
 refine⟨by rw[zR a.res,DK ⟨aK,by simp[a.pw.hO.one,a.pw.hP.one,a.pw.hC.one]⟩];rfl,by rw[zi,DK rfl];rfl,a.cf.set a.nr.1 _,a.pw.set7 (by rw[a.lr];exact na _) _⟩
def BV.keepL(a:BV σ h Q O L nP nC len r s vO vP vC)(A:cT σ h')(D:h.aM<=h'.aM)(u:∀t,σ.aM<=t->t<h.aM->h'.bt t=h.bt t)(l:∀t,t<h.aM->L' t=L t):BV σ h' Q O L' nP nC len r s vO vP vC:=
 ⟨A,by rw[u r a.nr.1 a.nr.2];exact a.res,by rw[u s a.ns.1 a.ns.2];exact a.ob,a.pw.keepL D u l,by rw[l r a.nr.2];exact a.lr,by rw[l s a.ns.2];exact a.ls,a.ne,⟨a.nr.1,by have:=a.nr.2;omega⟩,⟨a.ns.1,by have:=a.ns.2;omega⟩⟩
def BV.fresh(a:BV σ h Q O L nP nC len r s vO vP vC)(cs:List PV)(k:Nat):BV σ (h.bf cs) Q O (nU L h.aM k) nP nC len r s vO vP vC:=a.keepL (a.cf.bf cs) (UW _) (λt _ l=>by rw[zI,DL af]) (qh (na _))
def BV.step(a:BV σ h Q O L nP nC len r s vO vP vC){G I:Nat}{u A l:PV}(J:cT σ h')(M:PW L' σ.aM h' Q O G I len u A l)(N:h.aM<=h'.aM)(D:∀t,t<h.aM->7<=L t->h'.bt t=h.bt t/\L' t=L t):BV σ (h'.set s [u,A,l]) Q O L' G I len r s u A l:=by
 have hs:=D s a.ns.2 (by rw[a.ls];exact na _);have E:=D r a.nr.2 (by rw[a.lr];exact na _);have ls:L' s=7:=by rw[hs.2];exact a.ls
 have:=a.nr.2
 have:=a.ns.2
 exact⟨J.set a.ns.1 _,by rw[zG,DL a.ne,E.1];exact a.res,by rw[zG,DK rfl],M.set7 (by rw[ls];exact na _) _,by rw[E.2];exact a.lr,ls,a.ne,⟨a.nr.1,by show r<h'.aM;omega⟩,⟨a.ns.1,by show s<h'.aM;omega⟩⟩
def BV.old(a:BV σ h Q O L nP nC len r s vO vP vC)(l:∀t,t<h.aM->7<=L t->h'.bt t=h.bt t/\L' t=L t):h'.bt s=Dc [vO,vP,vC]:=by
 rw[(l s a.ns.2 (by rw[a.ls];exact na _)).1];exact a.ob
def BV.keepK(a:BV σ h Q O L nP nC len r s vO vP vC)(G:6<=k)(D:k≠7)(J:cT σ h')(I:h.aM<=h'.aM)(u:∀t,t<h.aM->L t≠k->h'.bt t=h.bt t)(l:∀t,t<h.aM->L' t=L t):BV σ h' Q O L' nP nC len r s vO vP vC:=
 ⟨J,by rw[u r a.nr.2 (by rw[a.lr];exact Ne.symm D)];exact a.res,by rw[u s a.ns.2 (by rw[a.ls];exact Ne.symm D)];exact a.ob,a.pw.keepK G I (λt _ A E=>u t A E) λt A _=>l t A,by rw[l r a.nr.2];exact a.lr,by rw[l s a.ns.2];exact a.ls,a.ne,⟨a.nr.1,by have:=a.nr.2;omega⟩,⟨a.ns.1,by have:=a.ns.2;omega⟩⟩
def zEQ(hlen:mo vX=Dc (.int .i64 (Lu O)))(hb:(Lu O)<=1000)
  (bJ:∀{g:cg} {K':PV->cg->Prop},cT σ g->(∀cap,full 1 cap (Lu O)->K' (.sl g.aM 0 (Lu O) cap) (g.bf (cS O)))->zA Li 206 [vX] g K')
  (hk:∀L h vO vP vC,cT σ h->PW L σ.aM h (λm=>m=Lu O) O (Lu O) (Lu O) (λj=>(Lu O)-1-j) vO vP vC->K (.agg [vO,vP,vC]) h):zA Li 197 [vX] σ K:=by
 refine Lg Tryz.func197 ?_;simp only[Z3,seval,-ae,hlen];refine bJ (zC _ _) λcap V=>?_;refine Lk ?_;generalize hn:(Lu O)=n at *
 refine zF (λm vs h=>∃(i:Nat) (L:Nat->Nat) (vO vP vC:PV),i<=n/\m=n-i/\vs=[.ptr σ.aM 0,.int .i64 n,.ptr (σ.aM+2) 0,.int .i64 i]/\BV σ h (λm=>m=n) O L i i (λj=>n-1-j) σ.aM (σ.aM+2) vO vP vC) n ?_ ?_
 .refine⟨0,λt=>if t=σ.aM+1 then 5 else 7,.sl (σ.aM+1) 0 n cap,_,_,YV _,rfl,rfl,((zC _ _).bf _).bf _,by simp only[Z3,seval,-ae],by simp only[Z3,seval,-ae],⟨⟨σ.aM+1,cap,by rw[hn],by rw[hn];exact V,by simp only[Z3,seval,-ae],af,by show σ.aM+1<σ.aM+3;omega,DK rfl⟩,.inl ⟨rfl,rfl⟩,.inl ⟨rfl,rfl⟩⟩,DL af,DL af,af,⟨na _,by show σ.aM<σ.aM+3;omega⟩,⟨af,by show σ.aM+2<σ.aM+3;omega⟩⟩
 rintro m vs h ⟨i,L,vO,vP,vC,hi,rfl,rfl,a⟩
 have xf:=a.ns.2;refine Lk ?_;refine Ll (λaG=>?_) λah=>?_
 .have e:i=n:=af
  subst e;obtain⟨e1,e2,e3,e4⟩:=a.fin;simp only[Z3,seval,-ae,a.r3,e1,e2];exact hk L _ vO vP vC e3 e4
 have n1:¬σ.aM+2=h.aM:=af
 have n2:¬σ.aM+2=h.aM+1:=af
 simp only[Z3,seval,-ae,a.r1,n1,n2,zh,uK (n:=n) af,Go.Ab.tn (n:=n) af];have l:=a.fresh (cS (Ep n 0)) 1;have J:eE (nU L h.aM 1) (h.bf (cS (Ep n 0))) σ.aM (λm=>m=n) (.sl h.aM 0 n (.b6 n)):=by
  have:=eE.fresh (L:=L) (h:=h) (b:=σ.aM) (Q:=λm=>m=n) (x:=Ep n 0) (cap:=.b6 n) af aK (by simp[full])
  simpa using this
 refine PW.pushP l.pw J l.cf (na _) (by show σ.aM<=h.aM+1;omega) af λD A L1 k1 M Y o1 m1=>?_;have dr:=l.old m1;have w1:A.wr (σ.aM+2) 1 [D]=Dc (A.set (σ.aM+2) [vO,D,vC]):=by rw[zR dr,DK ⟨aK,by simp[M.hP.one]⟩];rfl
 have I:=l.step k1 M (Y8 Y) m1;simp only[Z3,seval,-ae,w1,M.hP.cells];have KY:h.aM+1<A.aM:=Y;have wi:Lp .i64 ((i:Int)+1)=((i+1:Nat):Int):=WQ
 rw[wi];generalize xm:A.set (σ.aM+2) [vO,D,vC]=g2 at *
 rw[show A.aM=g2.aM by rw[<-xm];rfl];have gF:σ.aM+2<g2.aM:=by rw[<-xm];show _<A.aM;omega
 clear dr w1 m1 o1 M k1 J l a;have a3:=I.fresh [] 6;have u:ft (nU L1 g2.aM 6) (g2.bf []) σ.aM (λm=>m=n) 6 0 (.sl g2.aM 0 0 (.b6 0)):=⟨g2.aM,.b6 0,[],rfl,.inr rfl,by rw[zI,DK rfl],rfl,af,YM _,Qf,λc V=>by cases V⟩
 refine zF (λm vs h=>∃(j:Nat) (L:Nat->Nat) (vR:PV),i+1<=j/\j<=n/\m=n-j/\vs=[.ptr σ.aM 0,.int .i64 n,.ptr (σ.aM+2) 0,.int .i64 i,vR,.int .i64 j]/\BV σ h (λm=>m=n) O L (i+1) i (λj=>n-1-j) σ.aM (σ.aM+2) vO D vC/\ft L h σ.aM (λm=>m=n) 6 (j-(i+1)) vR) (n-(i+1)) ?_ ?_
 .exact⟨i+1,_,_,na _,ah,rfl,rfl,a3,by rw[Yk];exact u⟩
 clear a3 u I xm Y KY
 rintro m vs h ⟨j,L,vR,fR,hj,rfl,rfl,a,u⟩
 have xf:=a.ns.2;have n1:¬σ.aM+2=h.aM:=af
 refine Lk ?_;refine Ll (λaG=>?_) λuL=>?_
 .have e:j=n:=af
  subst e;simp only[Z3,seval,-ae,a.r2,u.one,u.cells];refine PW.pushC (m:=j-(i+1)) a.pw u af a.cf (na _) af af λG U N X E Z o2 m2=>?_;have w2:U.wr (σ.aM+2) 2 [G]=Dc (U.set (σ.aM+2) [vO,D,G]):=by rw[zR (a.old m2),DK ⟨aK,by simp[E.hC.one]⟩];rfl
  have I:=a.step X E (Y8 Z) m2;simp only[Z3,seval,-ae,w2,E.hC.cells,wi];exact⟨_,af,i+1,N,vO,D,G,af,rfl,rfl,I⟩
 refine Lk ?_;refine zBj af uL λbn c8=>?_;have l:=a.fresh (cS (cD n j)) 1;have J:eE (nU L h.aM 1) (h.bf (cS (cD n j))) σ.aM (λm=>m=n) (.sl h.aM 0 n bn):=by
  have:=eE.fresh (L:=L) (h:=h) (b:=σ.aM) (Q:=λm=>m=n) (x:=cD n j) (cap:=bn) af (zU n j) (by rw[zU];exact c8)
  rw[zU]at this;exact this
 refine Lk ?_;refine Bs.push (k:=6) (.inr (u.cf (L':=nU L h.aM 1) (h':=h.bf (cS (cD n j))) (UW _) (λt _ ht=>by rw[zI,DL af]) (qh (na _)))) LB J l.cf (na _) (by show σ.aM<=h.aM+1;omega) af λG U N X E Z pU Ad _=>?_;have wj:Lp .i64 ((j:Int)+1)=((j+1:Nat):Int):=WQ
 simp only[Z3,seval,-ae,wj];refine⟨_,af,j+1,N,G,af,af,rfl,rfl,l.keepK (k:=6) (na _) LB X (Y8 Z) Ad pU,?_⟩;rw[show j+1-(i+1)=j-(i+1)+1 by omega];exact E
end
section
open Go.Grp
variable{b s:Nat}{L L':Nat->Nat}{Q:Nat->Prop}{len:Nat->Nat}{cs:List PV}
structure TB(b:Nat)(h:cg)(Q:Nat->Prop)(O:V1)(L:Nat->Nat)(nP nC:Nat)(len:Nat->Nat)(r s:Nat)(vO vP vC:PV):Prop where
 res:h.bt r=Dc [Ln,Ln,Ln]
 hr:r<b
 ob:h.bt s=Dc [vO,vP,vC]
 pw:PW L b h Q O nP nC len vO vP vC
 ls:L s=7
 ns:b<=s/\s<h.aM
def TB.r0(a:TB b h Q O L nP nC len r s vO vP vC):h.dR s 0=Dc vO:=by rw[zH a.ob];rfl
def TB.r1(a:TB b h Q O L nP nC len r s vO vP vC):h.dR s 1=Dc vP:=by rw[zH a.ob];rfl
def TB.r2(a:TB b h Q O L nP nC len r s vO vP vC):h.dR s 2=Dc vC:=by rw[zH a.ob];rfl
def TB.r3(a:TB b h Q O L nP nC len r s vO vP vC):h.rd s 0 3=Dc [vO,vP,vC]:=by rw[zV a.ob];rfl
def TB.fin(a:TB b h Q O L nP nC len r s vO vP vC):h.wr r 0 [vO,vP,vC]=Dc (h.set r [vO,vP,vC])/\(h.set r [vO,vP,vC]).rd r 0 3=Dc [vO,vP,vC]/\PW L b (h.set r [vO,vP,vC]) Q O nP nC len vO vP vC:=
 ⟨by rw[zR a.res,DK ⟨aK,by simp[a.pw.hO.one,a.pw.hP.one,a.pw.hC.one]⟩];rfl,by rw[zi,DK rfl];rfl,a.pw.set a.hr _⟩
def TB.start(a:PW L b h Q O nP nC len vO vP vC)(A:r<b)(l:h.bt r=Dc [Ln,Ln,Ln])(u:b<=h.aM):TB b (h.bf [vO,vP,vC]) Q O (nU L h.aM 7) nP nC len r h.aM vO vP vC:=
 ⟨by rw[zI,DL af];exact l,A,by rw[zI,DK rfl],a.fresh _ _,Qf,⟨u,YM _⟩⟩
def TB.keepL(a:TB b h Q O L nP nC len r s vO vP vC)(A:h.aM<=h'.aM)(D:h'.bt r=h.bt r)(u:∀t,b<=t->t<h.aM->h'.bt t=h.bt t)(l:∀t,t<h.aM->L' t=L t):TB b h' Q O L' nP nC len r s vO vP vC:=
 ⟨by rw[D];exact a.res,a.hr,by rw[u s a.ns.1 a.ns.2];exact a.ob,a.pw.keepL A u l,by rw[l s a.ns.2];exact a.ls,⟨a.ns.1,by have:=a.ns.2;omega⟩⟩
def TB.rlt(a:TB b h Q O L nP nC len r s vO vP vC):r<h.aM:=by have:=a.hr;have:=a.ns;omega
def TB.cf(a:TB b h Q O L nP nC len r s vO vP vC)(l:cT h h'):TB b h' Q O L nP nC len r s vO vP vC:=a.keepL l.aM (l.bt r a.rlt) (λt _ u=>l.bt t u) λ_ _=>rfl
def TB.bf(a:TB b h Q O L nP nC len r s vO vP vC)(xs:List PV):TB b (h.bf xs) Q O L nP nC len r s vO vP vC:=a.cf (zC h xs)
def TB.fresh(a:TB b h Q O L nP nC len r s vO vP vC)(cs:List PV)(k:Nat):TB b (h.bf cs) Q O (nU L h.aM k) nP nC len r s vO vP vC:=
 a.keepL (UW _) (by rw[zI,DL (by have:=a.rlt;omega)]) (λt _ l=>by rw[zI,DL af]) (qh (na _))
def TB.mv(a:TB b h Q O L nP nC len r s vO vP vC)(hs:s0<b)(l:s0≠r)(m:Mv h s0 h'):TB b h' Q O L nP nC len r s vO vP vC:=
 a.keepL (by rw[m.aM];exact na _) (m.bt (Ne.symm l)) (λt u _=>m.bt af) λ_ _=>rfl
def TB.wrote(a:TB b h Q O L nP nC len r s vO vP vC)(u:b<=t)(l:L t≠7){cs:List PV}(p:PW L b (h.set t cs) Q O nP nC len vO vP vC):TB b (h.set t cs) Q O L nP nC len r s vO vP vC:=
 ⟨by rw[zG,DL (by have:=a.hr;omega)];exact a.res,a.hr,by rw[zG,DL (λe=>l (by rw[<-e];exact a.ls))];exact a.ob,p,a.ls,a.ns⟩
def TB.putP(a:TB b h Q O L nP nC len r s vO vP vC)(J:i<nP)(G:eE L h b Q c):
  ∃sP cap l,vP=.sl sP 0 nP cap/\b<=sP/\sP<h.aM/\h.wr sP i [c]=Dc (h.set sP l)/\TB b (h.set sP l) Q O L nP nC len r s vO vP vC:=by
 obtain⟨sP,cap,cs,e,A,I,D,u,E,_⟩:=a.pw.powers af;obtain⟨w,p⟩:=a.pw.putRow (i:=i) A af (.inl D) G;exact⟨sP,cap,_,e,u,E,w,a.wrote u af p⟩
def TB.putC(a:TB b h Q O L nP nC len r s vO vP vC)(U:i<nC)(X:j<len i)(N:eE L h b Q c):
  ∃sC cap t l u,vC=.sl sC 0 nC cap/\h.dR sC i=Dc (.sl t 0 (len i) l)/\b<=sC/\sC<h.aM/\b<=t/\t<h.aM/\h.wr t j [c]=Dc (h.set t u)/\TB b (h.set t u) Q O L nP nC len r s vO vP vC:=by
 obtain⟨sC,cap,t,l,e,D,E,G,cs,I,V,J,A,M,_⟩:=a.pw.mT U;obtain⟨w,p⟩:=a.pw.putRow (i:=j) I af (.inr J) N;exact⟨sC,cap,t,l,_,e,D,E,G,A,M,w,a.wrote A af p⟩
def TB.setP(a:TB b h Q O L nP nC len r s vO vP vC)(hi:i<nP)(V:∀m,Q m->j<m):
  ∃sP cap t m l,vP=.sl sP 0 nP cap/\h.dR sP i=Dc (.sl t 0 m l)/\Q m/\b<=sP/\sP<h.aM/\b<=t/\t<h.aM/\∀y,∃u,h.wr t j [.int .i64 y]=Dc (h.set t u)/\TB b (h.set t u) Q O L nP nC len r s vO vP vC:=by
 obtain⟨sP,cap,cs,e,J,Y,Z,M,N,U⟩:=a.pw.powers af;obtain⟨x,q,t,l,D,X,E,A,G,I⟩:=U _ (YZ (af:i<Lu cs));refine⟨sP,cap,t,(Lu x),l,e,by rw[zH J,YQ af,D],q,M,N,A,G,λy=>?_⟩;obtain⟨w,p⟩:=a.pw.setRow (y:=y) E (V _ q) I;exact⟨_,w,a.wrote A af p⟩
def TB.setC(a:TB b h Q O L nP nC len r s vO vP vC){l:Nat}(hi:i<nC)(hl:l<len i)(hj:∀m,Q m->j<m):
  ∃sC cap u D t m A,vC=.sl sC 0 nC cap/\h.dR sC i=Dc (.sl u 0 (len i) D)/\h.dR u l=Dc (.sl t 0 m A)/\Q m/\b<=sC/\sC<h.aM/\b<=u/\u<h.aM/\b<=t/\t<h.aM/\∀y,∃E,h.wr t j [.int .i64 y]=Dc (h.set t E)/\TB b (h.set t E) Q O L nP nC len r s vO vP vC:=by
 obtain⟨sC,cap,u,D,e,U,V,X,cs,Y,h5,h6,Z,h8,h9⟩:=a.pw.mT hi;obtain⟨x,q,t,A,I,g1,J,G,M,N⟩:=h9 _ (YZ (af:l<Lu cs));refine⟨sC,cap,u,D,t,(Lu x),A,e,U,by rw[zH Y,YQ af,I],q,V,X,Z,h8,G,M,λy=>?_⟩;obtain⟨w,p⟩:=a.pw.setRow (y:=y) J (hj _ q) N;exact⟨_,w,a.wrote G af p⟩
def rX.rd(a:rX L h b k x v)(u:i<Lu x):∃s cap,v=.sl s 0 (Lu x) cap/\h.dR s i=Dc (.int .i64 (at_ x i))/\b<=s/\s<h.aM/\h.bt s=Dc (cS x):=by
 obtain⟨s,cap,e,E,l,A,D,G⟩:=a;exact⟨s,cap,e,by rw[zH l,zN,gi u,dp u];rfl,A,D,l⟩
def PW.finKM(a:PW L b h Q O nP nC len vO vP vC)(km:KM σ s0 h)(U:So h s0 vS bs)(G:s0<σ.aM)(J:σ.aM<=b)
  (k:∀u A l P C σ',dU u A l O P C->Cw Q P C nP nC len->Mv σ s0 σ'->So σ' s0 vS bs->K (.agg [u,A,l]) σ'):Gh σ K (.agg [vO,vP,vC]) h:=
 Gh.km km U G λσ' D E N=>a.fin N (by rw[D.aM];exact J) λu A l P C I M=>k u A l P C σ' I M D E
def zDv(u:FI vX O)(A:(Lu O)<=1000)(D:∀L h vO vP vC,cT σ h->PW L σ.aM h (λm=>m=Lu O) O (Lu O) (Lu O) (λj=>(Lu O)-1-j) vO vP vC->K (.agg [vO,vP,vC]) h):zA Li 197 [vX] σ K:=by
 obtain⟨w,a,rfl⟩:=u;exact zEQ rfl A (λ_ l=>qw rfl af l) D
def ZU{cap:jZ}(E:σ.bt s=Dc (cS O))(hs:s<σ.aM)(A:(Lu O)<=1000)(D:∀L h vO vP vC,cT σ h->PW L σ.aM h (λm=>m=Lu O) O (Lu O) (Lu O) (λj=>(Lu O)-1-j) vO vP vC->K (.agg [vO,vP,vC]) h):zA Li 197 [.sl s 0 (Lu O) cap] σ K:=
 zEQ rfl A (λl u=>zDC (by rw[l.bt s hs];exact E) (by have:=l.aM;omega) af u) D
def zER{cap:jZ}(I:σ.bt s=Dc (cS O))(hs:s<σ.aM)(E:(Lu O)<=1000)(G:∀u A l P C,dU u A l O P C->Cw (λm=>m=Lu O) P C (Lu O) (Lu O) (λj=>(Lu O)-1-j)->K (.agg [u,A,l]) σ):zA Li 197 [.sl s 0 (Lu O) cap] σ K:=
 zA.gh (ZU I hs E λL h vO vP vC M a=>a.fin M (na _) λu A l P C D J=>G u A l P C D J)
end
end Go.Proofs
