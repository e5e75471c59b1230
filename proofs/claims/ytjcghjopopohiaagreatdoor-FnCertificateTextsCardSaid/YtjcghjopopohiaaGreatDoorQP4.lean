/- . -/
import Derived.Test.YtjcghjopopohiaaGreatDoorQP3
import Derived.Test.YtjcghjopopohiaaGreatDoorQAbPh
import Derived.Test.YtjcghjopopohiaaGreatDoorRows
import Derived.Lib.SmallJoins
import Derived.WalkKit
import Derived.ProofKit
set_option linter.all false
set_option linter.defProp false
open Go.IntKind renaming wrap->Tu
open List renaming length->Tw
open Go.Proofs.Tryz renaming prog->Tp
open Bool renaming true->Im
open Int renaming mul_le_mul->Oq,pow_succ->S1
open List renaming drop_eq_getElem_cons->Pa,drop_take->Jc,drop_zero->J0,getElem?_cons_zero->Og,getElem?_replicate->RR,getElem?_take_of_lt->R9,length_nil->Ov,mem_append_left->Ni,nodup_append->LD,pairwise_cons->Sp,pairwise_map->N0,range->Iw,range_succ->Om,replicate->Jf,replicate_succ'->Oj,replicate_zero->RP
open Nat renaming add_mul->La,lt_succ_of_lt->Lk,lt_trichotomy->Je,min_eq_left->Oh,mul_one->KE,pow_le_pow_right->O9,pow_lt_pow_right->Pk,testBit_one_eq_true_iff_self_eq_zero->Px
open Option renaming getD_some->NP,map_some->Kc,some->Ik
open True renaming intro->Is
open Int renaming reduceNatCast'->ae
set_option maxRecDepth 100000
namespace Go.Grp
open Go.Ab Go.Lie
variable{d i t:Nat}{O a b c x y z:V1}{P:V2}{C:V3}
abbrev gS(O:V1):V1->Prop:=TT O 0
abbrev gm(O:V1)(P:V2)(C:V3):V1->V1->V1:=mu O P C (Tw O)
def Full.g(F:Full O P C (Tw O)):Gp (gS O) (gm O P C) (zv O):=by
 have:=F.gp
 rwa[Yh]at this
noncomputable abbrev yH (O:V1) (P:V2) (C:V3) (x y:V1):V1:=com (gS O) (gm O P C) (zv O) x y
def G4(O:V1)(C:V3):Prop:=True
def Hk(o a b:Int):Int:=if a+b ≥ o then a+b-o else a+b
def zOY(o a b:Int):Hk o a b=Hk o b a:=by unfold Hk;rw[Uf]
def zA7{o a b:Int}(E:0<=a/\a<o)(I:0<=b/\b<o)(h:Hk o a b=a):b=0:=by
 unfold Hk at h;split at h<;>omega
def Upto(O:V1)(t:Nat)(x y:V1):Prop:=∀j,j<t->at_ x j=at_ y j
def zQ3(s:kC O P C)(V:d+1<=Tw O)(J:i=Tw O-(d+1))(E:at_ b i=0)(I:TT O i a)(U:TT O i b):mu O P C (d+1) a b=(mu O P C d (a.set i 0) (b.set i 0)).set i (at_ a i):=by
 have R:=I.bd i aH;subst J;simp only[mu];rw[E,Iv aH,show nx b (Tw O-(d+1))=0 by show(at_ b _).toNat=0;rw[E];rfl,US];rfl
def qd(s:kC O P C):∀{d:Nat} {b:V1},d<=Tw O->(Tw O)-d<=t->t<Tw O->TT O (Tw O-d) b->TT O t a->Upto O t (mu O P C d b a) b/\at_ (mu O P C d b a) t=Hk (at_ O t) (at_ b t) (at_ a t)
 |0,b,hd,R,I,hb,ha=>by omega
 |d+1,b,hd,R,I,hb,ha=>by
  have E:(Tw O)-(d+1)<Tw O:=aH
  have e:(Tw O)-d=Tw O-(d+1)+1:=aH
  have V:=s.pos E;have W:(Tw O)-(d+1)<Tw b:=by rw[hb.len];exact E
  have J:=hb.set0 E V;rw[<-e]at J;by_cases ht:(Tw O)-(d+1)=t
  .have hr:=Bc s hd hb (ha.mono aH:TT O (Tw O-(d+1)) a);refine⟨λj X=>by rw[hr.zero j aH,hb.zero j aH],?_⟩;have U:∀a b,TT O (Tw O-d) a->TT O (Tw O-d) b->TT O (Tw O-d) (mu O P C d a b):=λa b R I=>Bc s aH R I;have has:=(ha.mono aH:TT O (Tw O-(d+1)) a).set0 E V;rw[<-e]at has;have Y:=U _ _ (zDn (λx _=>by rw[e];exact zAz s (by rw[<-e];exact U) x) (nx a (Tw O-(d+1))) J) has;have hw:TT O (Tw O-d) (jt P (Tw O-(d+1))):=by rw[e];exact s.pw _ E
   have DT:=U _ _ hw Y;rw[<-ht];simp only[mu,Hk];split
   .rw[ri (by rw[DT.len];exact E),Iu rfl]
   .rw[ri (by rw[Y.len];exact E),Iu rfl]
  .have C9:at_ a (Tw O-(d+1))=0:=ha.zero _ aH;rw[zQ3 s hd rfl C9 hb (ha.mono aH),zw C9 (by rw[ha.len];exact E)];obtain⟨i1,i2⟩:=qd s (d:=d) aH aH I J ha;have Z:=(Bc s (aH:d<=Tw O) J (ha.mono aH:TT O (Tw O-d) a)).len;refine⟨λj X=>?_,?_⟩
   .rw[ri (by rw[Z];exact E)];split
    .rename_i h;rw[h]
    .rename_i h;rw[i1 j X,ri W,Iv h]
   .rw[ri (by rw[Z];exact E),Iv aH,i2,ri W,Iv aH]
section
variable{g:V1}
section
variable(s:kC O P C)(F:Full O P C (Tw O))(hC:G4 O C)
include s F hC
theorem behind(J:gS O z)(E:gS O c)(h:Upto O t (gm O P C z c) z)(W:t<=Tw O):TT O t c:=by
 have:∀k,k<=t->TT O k c:=by
  intro k
  induction k with
  |zero=>intro _;exact E
  |succ k ih=>
   intro V;have I:=ih aH;obtain⟨r1,r2⟩:=qd s (d:=(Tw O)) (t:=k) (a:=c) (b:=z) (sB _) aH aH (by rw[Yh];exact J) I;have e:=h k aH;show TT O (k+1) c;have R:Hk (at_ O k) (at_ z k) (at_ c k)=at_ z k:=by rw[<-r2];exact e
   have:=zA7 (J.bd k aH) (E.bd k aH) R
   refine⟨E.len,E.bd,λj U=>?_⟩;by_cases g:j=k
   .subst g;exact this
   .exact I.zero j aH
 exact this t (sB _)
theorem tt_cl(W:t<=Tw O)(E:TT O t x)(I:TT O t y):TT O t (gm O P C x y):=by
 have G:=F.g;have J:=G.cl (E.mono (YQ _)) (I.mono (YQ _));rcases YY t (Tw O) with h|h
 .obtain⟨r1,_⟩:=qd s (d:=(Tw O)) (t:=t) (a:=y) (b:=x) (sB _) aH h (by rw[Yh];exact E.mono (YQ _)) I;exact⟨J.len,J.bd,λj R=>(r1 j R).trans (E.zero j R)⟩
 .have cQ:x=zv O:=E.ext (s.zv _) λj U V=>by omega
  rw[cQ,G.l1 (I.mono (YQ _))];exact I
theorem zHV(R:t<=Tw O)(I:TT O t x):TT O t (mE (gS O) (gm O P C) (zv O) x):=by
 have G:=F.g;have E:gS O x:=I.mono (YQ _);obtain⟨U,V⟩:=G.inv_in E;refine behind s F hC E U (λj J=>?_) R;rw[show gm O P C x (mE (gS O) (gm O P C) (zv O) x)=zv O from V,I.zero j J];exact ZV _ j
theorem zRd(R:t<Tw O)(U:TT O (t+1) x)(E:TT O t b):TT O (t+1) (cnj (gS O) (gm O P C) (zv O) x b):=by
 have G:=F.g;have I:gS O x:=U.mono (YQ _);have J:gS O b:=E.mono (YQ _);refine behind s F hC J (G.cnj_in I J) (λj V=>?_) R;have e:gm O P C b (cnj (gS O) (gm O P C) (zv O) x b)=gm O P C x b:=G.cnj_spec I J;rw[e];obtain⟨r1,r2⟩:=qd s (d:=(Tw O)) (t:=t) (a:=b) (b:=x) (sB _) aH R (by rw[Yh];exact I) E;by_cases g:j=t
 .subst g;refine r2.trans ?_;have W:=E.bd j R;rw[U.zero j (YB _)];unfold Hk;rw[Iv aH,Uu]
 .exact(r1 j aH).trans ((U.zero j V).trans (E.zero j aH).symm)
theorem zRc(J:t<Tw O)(R:TT O (t+1) x)(U:TT O t b):TT O (t+1) (yH O P C x b):=by
 have G:=F.g;have E:gS O x:=R.mono (YQ _);have I:gS O b:=U.mono (YQ _);have V:=tt_cl s F hC (t:=t+1) J (zHV s F hC J R) (zRd s F hC J R U);have e:yH O P C x b=gm O P C (mE (gS O) (gm O P C) (zv O) x) (cnj (gS O) (gm O P C) (zv O) x b):=by
  refine G.cancel E (G.com_in E I) (G.cl (G.inv_in E).1 (G.cnj_in E I)) ?_;rw[show gm O P C x (yH O P C x b)=cnj (gS O) (gm O P C) (zv O) x b from G.cnj_com E I,<-G.as E (G.inv_in E).1 (G.cnj_in E I),(G.inv_in E).2,G.l1 (G.cnj_in E I)]
 rw[e];exact V
end
end
def qj(O:V1):V2:=(Iw (Tw O)).map (unit O)
end Go.Grp
namespace Go.Proofs
open Go.Ab Go.Lie Go.Grp
variable{rC rP:List PV}{d j:Nat}{σ:dj}{vC vO vP va vb vx vy:PV}{K:PV->dj->Prop}{O a b x y:V1}{P:V2}{C:V3}
def zQS{i:Nat}(E:i<Tw x):(x.set i 0).set i (at_ x i)=x:=zMo E
def zIg(s:kC O P C){d i:Nat}(hi:(Tw O)=(d+1)+i)(F:Full O P C d)(F1:Full O P C (d+1)){V Z:V1}(hx:TT O i x)(h1:TT O (i+1) V)(h2:TT O (i+1) Z)(e1:mu O P C d (x.set i 0) V=zv O)(e2:mu O P C d (jt P i) Z=zv O):
  (at_ x i=0->mu O P C (d+1) x V=zv O)/\(at_ x i≠0->mu O P C (d+1) x (mu O P C (d+1) (mu O P C (d+1) V ((zv O).set i (at_ O i-at_ x i))) Z)=zv O):=by
 have I:i<Tw O:=aH
 have J:(Tw O)-d=i+1:=aH
 have dW:(Tw O)-(d+1)=i:=aH
 have aM:=s.pos I;have bx:=hx.bd i I;have xl:i<Tw x:=by rw[hx.len];exact I
 have M:=F.gp.toMon;have E:=F1.gp;rw[dW]at E;have R:TT O (Tw O-d) (x.set i 0):=by rw[J];exact hx.set0 I aM
 have mI:TT O (Tw O-d) V:=by rw[J];exact h1
 have iC:TT O (Tw O-d) Z:=by rw[J];exact h2
 have X:TT O (Tw O-d) (zv O):=s.zv _;have W:TT O (Tw O-d) (jt P i):=by rw[J];exact s.pw i I
 have sub:∀{u v:V1},TT O (Tw O-d) u->TT O (Tw O-d) v->mu O P C (d+1) u v=mu O P C d u v:=λhu hv=>zKe s aH hu hv;constructor
 .intro h0;rw[zw h0 xl]at e1 R;rw[sub R mI];exact e1
 .intro h0;have z0:(zv O).set i 0=zv O:=zw (ZV _ i) (by simp;exact I);have ia:∀k,iter (al O P C d i) k (zv O)=zv O:=λk=>zDE (al_zv s F.toBeh J) k;have hg:TT O i ((zv O).set i (at_ x i)):=(s.zv i).set I (sB _) bx;have U:TT O i ((zv O).set i (at_ O i-at_ x i)):=(s.zv i).set I (sB _) ⟨aH,aH⟩;have dR:i<(x.set i 0).length:=by rw[Yx];exact xl
  have r0:(x.set i 0).set i 0=x.set i 0:=by rw[List.set_set]
  have up:∀{u:V1},TT O (Tw O-d) u->TT O i u:=λh=>h.mono aH;have ex:mu O P C (d+1) ((zv O).set i (at_ x i)) (x.set i 0)=x:=by
   have:=zDk s F.toBeh J (a:=at_ x i) (b:=0) X R
   rw[r0,Iv aH,ia,M.l1 R,US,zQS xl]at this;exact this
  have et:mu O P C (d+1) ((zv O).set i (at_ x i)) ((zv O).set i (at_ O i-at_ x i))=jt P i:=by
   have:=zDk s F.toBeh J (a:=at_ x i) (b:=at_ O i-at_ x i) X X
   rw[Iu aH,ia,M.l1 X,M.r1 W,show at_ x i+(at_ O i-at_ x i)-at_ O i=0 by omega,zw (W.zero i aH) (by rw[W.len];exact I)]at this;exact this
  have key:∀Y,mu O P C (d+1) x Y=mu O P C (d+1) (mu O P C (d+1) ((zv O).set i (at_ x i)) (x.set i 0)) Y:=λY=>by rw[ex]
  rw[key];have k1:=up mI;have k2:=up iC;have kr:=up R;rw[E.as hg kr (E.cl (E.cl k1 U) k2),<-E.as kr (E.cl k1 U) k2,<-E.as kr k1 U,sub R mI,e1,E.l1 U,<-E.as hg U k2,et,sub W iC,e2]
def zOb(O:V1)(P:V2)(C:V3)(d i:Nat):Prop:=
 ∀(σ:dj) (K:PV->dj->Prop) (x:V1) (vx vO vP vC:PV),eQ vO vP vC O P C->TT O i x->FI vx x->(∀v y,FI v y->TT O i y->mu O P C d x y=zv O->K v σ)->zA Tp 170 [.agg [vO,vP,vC],.int .i64 i,vx] σ K
def zFZ(s:kC O P C)(hc:Cons O P C):∀{d i:Nat},(Tw O)=d+i->zOb O P C d i
 |0,i,hi=>by
  intro σ K x vx vO vP vC hR hx bX hk;have bB:=s.le;obtain⟨⟨w0,a0,rfl⟩,⟨w1,a1,rP,rfl,hP⟩,⟨w3,a3,rC,rfl,hC⟩⟩:=hR;refine zA.gh ?_;have Z:(Tw O:Int)<=(i:Int):=aH
  refine Tn Tryz.func170 ?_;simp only[Z3,seval,-ae,Z,YT,zi,E4 (n:=(Tw O)) aH,zx (n:=(Tw O)) aH];exact Gh.finF (s:=σ.bY+1) ((zB σ _).cb _) (by simp only[Z3,seval,-ae]) aH (zO _ _) (by simp[kv]) λo1=>hk _ (zv O) (FI.mk bj) (s.zv _) rfl
 |d+1,i,hi=>by
  intro σ K x vx vO vP vC hR hx bX hk;have W:zOb O P C d (i+1):=zFZ s hc aH;have F:Full O P C d:=BZ s aH λj h1 h2=>hc j h2;have X:Full O P C (d+1):=BZ s aH λj h1 h2=>hc j h2;have fA:AtOK O P C (d+1) i:=Z8 s aH;have bB:=s.le;have I:=hR;have E:i<Tw O:=aH
  have hO:=s.pr i E;have aM:=s.pos E;have du:=hx.len;have bx:=hx.bd i E;have dW:(Tw O)-(d+1)=i:=aH
  have Y:=X.gp;rw[dW]at Y;obtain⟨⟨w0,a0,rfl⟩,⟨w1,a1,rP,rfl,hP⟩,⟨w3,a3,rC,rfl,hC⟩⟩:=hR;obtain⟨w5,a5,dH⟩:=pvRow s hP E;have dC:i<Tw P:=by rw[s.pl];exact E
  have fh:=s.pw i E;obtain⟨wx,ax,rfl⟩:=bX;have J:i<Tw x:=aH
  have Z:¬(Tw O:Int)<=(i:Int):=aH
  have sx:=hx.set0 E aM;have R:Tu .i64 ((i:Int)+1)=((i+1:Nat):Int):=lG E aH;have rh:i+1<=Tw x:=J;refine To Tryz.func170 ?_;simp only[Z3,seval,-ae,Z];refine zl rfl aH λcA iB=>?_;simp only[Z3,seval,-ae,J,rh,zK,zq J,R];refine zA.frz (s:=σ.bY+1) (cs:=eh (x.set i 0)) (by simp only[Z3,seval,-ae]) (zO _ _) λo1=>?_;have yZ:=iB.ok;simp only[nD,sb,yZ,and_self,if_true,I.O.sb,I.P.sb,I.C.sb];refine W _ _ (x.set i 0) _ _ _ _ I sx (FI.mk bj) λv1 y1 U V e1=>?_;have aJ:dq σ (((σ.cb [.fz w0 a0 (Tw O) (eh O),.fz w1 a1 (Tw P) rP,.fz w3 a3 (Tw C) rC]).cb (eh (x.set i 0))).kill (σ.bY+1)):=((zB σ _).cb _).kill aH;simp only[Z3,seval,-ae,J,lK J];refine fi (λh0=>?_) λh0=>?_
  .have hr:=W
   -- xr DU of xr Bt is not asked for; any Lk do
   obtain⟨y2,KK,Pb,_⟩:=F.gp.inv (a:=jt P i) (by rw[show (Tw O)-d=i+1 by omega];exact fh);rw[show (Tw O)-d=i+1 by omega]at KK
   have:=(zIg s aH F X hx V KK e1 Pb).1 h0
   exact Gh.fin0 aJ (U.bel _) (hk v1 y1 U (V.mono aH) this)
  have ki:i<(zv O).length:=by simp;exact E
  have yw:i+1<=Tw O:=E;have bV:Tu .i64 (at_ O i-at_ x i)=at_ O i-at_ x i:=WE;have iT:=zq ki (x:=at_ O i-at_ x i);have ht:TT O i ((zv O).set i (at_ O i-at_ x i)):=(s.zv i).set E (sB _) ⟨aH,aH⟩;simp only[Z3,seval,-ae,YT,zi,E4 (n:=(Tw O)) aH,zx (n:=(Tw O)) aH,J,lK J,E,yw,lK E,bV,zK,iT,R,dC,dH];refine zA.frz (s:=σ.bY+2) (cs:=eh ((zv O).set i (at_ O i-at_ x i))) (by simp only[Z3,seval,-ae]) (zO _ _) λo2=>?_;simp only[nD,sb,kv,sB,decide_true,and_self,if_true,I.O.sb,I.P.sb,I.C.sb,U.sb];have pd:TT O i y1:=V.mono aH;refine fA I pd ht U (FI.mk bj) λv3 jl=>?_;simp only[Z3,seval,-ae,R,dC,dH];refine W _ _ (jt P i) _ _ _ _ I fh (FI.mk fh.len) λv2 y2 dx u6 e2=>?_;have o9:TT O i y2:=u6.mono aH;have Dq:=Y.cl pd ht;simp only[Z3,seval,-ae,R,dC,dH];refine fA I Dq o9 jl dx λv4 yc=>?_;simp only[Z3,seval,-ae]
  have:=(zIg s aH F X hx V u6 e1 e2).2 h0
  exact Gh.fin0 (((((zB σ _).cb _).kill aH).cb _).kill aH) (yc.bel _) (hk v4 _ yc (Y.cl Dq o9) this)
def zBM(s:kC O P C)(I:Cons O P C)(E:eQ vO vP vC O P C)(U:gS O x)(V:FI vx x)(J:∀v,FI v (mE (gS O) (gm O P C) (zv O) x)->K v σ):zA Tp 129 [.agg [vO,vP,vC],vx] σ K:=by
 have W:=E.O.one;have X:=E.P.one;have Y:=E.C.one;have G:=(BZ s (sB _) λj _ h=>I j h).g;refine To Tryz.func129 ?_;simp only[Z3,seval,-ae,W,X,Y];refine zFZ s I (d:=(Tw O)) (i:=0) aH _ _ x _ _ _ _ E U V λv y R Z e=>?_;simp only[Z3,seval,-ae]
 have:=G.inv_eq U Z e
 rw[<-this]at J;exact Gh.fin0 (zB σ _) (R.bel _) (J v R)
def zV(s:kC O P C)(E:eQ vO vP vC O P C)(W:gS O a)(X:gS O b)(J:FI va a)(Z:FI vb b)(Y:∀v,FI v (gm O P C a b)->K v σ):zA Tp 69 [.agg [vO,vP,vC],va,vb] σ K:=by
 have R:=E.O.one;have U:=E.P.one;have V:=E.C.one;refine To Tryz.func69 ?_;simp only[Z3,seval,-ae,R,U,V];refine Z8 s (d:=(Tw O)) (i:=0) aH E W X J Z λv I=>?_;refine Tq ?_;exact Gh.fin0 (zB σ _) (I.bel _) (Y v I)
def zL5(s:kC O P C)(hc:Cons O P C)(E:eQ vO vP vC O P C)(I:gS O x)(J:gS O y)(bX:FI vx x)(jB:FI vy y)(hk:∀v,FI v (yH O P C x y)->K v σ):zA Tp 121 [.agg [vO,vP,vC],vx,vy] σ K:=by
 have U:=E.O.one;have V:=E.P.one;have W:=E.C.one;have G:=(BZ s (sB _) λj _ h=>hc j h).g;have R:=G.cl J I;have X:=G.cl I J;have Z:=(G.inv_in R).1;refine To Tryz.func121 ?_;simp only[Z3,seval,-ae,U,V,W];refine zV s E J I jB bX λv1 f1=>?_;simp only[Z3,seval,-ae,U,V,W];refine zBM s hc E R f1 λv2 f2=>?_;simp only[Z3,seval,-ae,U,V,W];refine zV s E I J bX jB λv3 f3=>?_;simp only[Z3,seval,-ae,U,V,W];refine zV s E Z X f2 f3 λv4 Y=>?_;refine Tq ?_;have e:gm O P C (mE (gS O) (gm O P C) (zv O) (gm O P C y x)) (gm O P C x y)=yH O P C x y:=
  G.com_eq I J (G.cl Z X) (by rw[<-G.as R Z X,G.inv_r R,G.l1 X])
 rw[e]at Y;exact Gh.fin0 (zB σ _) (Y.bel _) (hk v4 Y)
end Go.Proofs
namespace Go.Lie
open Go.Ab
def fR:V1->Nat
 |[]=>0
 |x::xs=>if x=0 then fR xs+1 else 0
def zDP:∀v:V1,fR v<=Tw v
 |[]=>sB _
 |x::xs=>by simp only[fR,YF];have:=zDP xs;split<;>omega
def qW:∀{v:V1} {j:Nat},j<fR v->at_ v j=0
 |[],j,h=>by simp[at_]
 |x::xs,j,h=>by
  simp only[fR]at h;split at h
  .rename_i E;cases j with
   |zero=>simp[at_,E]
   |succ j=>
    have:=qW (v:=xs) (j:=j) aH
    simpa [at_]using this
  .omega
def QA:∀{v:V1},fR v<Tw v->at_ v (fR v)≠0
 |[],h=>by simp at h
 |x::xs,h=>by
  simp only[fR,YF]at h ⊢;split at h
  .rename_i E;rw[Iu E]
   have:=QA (v:=xs) aH
   simpa [at_]using this
  .rename_i E;rw[Iv E];simpa [at_]using E
def zFs{v:V1}{d:Nat}(I:∀j,j<d->at_ v j=0)(E:at_ v d≠0):fR v=d:=by
 rcases Je (fR v) d with x|x|x
 .have hd:d<Tw v:=by
   rcases YY d (Tw v) with y|y
   .exact y
   .exact absurd (Hm y) E
  exact absurd (I _ x) (QA aH)
 .exact x
 .exact absurd (qW x) E
def AX{v:V1}{d:Nat}(I:d<=Tw v)(E:∀j,j<d->at_ v j=0):d<=fR v:=by
 rcases YY (fR v) d with x|x
 .exact absurd (E _ x) (QA aH)
 .exact x
end Go.Lie
namespace Go.Grp
open Go.Ab Go.Lie
variable{d k t:Nat}{O a b x y:V1}{P:V2}{C:V3}
section
variable{D:List (Option V1)}{N:V1->Prop}
def ZX(E:gS O x):TT O (fR x) x:=⟨E.len,E.bd,λj I=>qW I⟩
def AX(E:TT O t x)(I:t<=Tw O):t<=fR x:=by
 rcases YY (fR x) t with h|h
 .have hl:=E.len;exact absurd (E.zero _ h) (QA aH)
 .exact h
def Zb(E:gS O x)(h:(Tw O)<=fR x):x=zv O:=by
 refine zIs (by rw[E.len];simp) λj I=>?_;rw[ZV];exact qW (by have:=E.len;omega)
def zCj(s:kC O P C):fR (zv O)=Tw O:=by
 have I:=AX (t:=(Tw O)) (s.zv _) (sB _);have E:=zDP (zv O);rw[(s.zv 0).len]at E;omega
def zCS{o a b:Int}(E:0<=a/\a<o)(I:0<=b/\b<o):Hk o a b=(a+b) % o:=by
 unfold Hk;split
 .have:(a+b) % o=(a+b-o) % o:=by rw[Int.sub_emod_right]
  rw[this,Y5 aH aH]
 .rw[Y5 aH aH]
section
variable(s:kC O P C)(F:Full O P C (Tw O))(hC:G4 O C)
include s F hC
theorem QG(E:t<Tw O)(I:TT O t x):∀k:Nat,TT O t (pw (gm O P C) (zv O) x k)/\at_ (pw (gm O P C) (zv O) x k) t=((k:Int)*at_ x t) % at_ O t
 |0=>⟨s.zv _,by show at_ (zv O) t=_;rw[ZV];simp⟩
 |k+1=>by
  obtain⟨J,U⟩:=QG E I k;have V:=s.pr t E;obtain⟨_,R⟩:=qd s (d:=(Tw O)) (b:=pw (gm O P C) (zv O) x k) (a:=x) (t:=t) (sB _) aH E (by rw[Yh];exact J.mono (YQ _)) I;refine⟨tt_cl s F hC (Ye E) J I,?_⟩;show at_ (mu O P C (Tw O) (pw (gm O P C) (zv O) x k) x) t=_;rw[R,zCS (J.bd t E) (I.bd t E),U,Int.emod_add_emod];congr 1;grind
end
structure FJ(O:V1)(D:List (Option V1)):Prop where
 len:(Tw D)=Tw O
 row:∀(d:Nat) (y:V1),D[d]? = Ik (Ik y)->TT O d y/\at_ y d=1
def InD(N:V1->Prop)(D:List (Option V1)):Prop:=∀(d:Nat) (y:V1),D[d]? = Ik (Ik y)->N y
def free:List (Option V1)->Nat
 |[]=>0
 |none::D=>free D+1
 |some _::D=>free D
def zAi:∀D,free D<=Tw D
 |[]=>sB _
 |none::D=>by have:=zAi D;simp only[free,YF];omega
 |some _::D=>by have:=zAi D;simp only[free,YF];omega
def zEo{y:V1}:∀{D:List (Option V1)} {d:Nat},D[d]? = Ik none->free (D.set d (Ik y))+1=free D
 |[],d,h=>by simp at h
 |v::D,0,h=>by
  simp only[Og,YR]at h;subst h;rfl
 |v::D,d+1,h=>by
  have:=zEo (y:=y) (D:=D) (d:=d) (by simpa using h)
  cases v<;>simp only[List.set_cons_succ,free]<;>omega
def FJ.put(h:FJ O D)(U:d<Tw O)(R:TT O d y)(I:at_ y d=1):FJ O (D.set d (Ik y)):=by
 refine⟨by rw[Yx];exact h.len,λe v E=>?_⟩;rw[Yu]at E;split at E
 .rename_i J;subst J;split at E
  .cases E;exact⟨R,I⟩
  .cases E
 .exact h.row e v E
def InD.put(I:D[d]? = Ik none):InD N (D.set d (Ik y))↔InD N D/\N y:=by
  have V:d<Tw D:=by
    rcases YY d (Tw D) with h|h
    .exact h
    .rw[YN h]at I;cases I
  constructor
  . intro h
    refine⟨λe v E=>h e v ?_,h d y ?_⟩
    .rw[Yu,Iv λJ=>by subst J;rw[I]at E;cases E];exact E
    .rw[Yu,Iu rfl,Iu V]
  . rintro⟨U,R⟩ e v E
    rw[Yu]at E;split at E
    . rename_i J;subst J
      first
      |(cases E;exact R)
      | (split at E
         .cases E;exact R
         .cases E)
    .exact U e v E
def FJ.start(n:Nat)(E:n=Tw O):FJ O (Jf n none):=⟨by simp[E],λd y h=>by
 rw[RR]at h;split at h<;>cases h⟩
def InD.start(n:Nat):InD N (Jf n none):=λd y h=>by
 rw[RR]at h;split at h<;>cases h
end
end Go.Grp
namespace Go.Proofs
open Go.Ab Go.Lie Go.Grp
variable{d i t:Nat}{h h' σ:dj}{vC vO vP vx vy:PV}{K:PV->dj->Prop}{O a b x y z:V1}{P:V2}{C:V3}
def Mul(O:V1)(k:Int)(x y:V1):Prop:=∀t,t<Tw O->TT O t x->TT O t y/\at_ y t=(k*at_ x t) % at_ O t
def vr(s:kC O P C)(E:gS O a)(I:gS O b):gS O (gm O P C a b):=by
 have:=Bc s (d:=(Tw O)) (a:=a) (b:=b) (sB _) (by rw[Yh];exact E) (by rw[Yh];exact I)
 rwa[Yh]at this
def zCy(s:kC O P C){d i:Nat}(X:(Tw O)=d+i)(hit:i<=t)(J:t<Tw O)(E:TT O t a)(I:TT O t b):TT O t (mu O P C d a b)/\at_ (mu O P C d a b) t=(at_ a t+at_ b t) % at_ O t:=by
 have e:(Tw O)-d=i:=aH
 obtain⟨V,W⟩:=qd s (d:=d) (b:=a) (a:=b) (t:=t) aH aH J (by rw[e];exact E.mono hit) I;have U:=Bc s (d:=d) (a:=a) (b:=b) aH (by rw[e];exact E.mono hit) (by rw[e];exact I.mono hit);exact⟨⟨U.len,U.bd,λj R=>by rw[V j R];exact E.zero j R⟩,by rw[W,zCS (E.bd t J) (I.bd t J)]⟩
def Mul.zv(s:kC O P C):Mul O 0 x (zv O):=λt E _=>⟨s.zv _,by rw[ZV];simp⟩
def Mul.one(I:gS O x):Mul O 1 x x:=λt E h=>⟨h,by rw[Ur,Y5 (h.bd t E).1 (h.bd t E).2]⟩
def Mul.add(s:kC O P C){k l:Int}(W:Mul O k x a)(X:Mul O l x b):Mul O (k+l) x (gm O P C a b):=λt E h=>by
 obtain⟨I,J⟩:=W t E h;obtain⟨b1,R⟩:=X t E h;obtain⟨U,V⟩:=zCy s (d:=(Tw O)) (i:=0) aH (YQ _) E I b1;exact⟨U,by show at_ (mu O P C (Tw O) a b) t=_;rw[V,J,R,<-Int.add_emod,Int.add_mul]⟩
def FromW(O:V1)(P:V2)(C:V3)(i:Nat):Prop:=
 ∀(σ:dj) (K:PV->dj->Prop) (x:V1) (vx vO vP vC:PV),eQ vO vP vC O P C->TT O i x->FI vx x->(∀v y,FI v y->TT O i y->(∀t,i<=t->t<Tw O->TT O t x->TT O t y/\at_ y t=(-1*at_ x t) % at_ O t)->K v σ)->zA Tp 170 [.agg [vO,vP,vC],.int .i64 i,vx] σ K
def zGg(s:kC O P C):∀{d i:Nat},(Tw O)=d+i->FromW O P C i
 |0,i,hi=>by
  intro σ K x vx vO vP vC hR hx bX hk;have bB:=s.le;obtain⟨⟨w0,a0,rfl⟩,⟨w1,a1,rP,rfl,hP⟩,⟨w3,a3,rC,rfl,hC⟩⟩:=hR;refine zA.gh ?_;have X:(Tw O:Int)<=(i:Int):=aH
  refine Tn Tryz.func170 ?_;simp only[Z3,seval,-ae,X,YT,zi,E4 (n:=(Tw O)) aH,zx (n:=(Tw O)) aH];exact Gh.finF (s:=σ.bY+1) ((zB σ _).cb _) (by simp only[Z3,seval,-ae]) aH (zO _ _) (by simp[kv]) λo1=>hk _ (zv O) (FI.mk bj) (s.zv _) λt h1 h2=>by omega
 |d+1,i,hi=>by
  intro σ K x vx vO vP vC hR hx bX hk;have A8:FromW O P C (i+1):=zGg s (d:=d) aH;have fA:AtOK O P C (d+1) i:=Z8 s aH;have bB:=s.le;have I:=hR;have E:i<Tw O:=aH
  have hO:=s.pr i E;have aM:=s.pos E;have du:=hx.len;have bx:=hx.bd i E;obtain⟨⟨w0,a0,rfl⟩,⟨w1,a1,rP,rfl,hP⟩,⟨w3,a3,rC,rfl,hC⟩⟩:=hR;obtain⟨w5,a5,Z⟩:=pvRow s hP E;have Y:i<Tw P:=by rw[s.pl];exact E
  have fh:=s.pw i E;obtain⟨wx,ax,rfl⟩:=bX;have J:i<Tw x:=aH
  have X:¬(Tw O:Int)<=(i:Int):=aH
  have sx:=hx.set0 E aM;have U:Tu .i64 ((i:Int)+1)=((i+1:Nat):Int):=lG E aH;have rh:i+1<=Tw x:=J;refine To Tryz.func170 ?_;simp only[Z3,seval,-ae,X];refine zl rfl aH λcA iB=>?_;simp only[Z3,seval,-ae,J,rh,zK,zq J,U];refine zA.frz (s:=σ.bY+1) (cs:=eh (x.set i 0)) (by simp only[Z3,seval,-ae]) (zO _ _) λo1=>?_;have yZ:=iB.ok;simp only[nD,sb,yZ,and_self,if_true,I.O.sb,I.P.sb,I.C.sb];refine A8 _ _ (x.set i 0) _ _ _ _ I sx (FI.mk bj) λv1 y1 V R e1=>?_;have aJ:dq σ (((σ.cb [.fz w0 a0 (Tw O) (eh O),.fz w1 a1 (Tw P) rP,.fz w3 a3 (Tw C) rC]).cb (eh (x.set i 0))).kill (σ.bY+1)):=((zB σ _).cb _).kill aH;simp only[Z3,seval,-ae,J,lK J];refine fi (λW=>?_) λW=>?_
  .refine Gh.fin0 aJ (V.bel _) (hk v1 y1 V (R.mono aH) λt h1 h2 h3=>?_);have ex:x.set i 0=x:=zw W J;rw[ex]at e1;rcases YY i t with h|h
   .exact e1 t h h2 h3
   .have:t=i:=aH
    subst this;exact⟨R.mono aH,by rw[R.zero t aH,W];simp⟩
  have ki:i<(zv O).length:=by simp;exact E
  have yw:i+1<=Tw O:=E;have bV:Tu .i64 (at_ O i-at_ x i)=at_ O i-at_ x i:=WE;have iT:=zq ki (x:=at_ O i-at_ x i);have ht:TT O i ((zv O).set i (at_ O i-at_ x i)):=(s.zv i).set E (sB _) ⟨aH,aH⟩;simp only[Z3,seval,-ae,YT,zi,E4 (n:=(Tw O)) aH,zx (n:=(Tw O)) aH,J,lK J,E,yw,lK E,bV,zK,iT,U,Y,Z];refine zA.frz (s:=σ.bY+2) (cs:=eh ((zv O).set i (at_ O i-at_ x i))) (by simp only[Z3,seval,-ae]) (zO _ _) λo2=>?_;simp only[nD,sb,kv,sB,decide_true,and_self,if_true,I.O.sb,I.P.sb,I.C.sb,V.sb];have pd:TT O i y1:=R.mono aH;refine fA I pd ht V (FI.mk bj) λv3 jl=>?_;simp only[Z3,seval,-ae,U,Y,Z];refine A8 _ _ (jt P i) _ _ _ _ I fh (FI.mk fh.len) λv2 y2 dx u6 e2=>?_;have o9:TT O i y2:=u6.mono aH;obtain⟨Dq,g12⟩:=zCy s (t:=i) (d:=d+1) (i:=i) aH (sB _) E pd ht;simp only[Z3,seval,-ae,U,Y,Z];refine fA I Dq o9 jl dx λv4 yc=>?_;refine Tq ?_;obtain⟨KJ,Pu⟩:=zCy s (t:=i) (d:=d+1) (i:=i) aH (sB _) E Dq o9;refine Gh.fin0 (((((zB σ _).cb _).kill aH).cb _).kill aH) (yc.bel _) (hk v4 _ yc KJ λt h1 h2 h3=>?_)
  have:t=i:=by
   rcases YY i t with h|h
   .exact absurd (h3.zero i h) W
   .omega
  subst this;refine⟨KJ,?_⟩;rw[Pu,g12,R.zero t aH,u6.zero t aH,ri ki,Iu rfl];rw[US,Uu,UM _ (Uv _),show at_ O t-at_ x t=-1*at_ x t+at_ O t by omega,Int.add_emod_right]
def zEg(s:kC O P C)(E:eQ vO vP vC O P C)(X:gS O x)(U:FI vx x)(W:∀v y,FI v y->gS O y->Mul O (-1) x y->K v σ):zA Tp 129 [.agg [vO,vP,vC],vx] σ K:=by
 have V:=E.O.one;have I:=E.P.one;have J:=E.C.one;refine To Tryz.func129 ?_;simp only[Z3,seval,-ae,V,I,J];refine zGg s (d:=(Tw O)) (i:=0) aH _ _ x _ _ _ _ E X U λv y R Y e=>?_;refine Tq ?_;exact Gh.fin0 (zB σ _) (R.bel _) (W v y R Y λt I J=>e t (YQ _) I J)
def zEH(s:kC O P C)(hR:eQ vO vP vC O P C)(hx:gS O x)(bX:FI vx x){k:Int}(df:0<=k/\k<=1000)
  (hk:∀v y,FI v y->gS O y->Mul O k x y->K v σ):zA Tp 128 [.agg [vO,vP,vC],.int .i64 0,vx,.int .i64 k] σ K:=by
 have bB:=s.le;have W:=hR;have Y:AtOK O P C (Tw O) 0:=Z8 s aH;obtain⟨kn,rfl⟩:∃kn:Nat,k=kn:=⟨k.toNat,aH⟩
 obtain⟨⟨w0,a0,rfl⟩,⟨w1,a1,rP,rfl,hP⟩,⟨w3,a3,rC,rfl,hC⟩⟩:=hR;refine To Tryz.func128 ?_;simp only[Z3,seval,-ae,YT,zi,E4 (n:=(Tw O)) aH,zx (n:=(Tw O)) aH];have aJ:dq σ (((σ.cb [.fz w0 a0 (Tw O) (eh O),.fz w1 a1 (Tw P) rP,.fz w3 a3 (Tw C) rC]).cb (eh (zv O))).kill (σ.bY+1)):=((zB σ _).cb _).kill aH;refine qF (λm vs h'=>∃(k:Nat) (V vb:PV) (A b:V1) (p q:Int),k<=1000/\m=k/\vs=[.int .i64 0,.int .i64 k,.ptr σ.bY 0,V,vb]/\
  h'=((σ.cb [.fz w0 a0 (Tw O) (eh O),.fz w1 a1 (Tw P) rP,.fz w3 a3 (Tw C) rC]).cb (eh (zv O))).kill (σ.bY+1)/\FI V A/\FI vb b/\gS O A/\gS O b/\Mul O p x A/\Mul O q x b/\p+q*k=kn) kn ?_ ?_
 .refine .fz (σ.bY+1) (eh (zv O)) (by simp only[Z3,seval,-ae]) (zO _ _) λo1=>.here ?_;refine⟨kn,.fz Im (.sl o1 0 (Tw O) (.cm (Tw O))) (Tw O) (eh (zv O)),vx,zv O,x,0,1,aH,rfl,?_,rfl,FI.mk bj,bX,s.zv _,hx,.zv s,.one hx,aH⟩;refine Tq ?_;simp only[nD,sb,kv,sB,decide_true,and_self,if_true,bX.sb]
 rintro m vs h' ⟨k,V,vb,A,b,p,q,bm,rfl,rfl,rfl,U,I,R,E,Z,mb,hinv⟩
 refine Tq ?_;refine Tr (λhle=>?_) λwN=>?_
 .have kU:m=0:=aH
  subst kU
  have:p=kn:=by simpa using hinv
  rw[<-this]at hk;exact Gh.fin0 aJ (U.bel _) (hk _ _ U R Z)
 have BU:Int.tmod (m:Int) 2=((m % 2:Nat):Int):=by rw[Yf aH];rfl
 have BV:Int.tdiv (m:Int) 2=((m / 2:Nat):Int):=by rw[Y8 aH];rfl
 have J:¬((2:Int)=0):=by decide
 have x9:Tu .i64 ((m / 2:Nat):Int)=((m / 2:Nat):Int):=WE;have Nk:Tu .i64 ((m % 2:Nat):Int)=((m % 2:Nat):Int):=WE;have ln:=vr s E E;have Jw:=mb.add s mb;by_cases ho:m % 2=1
 .have di:((m % 2:Nat):Int)=1:=aH
  simp only[Z3,seval,-ae,J,BU,di,eq_true di];refine Y W R E U I λv hv=>?_;refine Tq ?_;refine Y W E E I I λv2 X=>?_;simp only[Z3,seval,-ae,J,BV,x9];refine⟨m / 2,aH,.here ⟨m / 2,v,v2,_,_,_,_,aH,rfl,rfl,rfl,hv,X,vr s R E,ln,Z.add s mb,Jw,?_⟩⟩;grind
 .have di:¬((m % 2:Nat):Int)=1:=aH
  simp only[Z3,seval,-ae,J,BU,di];refine Y W E E I I λv2 X=>?_;simp only[Z3,seval,-ae,J,BV,x9];refine⟨m / 2,aH,.here ⟨m / 2,V,v2,_,_,_,_,aH,rfl,rfl,rfl,U,X,R,ln,Z,Jw,?_⟩⟩;have e:(m:Int)=2*((m / 2:Nat):Int):=aH
  grind
def Mul.mul{k l:Int}(U:Mul O k x a)(V:Mul O l a b):Mul O (l*k) x b:=λt E h=>by
 obtain⟨I,J⟩:=U t E h;obtain⟨b1,R⟩:=V t E I;refine⟨b1,?_⟩;rw[R,J,Int.mul_emod,UM _ (Uv _),<-Int.mul_emod,Uk]
def Z7(s:kC O P C)(I:eQ vO vP vC O P C)(hx:gS O x)(X:FI vx x){k:Int}(df:-1000<=k/\k<=1000)(Y:∀v y,FI v y->gS O y->Mul O k x y->K v σ):
  zA Tp 70 [.agg [vO,vP,vC],vx,.int .i64 k] σ K:=by
 have J:=I.O.one;have R:=I.P.one;have U:=I.C.one;refine To Tryz.func70 ?_;by_cases Z:k<0
 .have G5:Tu .i64 (0-k)=-k:=WQ
  simp only[Z3,seval,-ae,J,R,U,Z];refine zEg s I hx X λv y E hy my=>?_;simp only[Z3,seval,-ae,J,R,U,G5];refine zEH s I hy E aH λv z E V W=>?_;refine Tq ?_;exact Gh.fin0 (zB σ _) (E.bel _) (Y v z E V (by have:=my.mul W;rwa[show -k * -1=k by omega]at this))
 .simp only[Z3,seval,-ae,J,R,U,Z];refine zEH s I hx X aH λv z E V W=>?_;refine Tq ?_;exact Gh.fin0 (zB σ _) (E.bel _) (Y v z E V W)
def zNs(s:kC O P C)(E:eQ vO vP vC O P C)(I:gS O x)(J:gS O y)(W:FI vx x)(Z:FI vy y)(hk:∀v z,FI v z->gS O z->K v σ):zA Tp 121 [.agg [vO,vP,vC],vx,vy] σ K:=by
 have R:=E.O.one;have U:=E.P.one;have V:=E.C.one;refine To Tryz.func121 ?_;simp only[Z3,seval,-ae,R,U,V];refine zV s E J I Z W λv1 f1=>?_;simp only[Z3,seval,-ae,R,U,V];refine zEg s E (vr s J I) f1 λv2 i2 f2 Y _=>?_;simp only[Z3,seval,-ae,R,U,V];refine zV s E I J W Z λv3 f3=>?_;simp only[Z3,seval,-ae,R,U,V];refine zV s E Y (vr s I J) f2 f3 λv4 X=>?_;refine Tq ?_;exact Gh.fin0 (zB σ _) (X.bel _) (hk v4 _ X (vr s Y (vr s I J)))
def zGh(s:kC O P C)(E:eQ vO vP vC O P C)(V:gS O x)(I:gS O y)(Z:FI vx x)(Y:FI vy y)(hk:∀v z,FI v z->gS O z->K v σ):zA Tp 75 [.agg [vO,vP,vC],vx,vy] σ K:=by
 have J:=E.O.one;have R:=E.P.one;have U:=E.C.one;refine To Tryz.func75 ?_;simp only[Z3,seval,-ae,J,R,U];refine zEg s E I Y λv2 i2 f2 X _=>?_;simp only[Z3,seval,-ae,J,R,U];refine zV s E V I Z Y λv3 f3=>?_;simp only[Z3,seval,-ae,J,R,U];refine zV s E X (vr s V I) f2 f3 λv4 W=>?_;refine Tq ?_;exact Gh.fin0 (zB σ _) (W.bel _) (hk v4 _ W (vr s X (vr s V I)))
end Go.Proofs
namespace Go.Lie
open Go.Ab
variable{p:Int}
def zR7{p a:Int}(E:p=2\/p=3\/p=5\/p=7)(I:0<a)(J:a<p):∃x,1<=x/\x<p/\a*x % p=1:=by
 rcases E with rfl|rfl|rfl|rfl
 .exact⟨1,aH,aH,by
   have:a=1:=aH
   subst this;decide⟩
 .obtain rfl|rfl:a=1\/a=2:=aH
  .exact⟨1,Tx,Tx,Tx⟩
  .exact⟨2,Tx,Tx,Tx⟩
 .obtain rfl|rfl|rfl|rfl:a=1\/a=2\/a=3\/a=4:=aH
  .exact⟨1,Tx,Tx,Tx⟩
  .exact⟨3,Tx,Tx,Tx⟩
  .exact⟨2,Tx,Tx,Tx⟩
  .exact⟨4,Tx,Tx,Tx⟩
 .obtain rfl|rfl|rfl|rfl|rfl|rfl:a=1\/a=2\/a=3\/a=4\/a=5\/a=6:=aH
  .exact⟨1,Tx,Tx,Tx⟩
  .exact⟨4,Tx,Tx,Tx⟩
  .exact⟨5,Tx,Tx,Tx⟩
  .exact⟨2,Tx,Tx,Tx⟩
  .exact⟨3,Tx,Tx,Tx⟩
  .exact⟨6,Tx,Tx,Tx⟩
end Go.Lie
namespace Go.Proofs
open Go.Ab Go.Lie
variable{p:Int}{n:Nat}{σ:dj}{K:PV->dj->Prop}
def zGp{a p:Int}(R:pR p)(J:0<a/\a<p)(W:∀x,1<=x->x<p->a*x % p=1->K (.int .i64 x) σ):zA Tp 120 [.int .i64 a,.int .i64 p] σ K:=by
 have vJ:=R.bd;obtain⟨y,Z,u6,U⟩:=zR7 R J.1 J.2;refine Tn Tryz.func120 ?_;refine Tq ?_;refine zF (λm vs h'=>∃i:Int,1<=i/\i<=y/\m=(y-i).toNat/\vs=[.int .i64 a,.int .i64 p,.int .i64 i]/\σ=h') (y-1).toNat ?_ ?_
 .exact⟨1,aH,Z,rfl,rfl,rfl⟩
 rintro m vs h' ⟨i,V,Ke,rfl,rfl,rfl⟩
 have I:i<p:=aH
 simp only[Z3,seval,-ae,I];refine zNz aH aH ?_;have Y:a % p=a:=Y5 aH aH;have X:a*i<=49/\0<=a*i:=by
  have E:=UN (show i<=7 by omega) (show 0<=a by omega);have h2:=UW (show 0<=a by omega) (show 0<=i by omega);omega
 have sZ:p≠0:=aH
 rw[Y];simp only[Z3,seval,-ae,mn (n:=a*i) aH aH,sZ];have e:(a*i).tmod p=a*i % p:=Yf X.2;rw[e];by_cases E:a*i % p=1
 .simp only[Z3,seval,-ae,E];exact W i V I E
 .have aj:i≠y:=λe=>E (by rw[e];exact U);simp only[Z3,seval,-ae,E,mn (n:=i+1) aH aH];exact⟨_,aH,i+1,aH,aH,rfl,rfl⟩
def zAH{l:Nat}{w:Bool}{a:AV}{xs:V1}(J:l=Tw xs)(E:(Tw xs)<=4294967296)(I:∀v,K (.fz Im v (Tw xs) (eh xs)) σ):zA Tp 66 [.fz w a l (eh xs)] σ K:=
 zA.fz (λK'=>zl J E) (zO _ _) λo cap=>I _
def zR6{xs:V1}(h:isZ xs)(j:Nat):at_ xs j=0:=by
 rcases YY j (Tw xs) with x|x
 .rw[gj x];exact h _ (ss x)
 .exact Hm x
end Go.Proofs
namespace Go.Grp
open Go.Ab Go.Lie
variable{t:Nat}{O a b x:V1}{P:V2}{C:V3}
section
variable{α:Type}{S:α->Prop}{m:α->α->α}{e:α}
def Mon.pw_mul(M:Mon S m e){x:α}(E:S x)(a:Nat):∀b,Grp.pw m e x (a*b)=Grp.pw m e (Grp.pw m e x a) b
 |0=>rfl
 |b+1=>by
  rw[Nat.mul_succ,M.pw_add E,M.pw_mul E a b];rfl
end
section
variable(s:kC O P C)(F:Full O P C (Tw O))(hC:G4 O C)
include s F hC
theorem zKU(I:t<Tw O)(R:TT O t x):TT O (t+1) (Grp.pw (gm O P C) (zv O) x (at_ O t).toNat):=by
 obtain⟨E,J⟩:=QG s F hC I R (at_ O t).toNat;refine⟨E.len,E.bd,λj U=>?_⟩;rcases YY j t with h|h
 .exact E.zero j h
 .rw[show j=t by omega,J,Yi (by have:=s.pr t I;omega),Int.mul_emod_right]
omit hC in
end
section
section
variable{α:Type}[Inhabited α]{S:α->Prop}{m:α->α->α}{e:α}{x y a:α}{N:α->Prop}
structure GSub(S:α->Prop)(m:α->α->α)(e:α)(N:α->Prop):Prop where
 inS:∀{x},N x->S x
 one:N e
 cl:∀{x y},N x->N y->N (m x y)
 inv:∀{x},N x->N (mE S m e x)
def Gp.wholeB(G:Gp S m e):GSub S m e S:=⟨id,G.one,λa b=>G.cl a b,λa=>(G.inv_in a).1⟩
def GSub.com_in(h:GSub S m e N)(E:N x)(I:N y):N (com S m e x y):=h.cl (h.inv E) (h.cl (h.inv I) (h.cl E I))
def GSub.quot(G:Gp S m e)(h:GSub S m e N)(E:N a)(I:S x)(R:N (m a x)):N x:=by
 have J:=h.cl (h.inv E) R;rwa[<-G.as (h.inS (h.inv E)) (h.inS E) I,G.inv_l (h.inS E),G.l1 I]at J
def GSub.quotR(G:Gp S m e)(h:GSub S m e N)(E:N a)(I:S x)(R:N (m x a)):N x:=by
 have J:=h.cl R (h.inv E);rwa[G.as I (h.inS E) (h.inS (h.inv E)),G.inv_r (h.inS E),G.r1 I]at J
def GSub.pw(h:GSub S m e N)(E:N x):∀k,N (Grp.pw m e x k)
 |0=>h.one
 |k+1=>h.cl (h.pw E k) E
def Gp.com_swap'(G:Gp S m e)(E:S x)(I:S y):com S m e y x=mE S m e (com S m e x y):=by
 have U:=G.com_spec E I;have V:=G.com_spec I E;have J:=G.com_in E I;have R:=G.com_in I E;refine G.inv_eq J R ?_;refine G.cancel (G.cl I E) (G.cl J R) G.one ?_;rw[<-G.as (G.cl I E) J R,U,V,G.r1 (G.cl I E)]
end
variable{O:V1}{P:V2}{C:V3}{x y z a b c g:V1}{D D':List (Option V1)}{t k d:Nat}{N H:V1->Prop}{L u u' Q:V2}
abbrev gB(O:V1)(P:V2)(C:V3)(N:V1->Prop):Prop:=GSub (gS O) (gm O P C) (zv O) N
inductive E7(O:V1)(P:V2)(C:V3)(D:List (Option V1)):V1->V1->Prop where
 |refl (x:V1):E7 O P C D x x
 |left {d j:Nat} {b x x' z:V1} (hd:d<Tw O) (hb:D[d]? = Ik (Ik b)) (hx:TT O d x) (h0:at_ x d≠0) (eM:TT O (d+1) x') (e:x=gm O P C (pw (gm O P C) (zv O) b j) x') (r:E7 O P C D x' z):E7 O P C D x z
 |right {d j:Nat} {b x x' z:V1} (hd:d<Tw O) (hb:D[d]? = Ik (Ik b)) (hx:TT O d x) (h0:at_ x d≠0) (eM:TT O (d+1) x') (e:x=gm O P C x' (pw (gm O P C) (zv O) b j)) (r:E7 O P C D x' z):E7 O P C D x z
def E7.trans(h:E7 O P C D x y)(g:E7 O P C D y z):E7 O P C D x z:=by
 induction h with
 |refl x=>exact g
 |left hd hb hx h0 eM e r ih=>exact .left hd hb hx h0 eM e (ih g)
 |right hd hb hx h0 eM e r ih=>exact .right hd hb hx h0 eM e (ih g)
def Sup(D D':List (Option V1)):Prop:=∀(d:Nat) (b:V1),D[d]? = Ik (Ik b)->D'[d]? = Ik (Ik b)
def E7.mono(h:E7 O P C D x z)(s:Sup D D'):E7 O P C D' x z:=by
 induction h with
 |refl x=>exact .refl x
 |left hd hb hx h0 eM e r ih=>exact .left hd (s _ _ hb) hx h0 eM e ih
 |right hd hb hx h0 eM e r ih=>exact .right hd (s _ _ hb) hx h0 eM e ih
def E7.iff(F:Full O P C (Tw O))(E:gB O P C N)(I:InD N D)(h:E7 O P C D x z):N x↔N z:=by
 have G:=F.g
 induction h with
 |refl x=>exact Iff.rfl
 |left hd hb hx h0 eM e r ih=>
  refine Iff.trans ?_ ih;rw[e];exact⟨λh=>E.quot G (E.pw (I _ _ hb) _) (eM.mono (YQ _)) h,λh=>E.cl (E.pw (I _ _ hb) _) h⟩
 |right hd hb hx h0 eM e r ih=>
  refine Iff.trans ?_ ih;rw[e];exact⟨λh=>E.quotR G (E.pw (I _ _ hb) _) (eM.mono (YQ _)) h,λh=>E.cl h (E.pw (I _ _ hb) _)⟩
def Sup.put(I:D[d]? = Ik none):Sup D (D.set d (Ik y)):=λe b E=>by
 grind
def RQ(O:V1)(P:V2)(C:V3)(D:List (Option V1))(Q:V2)(x:V1):Prop:=∃z,E7 O P C D x z/\(z=zv O\/z∈Q)
structure QI(O:V1)(P:V2)(C:V3)(D:List (Option V1))(Q:V2):Prop where
 pow:∀(d:Nat) (b:V1),D[d]? = Ik (Ik b)->RQ O P C D Q (pw (gm O P C) (zv O) b (at_ O d).toNat)
 com:∀(d e:Nat) (b c:V1),d≠e->D[d]? = Ik (Ik b)->D[e]? = Ik (Ik c)->RQ O P C D Q (yH O P C b c)\/RQ O P C D Q (yH O P C c b)
def RQ.step{Q':V2}(h:RQ O P C D (x::Q) y)(s:Sup D D')(J:E7 O P C D x z)(R:z=zv O\/z∈Q')(I:∀q∈Q,q∈Q'):RQ O P C D' Q' y:=by
 obtain⟨w,E,h2⟩:=h;rcases h2 with rfl|h2
 .exact⟨_,E.mono s,.inl rfl⟩
 .rcases Yq.1 h2 with rfl|h2
  .exact⟨z,(E.trans J).mono s,R⟩
  .exact⟨w,E.mono s,.inr (I w h2)⟩
def zEc{n d:Nat}{b:V1}(h:(Jf n (none:Option V1))[d]? = Ik (Ik b)):False:=by
 rw[RR]at h;split at h<;>cases h
def QI.start(n:Nat):QI O P C (Jf n none) Q:=⟨λd b h=>(zEc h).elim,λd e b c _ h _=>(zEc h).elim⟩
def QI.mem{Q':V2}(h:QI O P C D Q)(U:∀q∈Q,q∈Q'):QI O P C D Q':=
 have r:∀{x},RQ O P C D Q x->RQ O P C D Q' x:=λ⟨z,J,R⟩=>⟨z,J,R.imp id (U z)⟩
 ⟨λd b E=>r (h.pow d b E),λd e b c I E V=>(h.com d e b c I E V).imp r r⟩
def QI.drop(h:QI O P C D (x::Q))(U:E7 O P C D x (zv O)):QI O P C D Q:=
 have r:∀{y},RQ O P C D (x::Q) y->RQ O P C D Q y:=λh=>h.step (λd b E=>E) U (.inl rfl) λq R=>R
 ⟨λd b E=>r (h.pow d b E),λd e b c I E J=>(h.com d e b c I E J).imp r r⟩
def QI.put{Q':V2}(h:QI O P C D (x::Q))(hx:E7 O P C D x z)(hd:D[d]? = Ik none)(hz:z∈Q')(hQ:∀q∈Q,q∈Q')(hp:pw (gm O P C) (zv O) y (at_ O d).toNat∈Q')(U:∀(e:Nat) (b:V1),D[e]? = Ik (Ik b)->yH O P C b y∈Q'\/yH O P C y b∈Q'):QI O P C (D.set d (Ik y)) Q':=by
 have hl:d<Tw D:=by
  grind
 have s:Sup D (D.set d (Ik y)):=Sup.put hd;have r:∀{w},RQ O P C D (x::Q) w->RQ O P C (D.set d (Ik y)) Q' w:=λh=>h.step s hx (.inr hz) hQ;have ge:∀(e:Nat) (b:V1),(D.set d (Ik y))[e]? = Ik (Ik b)->(e=d/\b=y)\/(e≠d/\D[e]? = Ik (Ik b)):=λe b E=>by
  grind
 refine⟨λe b E=>?_,λe e' b c Y E V=>?_⟩
 .rcases ge e b E with ⟨W,R⟩|⟨_,I⟩
  .rw[W,R];exact⟨_,.refl _,.inr hp⟩
  .exact r (h.pow e b I)
 .rcases ge e b E with ⟨W,R⟩|⟨h1,I⟩
  .rcases ge e' c V with ⟨l1,X⟩|⟨Z,J⟩
   .omega
   .rw[R];rcases U e' c J with h3|h3
    .exact .inr ⟨_,.refl _,.inr h3⟩
    .exact .inl ⟨_,.refl _,.inr h3⟩
  .rcases ge e' c V with ⟨l1,X⟩|⟨Z,J⟩
   .rw[X];rcases U e b I with h3|h3
    .exact .inl ⟨_,.refl _,.inr h3⟩
    .exact .inr ⟨_,.refl _,.inr h3⟩
   .exact(h.com e e' b c Y I J).imp r r
section
variable(s:kC O P C)(F:Full O P C (Tw O))(hC:G4 O C)
include s F hC
theorem zQM(R:gS O x):∃E:Nat,0<E/\pw (gm O P C) (zv O) x E=zv O:=by
 have M:=F.g.toMon
 have:∀t,t<=Tw O->∃E:Nat,0<E/\TT O t (pw (gm O P C) (zv O) x E):=by
  intro t
  induction t with
  |zero=>intro _;exact⟨1,aH,by rw[M.pw_one R];exact R⟩
  |succ t ih=>
   intro V;obtain⟨E,I,J⟩:=ih aH;have U:=s.pr t aH;refine⟨E*(at_ O t).toNat,Nat.mul_pos I aH,?_⟩;rw[M.pw_mul R];exact zKU s F hC aH J
 obtain⟨E,I,J⟩:=this (Tw O) (sB _);exact⟨E,I,J.ext (s.zv _) λj I J=>aH⟩
theorem zAW(inS:∀x,N x->gS O x)(one:N (zv O))(R:∀x y,N x->N y->N (gm O P C x y)):gB O P C N:=by
 have G:=F.g;have J:∀{x},N x->∀k,N (pw (gm O P C) (zv O) x k):=λ{x} I k=>by
  induction k with
  |zero=>exact one
  |succ k ih=>exact R _ _ ih I
 refine⟨λh=>inS _ h,one,λh g=>R _ _ h g,λ{x} I=>?_⟩;obtain⟨E,V,U⟩:=zQM s F hC (inS x I);have e:pw (gm O P C) (zv O) x (E-1)=mE (gS O) (gm O P C) (zv O) x:=by
  refine G.inv_eq (inS x I) (inS _ (J I _)) ?_
  have:=G.pw_comm (inS x I) (E-1)
  rw[<-this];rw[show E=(E-1)+1 by omega]at U;exact U
 rw[<-e];exact J I _
def HD(O:V1)(P:V2)(C:V3)(D:List (Option V1))(t:Nat)(x:V1):Prop:=TT O t x/\E7 O P C D x (zv O)
omit hC in
theorem HD.row(ok:FJ O D)(J:D[d]? = Ik (Ik b))(U:d<Tw O):HD O P C D d b:=by
 have M:=F.g.toMon;obtain⟨E,R⟩:=ok.row d b J;have I:gS O b:=E.mono (YQ _);refine⟨E,.left (j:=1) U J E (by rw[R];decide) (s.zv _) ?_ (.refl _)⟩;rw[M.pw_one I];exact(M.r1 I).symm
theorem HD.nn(V:D[t]? = Ik none)(h:HD O P C D t x):HD O P C D (t+1) x:=by
 obtain⟨U,R⟩:=h;refine⟨?_,R⟩;have key:∀{d:Nat} {b:V1},D[d]? = Ik (Ik b)->TT O d x->at_ x d≠0->TT O (t+1) x:=λ{d b} E J I=>by
  rcases Je d t with h|h|h
  .exact absurd (U.zero d h) I
  .rw[h,V]at E;cases E
  .exact J.mono h
 cases R with
 |refl=>exact s.zv _
 |left hd E J I eM e r=>exact key E J I
 |right hd E J I eM e r=>exact key E J I
theorem HD.cnjb(ok:FJ O D)(q:QI O P C D [])(ht:t<Tw O)(Y:D[t]? = Ik (Ik b))(hs:gB O P C (HD O P C D (t+1))):∀{x z:V1},E7 O P C D x z->z=zv O->TT O (t+1) x->HD O P C D (t+1) (cnj (gS O) (gm O P C) (zv O) x b):=by
 have G:=F.g;have E:gS O b:=(ok.row t b Y).1.mono (YQ _);have V:∀{x y:V1},gS O x->gS O y->cnj (gS O) (gm O P C) (zv O) (gm O P C x y) b=gm O P C (cnj (gS O) (gm O P C) (zv O) x b) (cnj (gS O) (gm O P C) (zv O) y b):=λ{x y} J R=>by
  have c1:=G.cnj_in J E;have U:=G.cnj_in R E;refine(G.cnj_eq (G.cl J R) E (G.cl c1 U) ?_).symm;rw[<-G.as E c1 U,G.cnj_spec J E,G.as J E U,G.cnj_spec R E,<-G.as J R E]
 have Ao:cnj (gS O) (gm O P C) (zv O) (zv O) b=zv O:=G.cnj_one E;have K4:∀{c:V1},gS O c->HD O P C D (t+1) (cnj (gS O) (gm O P C) (zv O) c b)->∀j,HD O P C D (t+1) (cnj (gS O) (gm O P C) (zv O) (pw (gm O P C) (zv O) c j) b):=λ{c} I h j=>by
  induction j with
  |zero=>show HD O P C D (t+1) (cnj _ _ _ (zv O) b);rw[Ao];exact hs.one
  |succ j ih=>
   show HD O P C D (t+1) (cnj _ _ _ (gm O P C _ c) b);rw[V (G.pw I j) I];exact hs.cl ih h
 have row:∀{d:Nat} {c:V1},t+1<=d->d<Tw O->D[d]? = Ik (Ik c)->gS O c/\HD O P C D (t+1) (cnj (gS O) (gm O P C) (zv O) c b):=λ{d c} W h2 I=>by
  have cT:=(ok.row d c I).1;have cS:gS O c:=cT.mono (YQ _);refine⟨cS,?_⟩;rw[<-G.cnj_com cS E];have Km:=HD.row s F ok I h2;have Kq:HD O P C D (t+1) c:=⟨Km.1.mono W,Km.2⟩;refine hs.cl Kq ?_;have T1:TT O (t+1) (yH O P C c b):=zRc s F hC ht Kq.1 (ok.row t b Y).1;have e0:∀{w},RQ O P C D [] w->E7 O P C D w (zv O):=λ⟨z,W,h2⟩=>by
   rcases h2 with rfl|h2
   .exact W
   .cases h2
  rcases q.com t d b c aH Y I with h3|h3
  .have L7:yH O P C b c=mE (gS O) (gm O P C) (zv O) (yH O P C c b):=G.com_swap' cS E;have LZ:yH O P C c b=mE (gS O) (gm O P C) (zv O) (yH O P C b c):=G.com_swap' E cS;have T2:TT O (t+1) (yH O P C b c):=by rw[L7];exact zHV s F hC ht T1
   have T3:HD O P C D (t+1) (yH O P C c b):=by rw[LZ];exact hs.inv ⟨T2,e0 h3⟩
   exact T3
  .exact⟨T1,e0 h3⟩
 intro x z h
 induction h with
 |refl x=>rintro rfl J;rw[Ao];exact hs.one
 | @left d j c x x' z hd I J h0 eM e r ih=>
  intro Z X;have uq:t+1<=d:=by
   rcases YY d (t+1)with h|h
   .exact absurd (X.zero d h) h0
   .exact h
  obtain⟨r1,r2⟩:=row uq hd I;have x8:gS O x':=eM.mono (YQ _);rw[e,V (G.pw r1 j) x8];exact hs.cl (K4 r1 r2 j) (ih Z (eM.mono aH))
 | @right d j c x x' z hd I J h0 eM e r ih=>
  intro Z X;have uq:t+1<=d:=by
   rcases YY d (t+1)with h|h
   .exact absurd (X.zero d h) h0
   .exact h
  obtain⟨r1,r2⟩:=row uq hd I;have x8:gS O x':=eM.mono (YQ _);rw[e,V x8 (G.pw r1 j)];exact hs.cl (ih Z (eM.mono aH)) (K4 r1 r2 j)
theorem HD.sub(ok:FJ O D)(q:QI O P C D []):∀k t,t+k=Tw O->gB O P C (HD O P C D t)
 |0,t,ht=>by
  have hz:∀x,HD O P C D t x->x=zv O:=λx I=>I.1.ext (s.zv _) λj R h2=>by omega
  have J:HD O P C D t (zv O):=⟨s.zv _,.refl _⟩;refine zAW s F hC (λx I=>I.1.mono (YQ _)) J λx y I hy=>?_;rw[hz x I,hz y hy,F.g.l1 F.g.one];exact J
 |k+1,t,ht=>by
  have ih:=HD.sub ok q k (t+1) aH;have G:=F.g;have V:t<Tw O:=aH
  have Et:t<Tw D:=by rw[ok.len];exact V
  rcases hD:D[t]? with _|_|b
  .rw[na Et]at hD;cases hD
  .refine zAW s F hC (λx I=>I.1.mono (YQ _)) ⟨s.zv _,.refl _⟩ λx y I hy=>?_
   have:=ih.cl (HD.nn s F hC hD I) (HD.nn s F hC hD hy)
   exact⟨this.1.mono aH,this.2⟩
  .obtain⟨bT,b1⟩:=ok.row t b hD;have X:gS O b:=bT.mono (YQ _);have inS:∀{x},HD O P C D (t+1) x->gS O x:=λh=>h.1.mono (YQ _)
   -- Bq of a Bt of b and a FE behind
   have mk:∀(j:Nat) {h:V1},HD O P C D (t+1) h->HD O P C D t (gm O P C (pw (gm O P C) (zv O) b j) h):=λj {h} E=>by
    obtain⟨Z,p2⟩:=QG s F hC V bT j;have Sy:=inS E;have T:=tt_cl s F hC (Ye V) Z (E.1.mono (Yb _));refine⟨T,?_⟩;obtain⟨_,g2⟩:=qd s (d:=(Tw O)) (b:=pw (gm O P C) (zv O) b j) (a:=h) (t:=t) (sB _) aH V (by rw[Yh];exact Z.mono (YQ _)) (E.1.mono (Yb _));have hO:=s.pr t V;have e2:at_ (gm O P C (pw (gm O P C) (zv O) b j) h) t=(j:Int) % at_ O t:=by
     show at_ (mu O P C (Tw O) _ _) t=_;rw[g2,zCS (Z.bd t V) (E.1.bd t V),E.1.zero t (YB _),p2,b1,Uz,US,UM _ (Uv _)]
    by_cases J:(j:Int) % at_ O t=0
    .obtain⟨r,hr⟩:=Int.dvd_of_emod_eq_zero J;have j8:0<=r:=by
      rcases UI r 0 with h|h
      .have:=Int.mul_neg_of_pos_of_neg (show 0<at_ O t by omega) h;omega
      .exact h
     have ej:j=(at_ O t).toNat*r.toNat:=by
      grind
     have hp:HD O P C D (t+1) (pw (gm O P C) (zv O) b (at_ O t).toNat):=by
      refine⟨zKU s F hC V bT,?_⟩;obtain⟨z,R,h2⟩:=q.pow t b hD;simp_all
     rw[ej,G.pw_mul X];exact(ih.cl (ih.pw hp r.toNat) E).2
    .exact .left V hD T (by rw[e2];exact J) E.1 rfl E.2
   have mv:∀(j:Nat) {h:V1},HD O P C D (t+1) h->∃h',HD O P C D (t+1) h'/\gm O P C h (pw (gm O P C) (zv O) b j)=gm O P C (pw (gm O P C) (zv O) b j) h':=λj=>by
    induction j with
    |zero=>exactλ{h} E=>⟨h,E,by show gm O P C h (zv O)=gm O P C (zv O) h;rw[G.r1 (inS E),G.l1 (inS E)]⟩
    |succ j ij=>
     intro h E;obtain⟨R,U,W⟩:=ij E;have Y:=HD.cnjb s F hC ok q V hD ih U.2 rfl U.1;refine⟨_,Y,?_⟩;have Gw:=G.pw X j;show gm O P C h (gm O P C (pw (gm O P C) (zv O) b j) b)=gm O P C (gm O P C (pw (gm O P C) (zv O) b j) b) _;rw[<-G.as (inS E) Gw X,W,G.as Gw (inS U) X,G.as Gw X (inS Y),G.cnj_spec (inS U) X]
   have split:∀{x},HD O P C D t x->∃j h,HD O P C D (t+1) h/\x=gm O P C (pw (gm O P C) (zv O) b j) h:=λ{x} I=>by
    obtain⟨hT,hr⟩:=I;have deep:∀{d},TT O d x->at_ x d≠0->d≠t->TT O (t+1) x:=λ{d} R J aj=>by
     rcases Je d t with h|h|h
     .exact absurd (hT.zero d h) J
     .exact absurd h aj
     .exact R.mono h
    have triv:TT O (t+1) x->E7 O P C D x (zv O)->∃j h,HD O P C D (t+1) h/\x=gm O P C (pw (gm O P C) (zv O) b j) h:=λR h2=>⟨0,x,⟨R,h2⟩,(G.l1 (R.mono (YQ _))).symm⟩
    have j8:=hr;cases hr with
    |refl=>exact triv (s.zv _) (.refl _)
    | @left d j c _ x' _ hd hc R J eM e r=>
     by_cases uq:d=t
     .subst uq;rw[hD]at hc;cases hc;exact⟨j,x',⟨eM,r⟩,e⟩
     .exact triv (deep R J uq) j8
    | @right d j c _ x' _ hd hc R J eM e r=>
     by_cases uq:d=t
     .subst uq;rw[hD]at hc;cases hc;obtain⟨h',U,W⟩:=mv j (show HD O P C D (d+1) x' from⟨eM,r⟩);exact⟨j,h',U,by rw[e,W]⟩
     .exact triv (deep R J uq) j8
   refine zAW s F hC (λx I=>I.1.mono (YQ _)) ⟨s.zv _,.refl _⟩ λx y I hy=>?_;obtain⟨j,h,U,rfl⟩:=split I;obtain⟨j',h',W,rfl⟩:=split hy;obtain⟨h2,Y,a4⟩:=mv j' U;have Z:=G.pw X j;have p2:=G.pw X j';have e:gm O P C (gm O P C (pw (gm O P C) (zv O) b j) h) (gm O P C (pw (gm O P C) (zv O) b j') h')=gm O P C (pw (gm O P C) (zv O) b (j+j')) (gm O P C h2 h'):=by
    rw[G.as Z (inS U) (G.cl p2 (inS W)),<-G.as (inS U) p2 (inS W),a4,G.as p2 (inS Y) (inS W),<-G.as Z p2 (G.cl (inS Y) (inS W)),G.pw_add X]
   rw[e];exact mk _ (ih.cl Y W)
omit hC in
theorem HD.fil(h:HD O P C D t x)(R:fR x<Tw O):∃b,D[fR x]? = Ik (Ik b):=by
 obtain⟨W,U⟩:=h;have key:∀{d:Nat} {b:V1},D[d]? = Ik (Ik b)->TT O d x->at_ x d≠0->∃b,D[fR x]? = Ik (Ik b):=λ{d b} I J E=>by
  have:fR x=d:=zFs (λj V=>J.zero j V) E
  rw[this];exact⟨b,I⟩
 cases U with
 |refl=>rw[zCj s]at R;omega
 |left R I J E eM e r=>exact key I J E
 |right R I J E eM e r=>exact key I J E
end
def GC(O:V1)(P:V2)(C:V3)(L:V2)(x:V1):Prop:=∀N,gB O P C N->(∀l∈L,N l)->N x
def GC.sub(F:Full O P C (Tw O))(J:∀l∈L,gS O l):gB O P C (GC O P C L):=
 ⟨λh=>h _ F.g.wholeB J,λN E _=>E.one,λh g N E I=>E.cl (h N E I) (g N E I),λh N E I=>E.inv (h N E I)⟩
def GC.mem(h:x∈L):GC O P C L x:=λN _ E=>E x h
structure sA(O:V1)(H:V1->Prop)(u:V2):Prop where
 asc:u.Pairwise λa b=>fR a<fR b
 mem:∀v∈u,H v
 one:∀v∈u,gS O v/\fR v<Tw O/\at_ v (fR v)=1
 red:∀v∈u,∀w∈u,fR v≠fR w->at_ v (fR w)=0
 all:∀x,H x->fR x<Tw O->∃v∈u,fR v=fR x
def zJF:∀{u u':V2},(u.Pairwise λa b=>fR a<fR b)->(u'.Pairwise λa b=>fR a<fR b)->(∀v,v∈u↔v∈u')->u=u'
 |[],[],_,_,_=>rfl
 |[],v::u',_,_,h=>by have:=(h v).2 bj;cases this
 |v::u,[],_,_,h=>by have:=(h v).1 bj;cases this
 |v::u,w::u',h1,h2,h=>by
  rw[Sp]at h1 h2;have e:v=w:=by
   grind
  subst e;rw[zJF h1.2 h2.2 λx=>?_];grind
def sA.HI(s:kC O P C)(F:Full O P C (Tw O))(U:gB O P C H)(h:sA O H u)(h':sA O H u'){v E:V1}(V:v∈u)(R:E∈u')(hd:fR v=fR E):v=E:=by
 have G:=F.g;obtain⟨I,a2,a3⟩:=h.one v V;obtain⟨b1,b2,b3⟩:=h'.one E R;have Z:=G.inv_in I;have W:H (gm O P C (mE (gS O) (gm O P C) (zv O) v) E):=U.cl (U.inv (h.mem v V)) (h'.mem E R);have e:gm O P C v (gm O P C (mE (gS O) (gm O P C) (zv O) v) E)=E:=by rw[<-G.as I Z.1 b1,Z.2,G.l1 b1]
 generalize gm O P C (mE (gS O) (gm O P C) (zv O) v) E=z at *
 have J:=U.inS W;rcases YY (fR z) (Tw O) with uW|uW
 .exfalso;obtain⟨g1,Y⟩:=qd s (d:=(Tw O)) (b:=v) (a:=z) (t:=fR z) (sB _) aH uW (by rw[Yh];exact I) (ZX J);have e':mu O P C (Tw O) v z=E:=e;rw[e']at g1 Y;have dV:at_ z (fR z)≠0:=QA (by rw[J.len];exact uW);have lE:at_ E (fR z)=at_ v (fR z):=by
   rcases Je (fR z) (fR v)with h1|h1|h1
   .rw[qW h1,qW aH]
   .rw[h1,a3,hd,b3]
   .obtain⟨w,hw,X⟩:=h.all z W uW;obtain⟨w',tO,PF⟩:=h'.all z W uW;rw[<-X,h.red v V w hw aH,X,<-PF,h'.red E R w' tO aH]
  have:=zA7 (I.bd _ uW) (J.bd _ uW) (Y.symm.trans lE)
  exact dV this
 .rw[Zb J uW,G.r1 I]at e;exact e
def sA.unique(s:kC O P C)(F:Full O P C (Tw O))(J:gB O P C H)(h:sA O H u)(h':sA O H u'):u=u':=by
 refine zJF h.asc h'.asc λv=>⟨λE=>?_,λE=>?_⟩
 .obtain⟨w,I,e⟩:=h'.all v (h.mem v E) (h.one v E).2.1;rw[h.HI s F J h' E I e.symm];exact I
 .obtain⟨w,I,e⟩:=h.all v (h'.mem v E) (h'.one v E).2.1;rw[h'.HI s F J h E I e.symm];exact I
def sA.congr{E:V1->Prop}(h:sA O H u)(e:∀x,H x↔E x):sA O E u:=⟨h.asc,λv I=>(e v).1 (h.mem v I),h.one,h.red,λx J=>h.all x ((e x).2 J)⟩
def sA.len(h:sA O H u):(Tw u)<=Tw O:=by
 have:(u.map fR).Pairwise (· < ·):=by rw[N0];exact h.asc
 have key:∀(l:List Nat) (m:Nat),l.Pairwise (· < ·)->(∀x∈l,m<=x/\x<Tw O)->(Tw l)+m<=(Tw O)\/l=[]:=by
  intro l
  induction l with
  |nil=>intro m _ _;exact .inr rfl
  |cons a l ih=>
   intro m h1 I;rw[Sp]at h1;have R:=I a bj;rcases ih (a+1) h1.2 (λx E=>⟨h1.1 x E,(I x (by simp[E])).2⟩)with h3|h3
   .left;simp only[YF];omega
   .subst h3;left;simp;omega
 rcases key _ 0 this (λx E=>by
  obtain⟨v,J,rfl⟩:=YD.1 E;exact⟨YQ _,(h.one v J).2.1⟩)with h1|h1
 .simpa using h1
 .rw[List.map_eq_nil_iff]at h1;subst h1;simp
def GC.table(s:kC O P C)(F:Full O P C (Tw O))(hC:G4 O C)(ok:FJ O D)(q:QI O P C D [])(h:∀N,gB O P C N->(InD N D↔∀l∈L,N l)):∀x,GC O P C L x↔HD O P C D 0 x:=by
 have hs:=HD.sub s F hC ok q (Tw O) 0 aH;intro x;constructor
 .intro hx;refine hx _ hs ((h _ hs).1 λd b E=>?_);have I:d<Tw O:=by
   rw[<-ok.len];grind
  have:=HD.row s F ok E I
  exact⟨this.1.mono (YQ _),this.2⟩
 .intro hx N hN hl;exact(hx.2.iff F hN ((h N hN).2 hl)).2 hN.one
structure CanD(O:V1)(P:V2)(C:V3)(D:List (Option V1))(u:V2):Prop where
 one:∀v∈u,gS O v/\fR v<Tw O/\at_ v (fR v)=1
 asc:u.Pairwise λa b=>fR a<fR b
 red:∀v∈u,∀w∈u,fR v≠fR w->at_ v (fR w)=0
 all:∀(d:Nat) (y:V1),D[d]? = Ik (Ik y)->∃v∈u,fR v=d
 len:(Tw u)<=Tw O
 iff:∀N,gB O P C N->((∀x∈u,N x)↔InD N D)
def CanD.can(s:kC O P C)(F:Full O P C (Tw O))(hC:G4 O C)(ok:FJ O D)(q:QI O P C D [])(E:CanD O P C D u)(h:∀N,gB O P C N->(InD N D↔∀l∈L,N l)):sA O (GC O P C L) u:=
 ⟨E.asc,λv V N I U=>(E.iff N I).2 ((h N I).2 U) v V,E.one,E.red,λx W R=>by
  obtain⟨b,J⟩:=HD.fil s F ((GC.table s F hC ok q h x).1 W) R;exact E.all _ b J⟩
section
variable(s:kC O P C)(F:Full O P C (Tw O))(hC:G4 O C)
include s F hC
theorem E7.stepR(ok:FJ O D)(J:D[d]? = Ik (Ik b))(R:d<Tw O)(V:TT O d z)(I:at_ z d≠0)(W:gS O x)(U:gm O P C x (pw (gm O P C) (zv O) b k)=z)(E:TT O (d+1) x):E7 O P C D z x:=
 .right (j:=k) R J V I E U.symm (.refl _)
end
end
end Go.Grp
namespace Go.Proofs
open Go.Ab Go.Lie Go.Grp
variable{d j:Nat}{σ:dj}{vC vO vP vx:PV}{K:PV->dj->Prop}{O x:V1}{P:V2}{C:V3}
section
variable{g:V1}
noncomputable abbrev Fq (O:V1) (P:V2) (C:V3) (x g:V1):V1:=cnj (gS O) (gm O P C) (zv O) x g
end
def zD4(i:Nat):((Iw (i+1)).map (Grp.unit O))=((Iw i).map (Grp.unit O))++[Grp.unit O i]:=by
 rw[Om,YI];rfl
def Cons.full(s:kC O P C)(E:Cons O P C):Full O P C (Tw O):=BZ s (sB _) λj _ h=>E j h
def zI.isp(h:zI O P C):∀o∈O,pR o:=h.2.2.2.1
structure LG(O:V1)(P:V2)(C:V3):Prop where
 pr:zI O P C
 co:Cons O P C
def LG.s(g:LG O P C):kC O P C:=g.pr.shp
def LG.F(g:LG O P C):Full O P C (Tw O):=Cons.full g.s g.co
def LG.cent(g:LG O P C):G4 O C:=trivial
def zC5(g:LG O P C)(E:eQ vO vP vC O P C)(Z:gS O x)(J:FI vx x){k:Int}(U:0<=k/\k<=1000)(Y:∀v,FI v (Grp.pw (gm O P C) (zv O) x k.toNat)->K v σ):
  zA Tp 70 [.agg [vO,vP,vC],vx,.int .i64 k] σ K:=by
 have V:=E.O.one;have W:=E.P.one;have X:=E.C.one;have M:=g.F.g.toMon;have R:¬k<0:=aH
 refine To Tryz.func70 ?_;simp only[Z3,seval,-ae,V,W,X,R];refine zAw g.s (d:=(Tw O)) (i:=0) aH (Z8 g.s aH) M E Z J U λv I=>?_;refine Tq ?_;exact Gh.fin0 (zB σ _) (I.bel _) (Y v I)
end Go.Proofs
namespace Go.Grp
open Go.Ab Go.Lie
variable{d k t:Nat}{O a b x z:V1}{P:V2}{C:V3}
section
variable{g:V1}
def Gp.pw_inv'{α:Type}[Inhabited α]{S:α->Prop}{m:α->α->α}{e z:α}(G:Gp S m e)(E:S z)(k:Nat):Grp.pw m e (mE S m e z) k=mE S m e (Grp.pw m e z k):=by
 have I:=(G.inv_in E).1;refine G.inv_eq (G.pw E k) (G.pw I k) ?_
 induction k with
 |zero=>exact G.l1 G.one
 |succ k ih=>
  show m (m (Grp.pw m e z k) z) (m (Grp.pw m e (mE S m e z) k) (mE S m e z))=e;rw[G.pw_comm I k,<-G.as (G.cl (G.pw E k) E) I (G.pw I k),G.as (G.pw E k) E I,G.inv_r E,G.r1 (G.pw E k),ih]
section
variable(s:kC O P C)(F:Full O P C (Tw O))(hC:G4 O C)
include s F hC
theorem zCA(E:t<Tw O)(R:gS O x)(X:TT O t b)(mH:at_ b t=1):
  gS O (gm O P C x (pw (gm O P C) (zv O) (mE (gS O) (gm O P C) (zv O) b) (at_ x t).toNat))/\gm O P C (gm O P C x (pw (gm O P C) (zv O) (mE (gS O) (gm O P C) (zv O) b) (at_ x t).toNat)) (pw (gm O P C) (zv O) b (at_ x t).toNat)=x/\
  Upto O t (gm O P C x (pw (gm O P C) (zv O) (mE (gS O) (gm O P C) (zv O) b) (at_ x t).toNat)) x/\at_ (gm O P C x (pw (gm O P C) (zv O) (mE (gS O) (gm O P C) (zv O) b) (at_ x t).toNat)) t=0:=by
 have G:=F.g;have U:gS O b:=X.mono (YQ _);have ib:=(G.inv_in U).1;have I:=R.bd t E;have Z:=G.pw U (at_ x t).toNat;have qS:=G.pw ib (at_ x t).toNat;have J:=G.cl R qS;have e:gm O P C (gm O P C x (pw (gm O P C) (zv O) (mE (gS O) (gm O P C) (zv O) b) (at_ x t).toNat)) (pw (gm O P C) (zv O) b (at_ x t).toNat)=x:=by
  rw[G.as R qS Z,G.pw_inv' U,G.inv_l Z,G.r1 R]
 obtain⟨Y,p2⟩:=QG s F hC E X (at_ x t).toNat;refine⟨J,e,?_,?_⟩<;>generalize gm O P C x (pw (gm O P C) (zv O) (mE (gS O) (gm O P C) (zv O) b) (at_ x t).toNat)=w at *
 .obtain⟨V,W⟩:=qd s (d:=(Tw O)) (b:=w) (a:=pw (gm O P C) (zv O) b (at_ x t).toNat) (t:=t) (sB _) aH E (by rw[Yh];exact J) Y;have e':mu O P C (Tw O) w (pw (gm O P C) (zv O) b (at_ x t).toNat)=x:=e;rw[e']at V;exactλj hj=>(V j hj).symm
 .obtain⟨V,W⟩:=qd s (d:=(Tw O)) (b:=w) (a:=pw (gm O P C) (zv O) b (at_ x t).toNat) (t:=t) (sB _) aH E (by rw[Yh];exact J) Y;have e':mu O P C (Tw O) w (pw (gm O P C) (zv O) b (at_ x t).toNat)=x:=e;rw[e',p2,mH,Uz,Yi I.1,Y5 I.1 I.2,zOY]at W;exact zA7 I (J.bd t E) W.symm
end
end
end Go.Grp
namespace Go.Proofs
open Go.Ab Go.Lie Go.Grp
variable{j:Nat}{O x y:V1}{L P:V2}{C:V3}
def wJ.gS(h:wJ O x):gS O x:=⟨h.1,λj E=>by have:=h.2 j (by rw[h.1];exact E);omega,λj E=>aH⟩
section
def zA5{a b:V1}(j:Nat):at_ (a++b) j=if j<(Tw a) then at_ a j else at_ b (j-Tw a):=by
 by_cases h:j<Tw a
 .rw[Iu h,gj h,gj (by rw[cO];omega),Uj h]
 .rw[Iv h];by_cases E:j-Tw a<Tw b
  .rw[gj E,gj (by rw[cO];omega),Uq aH]
  .rw[Hm (v:=a++b) (by rw[cO];omega),Hm (v:=b) aH]
def jW(O:V1):Nat->Int
 |0=>1
 |i+1=>jW O i*at_ O i
def ja(O x:V1):Nat->Int
 |0=>0
 |i+1=>ja O x i*at_ O i+at_ x i
def vj(O:V1):Nat->Nat->V1
 |0,_=>[]
 |c+1,k=>vj O c (k / (at_ O c).toNat)++[((k % (at_ O c).toNat:Nat):Int)]
def ZU(O:V1):∀c k,(vj O c k).length=c
 |0,_=>rfl
 |c+1,k=>by simp[vj,ZU O c]
def zFr{O:V1}(h:∀j,j<Tw O->2<=at_ O j/\at_ O j<=7):∀{c k:Nat},c<=Tw O->∀j,j<c->0<=at_ (vj O c k) j/\at_ (vj O c k) j<at_ O j
 |0,k,hc,j,hj=>by omega
 |c+1,k,hc,j,hj=>by
  have E:=h c aH;rw[vj,zA5,ZU];by_cases e:j<c
  .rw[Iu e];exact zFr h aH j e
  .obtain rfl:j=c:=aH
   rw[Iv e,Yh];show 0<=((k % (at_ O j).toNat:Nat):Int)/\((k % (at_ O j).toNat:Nat):Int)<at_ O j
   have:=Nat.mod_lt k (show 0<(at_ O j).toNat by omega)
   omega
def Za{O:V1}{P:V2}{C:V3}(s:kC O P C)(k:Nat):gS O (vj O (Tw O) k):=
 ⟨ZU _ _ _,λj E=>zFr s.pr (sB _) j E,λj E=>aH⟩
def ZJ{O:V1}(h:∀j,j<Tw O->2<=at_ O j/\at_ O j<=7):∀{i:Nat},i<=Tw O->1<=jW O i/\jW O i<=7 ^ i
 |0,_=>by simp[jW]
 |i+1,hi=>by
  obtain⟨U,E⟩:=ZJ h (i:=i) aH;obtain⟨V,I⟩:=h i aH;have J:=UN (a:=1) (b:=at_ O i) (c:=jW O i) aH aH;have R:=Oq E I aH aH;rw[jW,S1];omega
def pow7{i:Nat}(h:i<=6):(7:Int) ^ i<=117649:=by
 match i,h with
 |0,_=>decide
 |1,_=>decide
 |2,_=>decide
 |3,_=>decide
 |4,_=>decide
 |5,_=>decide
 |6,_=>decide
def ZK{O x:V1}(h:∀j,j<Tw O->2<=at_ O j/\at_ O j<=7)(E:∀j,j<Tw O->0<=at_ x j/\at_ x j<at_ O j):∀{i:Nat},i<=Tw O->0<=ja O x i/\ja O x i<jW O i
 |0,_=>by simp[jW,ja]
 |i+1,hi=>by
  obtain⟨J,U⟩:=ZK h E (i:=i) aH;obtain⟨V,W⟩:=h i aH;obtain⟨X,Y⟩:=E i aH;have R:=UW J (show 0<=at_ O i by omega);have I:=UG (a:=ja O x i+1) (b:=jW O i) (c:=at_ O i) aH aH;rw[Int.add_mul,Ur]at I;rw[jW,ja];omega
variable{σ:dj}{K:PV->dj->Prop}{O:V1}{P:V2}{C:V3}{vO vP vC vx:PV}{x:V1}
def zb(s:kC O P C)(J:eQ vO vP vC O P C)(Y:K (.int .i64 (jW O (Tw O))) σ):zA Tp 58 [.agg [vO,vP,vC]] σ K:=by
 have bB:=s.le;have V:=J.P.one;have W:=J.C.one;obtain⟨⟨R,I,rfl⟩,jU,jV⟩:=J;refine To Tryz.func58 ?_;simp only[Z3,seval,-ae,V,W];have U:(σ.cb [.fz R I (Tw O) (eh O),vP,vC]).gv σ.bY 0=Ik (.fz R I (Tw O) (eh O)):=by simp only[Z3,seval,-ae]
 refine zF (λm vs h'=>∃i:Nat,i<=Tw O/\m=Tw O-i/\vs=[.ptr σ.bY 0,.int .i64 (jW O i),.int .i64 i]/\h'=σ.cb [.fz R I (Tw O) (eh O),vP,vC]) (Tw O) ⟨0,aH,aH,rfl,rfl⟩ ?_
 rintro m vs h' ⟨i,hi,rfl,rfl,rfl⟩
 simp only[Z3,seval,-ae,U];refine Tr (λan=>?_) λE=>?_
 .have dd:i=Tw O:=aH
  subst dd;exact Gh.fin0 (zB σ _) trivial Y
 have hb:=ZJ s.pr (i:=i+1) E;have h7:=pow7 (i:=i+1) aH;have X:=gj E;have Z:jW O i*O[i]=jW O (i+1):=by rw[jW,X]
 have hw:Tu .i64 (jW O i*O[i])=jW O (i+1):=by rw[Z,mn aH aH]
 simp only[Z3,seval,-ae,U,E,gi E,zJ,hw,WX E];exact⟨_,aH,i+1,aH,rfl,rfl⟩
def qU(s:kC O P C)(U:eQ vO vP vC O P C)(I:gS O x)(bX:FI vx x)(hk:K (.int .i64 (ja O x (Tw O))) σ):zA Tp 73 [.agg [vO,vP,vC],vx] σ K:=by
 have bB:=s.le;have du:=I.len;have h1:=U.P.one;have h2:=U.C.one;obtain⟨⟨W,J,rfl⟩,jU,jV⟩:=U;obtain⟨wx,ax,rfl⟩:=bX;refine To Tryz.func73 ?_;simp only[Z3,seval,-ae,h1,h2];have Z:(σ.cb [.fz W J (Tw O) (eh O),vP,vC]).gv σ.bY 0=Ik (.fz W J (Tw O) (eh O)):=by simp only[Z3,seval,-ae]
 refine zF (λm vs h'=>∃i:Nat,i<=Tw O/\m=Tw O-i/\vs=[.fz wx ax (Tw x) (eh x),.ptr σ.bY 0,.int .i64 (ja O x i),.int .i64 i]/\h'=σ.cb [.fz W J (Tw O) (eh O),vP,vC]) (Tw O) ⟨0,aH,aH,rfl,rfl⟩ ?_
 rintro m vs h' ⟨i,hi,rfl,rfl,rfl⟩
 simp only[Z3,seval,-ae,Z];refine Tr (λan=>?_) λR=>?_
 .have dd:i=Tw O:=aH
  subst dd;exact Gh.fin0 (zB σ _) trivial hk
 have E:i<Tw O:=aH
 have hb:=ZJ s.pr (i:=i+1) E;have h7:=pow7 (i:=i+1) aH;have D4:=ZK s.pr I.bd (i:=i+1) E;have mH:=ZJ s.pr (i:=i) hi;have SX:=pow7 (i:=i) aH;have GH:=ZK s.pr I.bd (i:=i) hi;have Y:=I.bd i E;have V:=gj E;have X:=gj R;have hm:ja O x i*O[i] + x[i]=ja O x (i+1):=by rw[ja,V,X]
 rw[X]at Y;rw[V]at Y;have kU:0<=ja O x i*O[i]:=by
  have:=(s.pr i E).1
  rw[V]at this;exact UW GH.1 aH
 have BP:Tu .i64 (ja O x i*O[i])=ja O x i*O[i]:=WE;have hw:Tu .i64 (ja O x i*O[i] + x[i])=ja O x (i+1):=by rw[hm,mn aH aH]
 simp only[Z3,seval,-ae,Z,R,E,gi R,gi E,zJ,BP,hw,WX E];exact⟨_,aH,i+1,aH,rfl,rfl⟩
end
def zCK(s:kC O P C)(X:gS O x)(Y:gS O y)(h:ja O x (Tw O)=ja O y (Tw O)):x=y:=by
 have key:∀i,i<=Tw O->ja O x i=ja O y i->∀j,j<i->at_ x j=at_ y j:=by
  intro i
  induction i with
  |zero=>intro _ _ j hj;omega
  |succ i ih=>
   intro W I j hj;have R:=X.bd i W;have J:=Y.bd i W;simp only[ja]at I;have U:at_ x i=at_ y i:=by
    have V:(ja O x i*at_ O i+at_ x i) % at_ O i=at_ x i:=by
     rw[Uf,Int.add_mul_emod_self_right,Y5 R.1 R.2]
    have E:(ja O y i*at_ O i+at_ y i) % at_ O i=at_ y i:=by
     rw[Uf,Int.add_mul_emod_self_right,Y5 J.1 J.2]
    rw[<-V,<-E,I]
   rcases YY j i with h|h
   .refine ih aH ?_ j h;rw[U]at I;have Z:ja O x i*at_ O i=ja O y i*at_ O i:=aH
    exact Int.eq_of_mul_eq_mul_right aH Z
   .have:j=i:=aH
    rw[this];exact U
 exact X.ext Y λj V E=>key _ (sB _) h j E
abbrev BS:=V2×V2
def vst(s:BS)(y w:V1):BS:=if y∈s.1 then s else(s.1++[y],s.2++[w])
def nxt(O:V1)(P:V2)(C:V3)(L:V2)(a w:V1):Nat->BS->BS
 |0,s=>s
 |j+1,s=>vst (nxt O P C L a w j s) (gm O P C a (L.getD j [])) (w++[(j:Int)+1])
def pY(O:V1)(P:V2)(C:V3)(L:V2):Nat->BS
 |0=>([zv O],[[]])
 |k+1=>nxt O P C L ((pY O P C L k).1.getD k []) ((pY O P C L k).2.getD k []) (Tw L) (pY O P C L k)
structure OkS(O:V1)(P:V2)(C:V3)(L:V2)(s:BS):Prop where
 len:(Tw s.2)=Tw s.1
 nd:s.1.Nodup
 mem:∀y∈s.1,GC O P C L y
 one:zv O∈s.1
 ws:∀i (h:i<Tw s.2),s.2[i].length<=i
def PrS(s t:BS):Prop:=s.1 <+:t.1/\s.2 <+:t.2
def PrS.refl(s:BS):PrS s s:=⟨List.prefix_refl _,List.prefix_refl _⟩
def PrS.trans{s t u:BS}(a:PrS s t)(b:PrS t u):PrS s u:=⟨a.1.trans b.1,a.2.trans b.2⟩
def zMe(s:BS)(y w:V1):PrS s (vst s y w):=by
 unfold vst;split
 .exact PrS.refl s
 .exact⟨List.prefix_append _ _,List.prefix_append _ _⟩
def zQG(s:BS)(y w:V1):y∈(vst s y w).1:=by
 unfold vst;split
 .assumption
 .simp
def zFO(a w:V1)(s:BS):∀j,PrS s (nxt O P C L a w j s)
 |0=>PrS.refl s
 |j+1=>(zFO a w s j).trans (zMe _ _ _)
def zE8:∀{k m:Nat},k<=m->PrS (pY O P C L k) (pY O P C L m)
 |k,0,h=>by
  have:k=0:=aH
  subst this;exact PrS.refl _
 |k,m+1,h=>by
  rcases YY k (m+1)with x|x
  .exact(zE8 (aH:k<=m)).trans (zFO _ _ _ _)
  .have:k=m+1:=aH
   subst this;exact PrS.refl _
def zDf{α:Type}{a b:List α}(h:a <+:b){i:Nat}{v:α}(E:a[i]? = Ik v):b[i]? = Ik v:=by
 obtain⟨t,rfl⟩:=h;have I:i<Tw a:=by
  rcases YY i (Tw a) with x|x
  .exact x
  .rw[YN x]at E;cases E
 rw[YC I];exact E
def OkS.vst{s:BS}(o:OkS O P C L s){y w:V1}(U:GC O P C L y)(R:(Tw w)<=Tw s.1):OkS O P C L (vst s y w):=by
 unfold Go.Proofs.vst;split
 .exact o
 .rename_i J;refine⟨by simp[o.len],?_,λz hz=>?_,Ni _ o.one,λi h=>?_⟩
  .rw[LD];exact⟨o.nd,bj,λa E b I e=>J (by rw[<-YW.1 I,<-e];exact E)⟩
  .rcases YZ.1 hz with hz|hz
   .exact o.mem z hz
   .rw[YW.1 hz];exact U
  .simp only[cO,YF,Ov]at h;rw[List.getElem_append];split
   .exact o.ws i _
   .have:i=Tw s.2:=aH
    subst this;simp only[Yh,List.getElem_cons_zero,o.len];exact R
def OkS.nxt{s:BS}(F:Full O P C (Tw O))(o:OkS O P C L s)(I:∀l∈L,gS O l){a w:V1}(J:GC O P C L a)(R:(Tw w)+1<=Tw s.1):∀{j},j<=Tw L->OkS O P C L (nxt O P C L a w j s)
 |0,_=>o
 |j+1,hj=>by
  have E:j<Tw L:=hj;refine(OkS.nxt F o I J R (aH:j<=Tw L)).vst ?_ ?_
  .have hl:L.getD j []∈L:=by
    rw[YK,na E];exact ss E
   exact(GC.sub F I).cl J (GC.mem hl)
  .rw[cO,Yk]
   have:=(zFO (O:=O) (P:=P) (C:=C) (L:=L) a w s j).1.length_le
   omega
def OkS.pY(s:kC O P C)(F:Full O P C (Tw O))(I:∀l∈L,gS O l):∀{k:Nat},(∀i,i<k->i<(pY O P C L i).1.length)->OkS O P C L (pY O P C L k)
 |0,_=>⟨rfl,by simp[Go.Proofs.pY],λy R=>by rw[YW.1 R];exact(GC.sub F I).one,by simp[Go.Proofs.pY],λi h=>by
   simp only[Go.Proofs.pY,YF,Ov]at h
   have:i=0:=aH
   subst this;simp[Go.Proofs.pY]⟩
 |k+1,hk=>by
  have o:=OkS.pY s F I (k:=k) λi U=>hk i aH;have E:=hk k aH;have J:k<(Go.Proofs.pY O P C L k).2.length:=by rw[o.len];exact E
  refine o.nxt F I ?_ ?_ (sB _)
  .rw[YK,na E];exact o.mem _ (ss E)
  .rw[YK,na J]
   have:=o.ws k J
   simp only[NP];omega
def OkS.bound(s:kC O P C)(F:Full O P C (Tw O))(Y:∀l∈L,gS O l){t:BS}(o:OkS O P C L t):(Tw t.1:Int)<=jW O (Tw O):=by
 have inS:∀y∈t.1,gS O y:=λy E=>(GC.sub F Y).inS (o.mem y E);have I:∀y∈t.1,0<=ja O y (Tw O)/\ja O y (Tw O)<jW O (Tw O):=λy E=>ZK s.pr (λj Z=>(inS y E).bd j Z) (sB _);have V:(t.1.map λy=>(ja O y (Tw O)).toNat).Nodup:=by
  rw[List.Nodup,N0];refine o.nd.imp_of_mem λ{a b} J R U he=>U (zCK s (inS a J) (inS b R) ?_)
  have:=I a J
  have:=I b R
  omega
 have W:(t.1.map λy=>(ja O y (Tw O)).toNat)⊆Iw (jW O (Tw O)).toNat:=λk hk=>by
  obtain⟨y,E,rfl⟩:=YD.1 hk
  have:=I y E
  exact Yd.2 aH
 have X:=List.Nodup.length_le_of_subset V W;rw[Yj,Ux]at X
 have:=(ZJ s.pr (sB _)).1
 omega
def zKc(a w:V1)(s:BS):∀{j m:Nat},m<j->gm O P C a (L.getD m [])∈(nxt O P C L a w j s).1
 |j+1,m,h=>by
  rcases YY m j with x|x
  .exact(zMe _ _ _).1.subset (zKc a w s x)
  .have:m=j:=aH
   subst this;exact zQG _ _ _
def zOm{k:Nat}(X:∀i,i<k->i<(pY O P C L i).1.length)(Z:(pY O P C L k).1.length<=k){y g:V1}(Y:y∈(pY O P C L k).1)(V:g∈L):gm O P C y g∈(pY O P C L k).1:=by
 obtain⟨i,W,rfl⟩:=YE.1 Y;obtain⟨j,R,rfl⟩:=YE.1 V;have E:i<k:=aH
 have I:=X i E;have e:(pY O P C L i).1.getD i []=(pY O P C L k).1[i]:=by
  have:=zDf (zE8 (O:=O) (P:=P) (C:=C) (L:=L) (Ye E)).1 (na I)
  rw[na W]at this;rw[YK,na I,NP];exact(Option.some.inj this).symm
 have U:gm O P C ((pY O P C L i).1.getD i []) (L.getD j [])∈(pY O P C L (i+1)).1:=zKc _ _ _ R;have J:=(zE8 (O:=O) (P:=P) (C:=C) (L:=L) (show i+1<=k by omega)).1.subset U;rw[e,YK,na R]at J;exact J
def zQP(s:kC O P C)(F:Full O P C (Tw O))(hC:G4 O C)(I:∀l∈L,gS O l){k:Nat}(V:∀i,i<k->i<(pY O P C L i).1.length)(Z:(pY O P C L k).1.length<=k)(X:GC O P C L x):x∈(pY O P C L k).1:=by
 have o:=OkS.pY s F I V;have G:=F.g;have inS:∀y∈(pY O P C L k).1,gS O y:=λy U=>(GC.sub F I).inS (o.mem y U);have Y:=zAW (O:=O) (P:=P) (C:=C) s F hC (N:=λy=>gS O y/\∀z∈(pY O P C L k).1,gm O P C z y∈(pY O P C L k).1) (λy U=>U.1) ⟨s.zv _,λz E=>by rw[G.r1 (inS z E)];exact E⟩ (λa b J R=>⟨G.cl J.1 R.1,λz E=>by
  rw[<-G.as (inS z E) J.1 R.1];exact R.2 _ (J.2 z E)⟩)
 have:=(X _ Y λl W=>⟨I l W,λz E=>zOm V Z E W⟩).2 _ o.one
 rwa[G.l1 ((GC.sub F I).inS X)]at this
structure Fnd(O:V1)(P:V2)(C:V3)(L:V2)(x:V1)(k:Nat):Prop where
 hit:(pY O P C L k).1[k]? = Ik x
 miss:∀i,i<k->(pY O P C L i).1[i]?≠Ik x
 lt:∀i,i<k->i<(pY O P C L i).1.length
def zNd(s:kC O P C)(F:Full O P C (Tw O))(hC:G4 O C)(R:∀l∈L,gS O l){k:Nat}(J:∀i,i<k->i<(pY O P C L i).1.length)(W:∀i,i<k->(pY O P C L i).1[i]?≠Ik x)(U:(pY O P C L k).1.length<=k):¬GC O P C L x:=λX=>by
 have h:=zQP s F hC R J U X;obtain⟨i,V,rfl⟩:=YE.1 h;have E:i<k:=aH
 refine W i E ?_;have I:=J i E
 have:=zDf (zE8 (O:=O) (P:=P) (C:=C) (L:=L) (Ye E)).1 (na I)
 rw[na V]at this;rw[na I,this]
end Go.Proofs
namespace Go.Mx
open Go.Ab Go.Lie Go.Grp
variable{p:Int}{n:Nat}{v:V1}{A B:V2}
structure Ve(p:Int)(n:Nat)(v:V1):Prop where
 len:(Tw v)=n
 bd:∀j,0<=at_ v j/\at_ v j<p
def Ma(p:Int)(n:Nat)(A:V2):Prop:=∀r∈A,Ve p n r
def row(A:V2)(i:Nat):V1:=A.getD i []
def xw(p:Int)(x:Int)(r out:V1):V1:=List.zipWith (λo b=>(o+x*b) % p) out r
def EY(p:Int)(n:Nat)(v:V1)(A:V2):Nat->V1
 |0=>Jf n 0
 |i+1=>xw p (at_ v i) (row A i) (EY p n v A i)
abbrev vt(p:Int)(n:Nat)(v:V1)(A:V2):V1:=EY p n v A (Tw v)
def mm(p:Int)(n:Nat)(A B:V2):V2:=A.map λr=>vt p n r B
def Ma.row(h:Ma p n A){i:Nat}(E:i<Tw A):Ve p n (Mx.row A i):=by
 have:Mx.row A i=A[i]:=by simp[Mx.row,YK,na E]
 rw[this];exact h _ (ss E)
def HI{i:Nat}(E:i<Tw A):Mx.row A i=A[i]:=by simp[Mx.row,YK,na E]
def Qj{x:Int}{r out:V1}(h:(Tw r)=Tw out):(xw p x r out).length=Tw out:=by simp[xw,h]
def zOd{x:Int}{r out:V1}(h:(Tw r)=Tw out){j:Nat}(E:j<Tw out):at_ (xw p x r out) j=(at_ out j+x*at_ r j) % p:=by
 have I:j<(xw p x r out).length:=by rw[Qj h];exact E
 rw[gj I,gj E,gj (aH:j<Tw r)];simp[xw]
def Zp(E:Ma p n A):∀{i:Nat},i<=Tw A->(EY p n v A i).length=n
 |0,_=>by simp[EY]
 |i+1,hi=>by
  rw[EY,Qj]
  .exact Zp E aH
  .rw[Zp E aH];exact(E.row aH).len
def zKJ(R:0<p)(E:Ma p n A){j:Nat}(I:j<n):∀{i:Nat},i<=Tw A->at_ (EY p n v A i) j=(sumN i λk=>at_ v k*at_ (Mx.row A k) j) % p
 |0,_=>by rw[EY,ZV,sumN,Int.zero_emod]
 |i+1,hi=>by
  have J:=Zp (v:=v) E (i:=i) aH;rw[EY,zOd (by rw[J];exact(E.row aH).len) (by rw[J];exact I),zKJ R E I aH,sumN,Int.emod_add_emod]
def zKI(J:0<p)(E:Ma p n A){i:Nat}(I:i<=Tw A):Ve p n (EY p n v A i):=by
 refine⟨Zp E I,λj=>?_⟩;rcases YY j n with h|h
 .rw[zKJ J E h I];exact⟨UE _ aH,UP _ J⟩
 .rw[Hm (by rw[Zp E I];exact h)];omega
def vt_ve(I:0<p)(E:Ma p n A)(J:(Tw v)=Tw A):Ve p n (vt p n v A):=zKI I E aH
def zBL:(mm p n A B).length=Tw A:=by simp[mm]
def mm_ma(U:0<p)(I:Ma p (Tw B) A)(J:Ma p n B):Ma p n (mm p n A B):=by
 intro r E;simp only[mm,YD]at E;obtain⟨a,R,rfl⟩:=E;exact vt_ve U J (I a R).len
def Sq(p:Int)(n:Nat)(A:V2):Prop:=(Tw A)=n/\Ma p n A
section
def gT(x:V1):Nat->V1
 |0=>[]
 |i+1=>gT x i++Jf (nx x i) ((i:Int)+1)
abbrev nw(x:V1):V1:=gT x (Tw x)
def Bq{x:V1}{n:Nat}:∀{i:Nat},i<=n->∀l∈gT x i,1<=l/\l<=(n:Int)
 |0,_,l,hl=>by cases hl
 |i+1,hi,l,hl=>by
  rw[gT,YZ]at hl;rcases hl with hl|hl
  .exact Bq aH l hl
  .have:=UZ hl;omega
def tP{x:V1}{b:Nat}(E:∀j,nx x j<=b):∀(i:Nat),(gT x i).length<=i*b
 |0=>by simp[gT]
 |i+1=>by
  have:=tP E i
  have:=E i
  rw[gT,cO,YT,La];omega
variable{C:V3}
def Hn(C:V3)(i k:Nat):V1×V1:=([((i+k:Nat):Int)+2,(i:Int)+1],((i:Int)+1)::nw ((C.getD i []).getD k []))
end
end Go.Mx
namespace Go.Grp
open Go.Ab Go.Lie
variable{w:List Nat}{d i j k t:Nat}{O x:V1}{P:V2}{C:V3}
section
def wf(x:V1):Nat->Nat->List Nat
 |t,0=>[]
 |t,d+1=>Jf (nx x t) t++wf x (t+1) d
def gT(O x:V1):List Nat:=wf x 0 (Tw O)
def In(O:V1)(i:Nat)(w:List Nat):Prop:=∀a∈w,i<=a/\a<Tw O
section T
variable(s:kC O P C)(B:Full O P C d)
include s B
end T
def zQF(h:∀j,t<=j->j<t+k->nx x j=0):∀{c},wf x t (k+c)=wf x (t+k) c:=by
 induction k generalizing t with
 |zero=>intro c;rw[Y4,Y6]
 |succ k ih=>
  intro c;rw[show k+1+c=(k+c)+1 by omega,wf,h t (sB _) aH,RP,Yn,ih (λj a b=>h j aH aH),show t+1+k=t+(k+1) by omega]
def zPb(E:TT O t x)(J:t<=Tw O):gT O x=wf x t (Tw O-t):=by
 unfold gT
 have:=zQF (x:=x) (t:=0) (k:=t) (λj _ I=>by show(at_ x j).toNat=0;rw[E.zero j aH];rfl) (c:=(Tw O)-t)
 rw[show t+(Tw O-t)=(Tw O) by omega,Y4]at this;exact this
def wf_in:∀{c t:Nat},∀a∈wf x t c,t<=a/\a<t+c
 |0,t,a,ha=>by cases ha
 |c+1,t,a,ha=>by
  rw[wf,YZ]at ha;rcases ha with ha|ha
  .rw[UZ ha];omega
  .have:=wf_in (c:=c) (t:=t+1) a ha;omega
def Bq(J:TT O t x)(I:t<=Tw O):In O t (gT O x):=by
 rw[zPb J I];intro a E
 have:=wf_in a E
 omega
end
end Go.Grp
namespace Go.Proofs
open Go.Ab Go.Lie Go.Grp Go.Mx
variable{p:Int}
def zRg{α:Type}{a b:List α}{i:Nat}(J:(Tw a)=Tw b)(I:i<Tw a):(a.take i++b.drop i).set i a[i]=a.take (i+1)++b.drop (i+1):=by
 have E:(a.take i).length=i:=by rw[Ym];omega
 rw[List.set_append_right _ _ aH,E,Yh,Pa (aH:i<Tw b),List.set_cons_zero,YV I,YH];rfl
def zRh{α:Type}{a b:List α}{i:Nat}(J:(Tw a)=Tw b)(I:i<Tw b):(a.take i++b.drop i)[i]? = Ik b[i]:=by
 have E:(a.take i).length=i:=by rw[Ym];omega
 rw[Yz aH,E,Y0,Yh,Y6,na I]
def zMd{x:Int}{r out:V1}(h:(Tw r)=Tw out){j:Nat}(E:j<Tw out):(xw p x r out)[j]'(by rw[Qj h];exact E)=(out[j] + x*r[j]) % p:=by
 simp[xw]
def sm6{a b:Int}(I:0<=a/\a<=6)(E:0<=b/\b<=6):0<=a*b/\a*b<=36:=by
 have J:=UW I.1 E.1;have R:=Oq I.2 E.2 E.1 Tx;omega
end Go.Proofs
namespace Go.Proofs
open Go.Ab Go.Lie Go.Grp Go.Mx
variable{p:Int}{n:Nat}{A B:V2}
def zQ4{i:Nat}(E:i<Tw A):(mm p n A B).take (i+1)=(mm p n A B).take i++[vt p n A[i] B]:=by
 rw[YV (by rw[zBL];exact E)];simp[mm]
end Go.Proofs
namespace Go.Proofs
open Go.Ab Go.Lie Go.Grp Go.Mx
variable{σ:dj}{K:PV->dj->Prop}{p:Int}{n:Nat}{v:V1}{A B:V2}{vA vB vv:PV}
def zJ8(hp:2<=p/\p<=7)(J:Ma p n A)(V:Ve p (Tw A) v)(hn:n<=8)(lu:(Tw A)<=8)(BR:hK vA A)(lE:FI vv v)(hk:∀z,FI z (vt p n v A)->K z σ):
  zA Tp 196 [.int .i64 p,vv,vA,.int .i64 n] σ K:=by
 have vh:=V.len;obtain⟨wv,av,rfl⟩:=lE;obtain⟨wA,Y,rA,rfl,yo⟩:=BR;have hl:=(vt_ve (aH:0<p) J V.len).len;refine zA.gh ?_;refine ZY mix Tryz.func196 ?_;simp only[Z3,seval,-ae,YT,zi,E4 (n:=n) aH,zx (n:=n) aH];refine zF (λm vs h'=>∃i:Nat,i<=Tw v/\m=Tw v-i/\vs=[.int .i64 p,.fz wv av (Tw v) (eh v),.fz wA Y (Tw A) rA,.sl σ.bY 0 n (.cm n),.int .i64 i]/\h'=σ.cb (eh (EY p n v A i))) (Tw v) ?_ ?_
 .exact⟨0,aH,aH,rfl,rfl⟩
 rintro m vs h' ⟨i,hi,rfl,rfl,rfl⟩
 by_cases I:i<Tw v;rotate_left
 .have dd:i=Tw v:=aH
  subst dd;simp only[Z3,seval,-ae,Uy];exact Gh.finF (s:=σ.bY) (zB σ _) (by refine Tq ?_;rfl) (sB _) (zO _ _) (show kv (.cm n) n=Im by simp[kv]) λo=>hk _ ⟨Im,.sl o 0 n (.cm n),by rw[hl]⟩
 have E:i<Tw A:=aH
 obtain⟨w4,a4,hr⟩:=yo.rowI E;have U:=J.row E;rw[HI E]at U;have dR:=U.len;have ub:=Zp (v:=v) J (i:=i) aH;have DY:=zKI (v:=v) (aH:0<p) J (i:=i) aH;have bx:=V.bd i;rw[gj I]at bx;have gk:EY p n v A (i+1)=xw p v[i] A[i] (EY p n v A i):=by rw[EY,gj I,HI E]
 generalize Ot:EY p n v A i=acc at *
 have X:(xw p v[i] A[i] acc).length=Tw acc:=Qj aH;simp only[Z3,seval,-ae,I,E];refine zF (λm vs h'=>∃j:Nat,j<=n/\m=n-j/\vs=[.int .i64 p,.fz wv av (Tw v) (eh v),.fz wA Y (Tw A) rA,.sl σ.bY 0 n (.cm n),.int .i64 i,.int .i64 j]/\h'=σ.cb (eh ((xw p v[i] A[i] acc).take j++acc.drop j))) n ?_ ?_
 .exact⟨0,aH,aH,rfl,by rw[UO,J0,Yn]⟩
 rintro m vs h' ⟨j,hj,rfl,rfl,rfl⟩
 by_cases Z:j<n;rotate_left
 .have Hd:j=n:=aH
  subst Hd;simp only[Z3,seval,-ae,Uy,WX I];refine⟨_,aH,i+1,aH,rfl,rfl,?_⟩;grind
 have W:j<A[i].length:=aH
 have R:j<Tw acc:=aH
 have c1:=U.bd j;have c2:=DY.bd j;rw[gj W]at c1;rw[gj R]at c2;have c3:=sm6 (a:=v[i]) (b:=A[i][j]) aH aH;have e1:=zRh X R;have hlen:j+1<=((xw p v[i] A[i] acc).take j++acc.drop j).length:=by simp;omega
 have Du:Tu .i64 (v[i] * A[i][j])=v[i] * A[i][j]:=WE;have uB:Tu .i64 (acc[j] + v[i] * A[i][j])=acc[j] + v[i] * A[i][j]:=WE;have sZ:¬p=0:=aH
 have et:(acc[j] + v[i] * A[i][j]).tmod p=(acc[j] + v[i] * A[i][j]) % p:=Yf aH;have SD:=UE (acc[j] + v[i] * A[i][j]) sZ;have Od:=UP (acc[j] + v[i] * A[i][j]) (aH:0<p);have IK:Tu .i64 ((acc[j] + v[i] * A[i][j]) % p)=(acc[j] + v[i] * A[i][j]) % p:=WE;simp only[Z3,seval,-ae,Z,E,hr,W,I,zJ,zK,gi I,gi W,e1,hlen,Du,uB,sZ,et,IK,WX Z];refine⟨_,aH,j+1,aH,rfl,rfl,?_⟩;rw[zq (by simp;omega)];have NU:j<(xw p v[i] A[i] acc).length:=aH
 rw[<-zRg X NU,zMd aH R]
def zHF(hp:2<=p/\p<=7)(hA:Ma p (Tw B) A)(hB:Ma p n B)(hn:n<=8)(tA:(Tw B)<=8)(lu:(Tw A)<=8)(W:hK vA A)(J:hK vB B)(hk:∀v,hK v (mm p n A B)->K v σ):
  zA Tp 162 [.int .i64 p,vA,vB,.int .i64 n] σ K:=by
 have h2:=J.one;have X:=J;obtain⟨wA,aA,rA,rfl,yo⟩:=W;refine To Tryz.func162 ?_;refine Tq ?_;refine zF (λm vs h'=>∃(i:Nat) (vC:PV) (rows:List PV),i<=Tw A/\m=Tw A-i/\vs=[.int .i64 p,.fz wA aA (Tw A) rA,vB,.int .i64 n,vC,.int .i64 i]/\dq σ h'/\ft σ.bY 1 h' vC i rows/\ez FI rows ((mm p n A B).take i)) (Tw A) ?_ ?_
 .exact⟨0,_,[],aH,aH,rfl,zB σ _,ft.cb _ 1 rfl (sB _),by rw[UO];exact ez.nil _⟩
 rintro m vs h' ⟨i,vC,rows,hi,rfl,rfl,R,U,I⟩
 refine Tq ?_;refine Tr (λan=>?_) λE=>?_
 .have dd:i=Tw A:=aH
  subst dd;rw[YU (by rw[zBL];exact sB _)]at I;exact U.fin R (I.bI 0) λo cap=>hk _ ⟨Im,_,rows,by rw[zBL],I⟩
 obtain⟨w4,Z,hr⟩:=yo.rowI E;have aE:=hA _ (ss E);simp only[Z3,seval,-ae,E,hr];refine zJ8 hp hB aE hn tA X ⟨w4,Z,rfl⟩ λz V=>?_;have ig:=V;obtain⟨wz,az,rfl⟩:=V;refine Tq ?_;refine ft.push (bytes:=24) R U aH aH λv' h2 k2 Y=>?_;simp only[Z3,seval,-ae,WX E];refine⟨_,aH,i+1,v',_,aH,rfl,rfl,k2,Y,?_⟩;rw[zQ4 E];exact I.snoc ig
end Go.Proofs
namespace Go.Proofs
open Go.Ab Go.Lie Go.Grp Go.Mx
variable{σ:dj}{K:PV->dj->Prop}{x:V1}{vx:PV}{vC:PV}
def zLi(i k:Nat):gT x i++Jf (k+1) ((i:Int)+1)=(gT x i++Jf k ((i:Int)+1))++[(i:Int)+1]:=by
 rw[Oj,YH]
def zG6(V:∀j,0<=at_ x j/\at_ x j<=7)(hl:(Tw x)<=6)(Y:FI vx x)(hk:ResI σ K (nw x)):zA Tp 92 [vx] σ K:=by
 obtain⟨W,R,rfl⟩:=Y;have mi:∀i,i<=Tw x->(gT x i).length<=42:=λi hi=>by
  have:=tP (x:=x) (b:=7) (λj=>by have:=V j;unfold nx;omega) i
  omega
 refine To Tryz.func92 ?_;refine Tq ?_;refine zF (λm vs h'=>∃(i:Nat) (vC:PV),i<=Tw x/\m=Tw x-i/\vs=[vC,.fz W R (Tw x) (eh x),.int .i64 (Tw x),.int .i64 i]/\dq σ h'/\fB σ.bY 1 h' vC (gT x i).length (eh (gT x i))) (Tw x) ?_ ?_
 .exact⟨0,_,aH,aH,rfl,dq.refl σ,fB.nil _ _ _⟩
 rintro m vs h' ⟨i,vC,hi,rfl,rfl,E,I⟩
 refine Tq ?_;refine Tr (λan=>?_) λJ=>?_
 .have dd:i=Tw x:=aH
  subst dd;exact I.res E rfl hk
 have Z:=V i;have U:((nx x i:Nat):Int)=x[i]:=by
  unfold nx;rw[Yi Z.1,gj J]
 have Sm:nx x i<=7:=by unfold nx;omega
 simp only[Z3,seval,-ae,J,gi J,zJ];refine zF (λm vs h'=>∃(k:Nat) (vC:PV),k<=nx x i/\m=nx x i-k/\vs=[vC,.int .i64 i,.fz W R (Tw x) (eh x),.int .i64 (Tw x),.int .i64 i,.int .i64 x[i],.int .i64 k]/\dq σ h'/\fB σ.bY 1 h' vC (gT x i++Jf k ((i:Int)+1)).length (eh (gT x i++Jf k ((i:Int)+1)))) (nx x i) ?_ ?_
 .exact⟨0,vC,aH,aH,rfl,E,by simpa using I⟩
 clear I E vC
 rintro m vs h' ⟨k,vC,cB,rfl,rfl,E,I⟩
 rw[<-U];refine Tq ?_;refine fi (λJ3=>?_) λN5=>?_
 .have GY:k<nx x i:=aH
  have hb:=mi i aH;have hlen:(gT x i++Jf k ((i:Int)+1)).length<=60:=by simp;omega
  have ew:Tu .i64 ((i:Int)+1)=(i:Int)+1:=WE;have uB:Tu .i64 ((k:Int)+1)=((k+1:Nat):Int):=lG GY aH;simp only[Z3,seval,-ae,ew];refine fB.push (bytes:=8) (σb:=σ) E I aH aH λv' h2 k2 X=>?_;simp only[Z3,seval,-ae,uB];refine⟨nx x i-(k+1),aH,k+1,v',aH,rfl,by rw[U],k2,?_⟩;rw[zLi]
  have:=X.acc
  simpa [eh,Y9]using this
 .have lh:k=nx x i:=aH
  subst lh;simp only[Z3,seval,-ae,WX J];exact⟨_,aH,i+1,vC,aH,rfl,rfl,E,I⟩
end Go.Proofs
namespace Go.Proofs
open Go.Ab Go.Lie Go.Grp Go.Mx
variable{σ:dj}{K:PV->dj->Prop}{v x:V1}{vx:PV}
def zCa(R:∀j,0<=at_ x j/\at_ x j<=7)(J:(Tw x)<=6)(E:FI vx x)(I:∀v,FI v (nw x)->K v σ):zA Tp 92 [vx] σ K:=
 zA.fzI (λK'=>zG6 R J E) λa=>I _ ⟨_,_,rfl⟩
end Go.Proofs
namespace Go.Proofs
open Go.Ab Go.Lie Go.Grp Go.Mx
abbrev sg:=V1×V2×V3
def re:List (PV×PV×PV)->List PV
 |[]=>[]
 |q::r=>q.1::q.2.1::q.2.2::re r
def qV:∀rows:List (PV×PV×PV),(re rows).length=3*Tw rows
 |[]=>rfl
 |q::r=>by simp only[re,YF,qV r];omega
def zAj:∀{rows:List (PV×PV×PV)} {k:Nat} (E:k<Tw rows),((re rows).drop (k*3)).take 3=[rows[k].1,rows[k].2.1,rows[k].2.2]
 |q::r,0,_=>rfl
 |q::r,k+1,E=>by
  rw[show(k+1)*3=k*3+1+1+1 by omega];simp only[re,List.drop_succ_cons,List.getElem_cons_succ];exact zAj (rows:=r) (by simpa using E)
def FI3(q:PV×PV×PV)(g:sg):Prop:=eQ q.1 q.2.1 q.2.2 g.1 g.2.1 g.2.2
def FG(v:PV)(G:List sg):Prop:=∃w a rows,v=.fz w a (Tw G) (re rows)/\ez FI3 rows G
def FG.one{v:PV}{G:List sg}(h:FG v G):v.one=Im:=by obtain⟨w,a,r,rfl,_⟩:=h;rfl
def FG.cells{v:PV}{G:List sg}(h:FG v G):v.cells=[v]:=by obtain⟨w,a,r,rfl,_⟩:=h;rfl
def FG.bel{v:PV}{G:List sg}(h:FG v G)(n:Nat):DA n v:=by obtain⟨w,a,r,rfl,_⟩:=h;trivial
def zBy{rows:List (PV×PV×PV)}{G:List sg}(h:ez FI3 rows G):ko 0 (re rows):=by
 rw[Zl];intro c U
 have:∀{rows:List (PV×PV×PV)},c∈re rows->∃q∈rows,c=q.1\/c=q.2.1\/c=q.2.2:=by
  intro rows
  induction rows with
  |nil=>intro h;cases h
  |cons q r ih=>
   intro h;simp only[re,Yq]at h;rcases h with h|h|h|h
   .exact⟨q,bj,.inl h⟩
   .exact⟨q,bj,.inr (.inl h)⟩
   .exact⟨q,bj,.inr (.inr h)⟩
   .obtain⟨X,J,R⟩:=ih h;exact⟨X,by simp[J],R⟩
 obtain⟨q,W,V⟩:=this U;obtain⟨k,I,rfl⟩:=YE.1 W;have E:eQ rows[k].1 rows[k].2.1 rows[k].2.2 _ _ _:=h.2 k _ _ (na I) (na (by rw[<-h.1];exact I));rcases V with rfl|rfl|rfl
 .exact E.O.bel 0
 .exact E.P.bel 0
 .exact E.C.bel 0
structure SzG(G:List sg):Prop where
 l:(Tw G)<=1048576
 r:∀g∈G,ti g.1 g.2.1 g.2.2
def Bh(k:Int):Int:=if k=5 then 3 else if k=4 then 2 else if 1<=k/\k<=6 then 1 else -1
def zm(k:Int)(G:List sg)(L:V2):Prop:=
 Bh k=Tw G/\Tw L<=32/\(∀g∈G,zI g.1 g.2.1 g.2.2)/\∀l∈L,(Tw l)<=128/\∀x∈l,-1000000<=x/\x<=1000000
variable{σ:dj}{K:PV->dj->Prop}{k:Int}{G:List sg}{L:V2}{vG vL:PV}{s:Nat}
def zIN(E:K (.int .i64 (Bh k)) σ):zA Tp 45 [.int .i64 k] σ K:=by
 unfold Bh at E;refine Tn Tryz.func45 ?_;by_cases J:k=5
 .subst J;refine Tq ?_;exact E
 by_cases I:k=4
 .subst I;refine Tq ?_;exact E
 rw[Iv J,Iv I]at E;by_cases R:k=1
 .subst R;refine Tq ?_;exact E
 by_cases U:k=2
 .subst U;refine Tq ?_;exact E
 by_cases V:k=3
 .subst V;refine Tq ?_;exact E
 by_cases W:k=6
 .subst W;refine Tq ?_;exact E
 rw[Iv aH]at E;simp only[Z3,seval,-ae,R,U,V,I,J,W];exact E
def zFg(R:1<=k/\k<=6)(E:K (.int .i64 (Bh k)) σ):zA Tp 39 [.int .i64 k] σ K:=by
 unfold Bh at E;refine Tn Tryz.func39 ?_;by_cases J:k=5
 .subst J;refine Tq ?_;exact E
 by_cases I:k=4
 .subst I;refine Tq ?_;exact E
 rw[Iv J,Iv I,Iu R]at E;simp only[Z3,seval,-ae,I,J];exact E
def Qa(hs:σ.cd s=Ik [.int .i64 k,vG,vL])(hG:FG vG G)(jz:SzG G)(hL:hK vL L)(eu:CV L)(hk:∀t:Bool,(t=Im↔zm k G L)->K (.bool t) σ):zA Tp 16 [.ptr s 0] σ K:=by
 have fl:=@Ts
 obtain⟨wG,aG,R,rfl,gZ⟩:=hG;obtain⟨wL,aL,rL,rfl,kP⟩:=hL;have X:σ.gv s 0=Ik (.int .i64 k):=by rw[zH hs];rfl
 have Z:σ.gv s 1=Ik (.fz wG aG (Tw G) (re R)):=by rw[zH hs];rfl
 have e2:σ.gv s 2=Ik (.fz wL aL (Tw L) rL):=by rw[zH hs];rfl
 have LX:=jz.l;have Jh:=eu.l;refine zA.pwf λwf=>zA.gh ?_;have tU:s<σ.bY:=wf.lt hs;have no:∀{σ':dj},¬zm k G L->dq σ σ'->Gh σ K (.bool false) σ':=λh kk=>Gh.fin0 kk trivial (hk _ (fl h));refine ZY mix Tryz.func16 ?_;simp only[Z3,seval,-ae,X];refine zDF ?_;by_cases Y:1<=k/\k<=6;rotate_left
 .simp only[Z3,seval,-ae,Y,X,Z,e2];refine no (λh=>Y ?_) (dq.refl σ)
  have:=h.1
  unfold Bh at this;by_cases h5:k=5
  .omega
  by_cases h4:k=4
  .omega
  rw[Iv h5,Iv h4,Iv Y]at this;omega
 simp only[Z3,seval,-ae,Y,X,Z,e2];refine zFg Y ?_;by_cases I:(Tw G:Int)=Bh k;rotate_left
 .simp only[Z3,seval,-ae,X,Z,e2,I];exact no (λh=>I h.1.symm) (dq.refl σ)
 by_cases J:(Tw L)<=32;rotate_left
 .have cu:(32:Int)<(Tw L:Int):=aH
  simp only[Z3,seval,-ae,X,Z,e2,eq_true I,cu];exact no (λh=>J h.2.1) (dq.refl σ)
 have cu:¬(32:Int)<(Tw L:Int):=aH
 simp only[Z3,seval,-ae,X,Z,e2,eq_true I,cu];refine zF (λm U h'=>∃i:Nat,i<=Tw G/\m=Tw G-i/\U=[.ptr s 0,.fz wG aG (Tw G) (re R),.int .i64 (Tw G),.int .i64 i]/\dq σ h'/\∀g∈G.take i,zI g.1 g.2.1 g.2.2) (Tw G) ?_ ?_
 .exact⟨0,aH,aH,rfl,dq.refl σ,bj⟩
 rintro m U h' ⟨i,hi,rfl,rfl,V,W⟩
 have PY:h'.gv s 2=Ik (.fz wL aL (Tw L) rL):=by rw[zH ((V.cd _ tU).trans hs)];rfl
 refine Tq ?_;refine fi (λE=>?_) λan=>?_
 .have mD:i<Tw R:=by rw[gZ.1];exact E
  have lO:=zAj mD;have h3:3<=(re R).length-i*3:=by have:=qV R;omega
  have hp:eQ R[i].1 R[i].2.1 R[i].2.2 G[i].1 G[i].2.1 G[i].2.2:=gZ.2 i _ _ (na mD) (na E);simp only[Z3,seval,-ae,E,lO,h3,hp.O.one,hp.P.one,hp.C.one,Ys];refine QK hp (jz.r _ (ss E)) λt ht=>?_;cases t with
  |false=>
   refine Tq ?_;exact no (λh=>by cases ht.2 (h.2.2.1 _ (ss E))) (V.cb _)
  |true=>
   simp only[Z3,seval,-ae,WX E];refine⟨_,aH,i+1,aH,rfl,rfl,V.cb _,λg I=>?_⟩;rw[YV E,YZ,YW]at I;rcases I with I|rfl
   .exact W g I
   .exact ht.1 rfl
 have pQ:∀g∈G,zI g.1 g.2.1 g.2.2:=λg I=>W g (by rwa[YU aH]);simp only[Z3,seval,-ae,PY];refine zF (λm U h2=>∃i:Nat,i<=Tw L/\m=Tw L-i/\U=[.fz wL aL (Tw L) rL,.int .i64 (Tw L),.int .i64 i]/\h'=h2/\∀l∈L.take i,(Tw l)<=128/\∀x∈l,-1000000<=x/\x<=1000000) (Tw L) ?_ ?_
 .exact⟨0,aH,aH,rfl,rfl,bj⟩
 clear hi an W i
 rintro m U h2 ⟨i,hi,rfl,rfl,rfl,W⟩
 refine Tq ?_;refine Tr (λan=>?_) λE=>?_
 .exact Gh.fin0 V trivial (hk _ ⟨λ_=>⟨I.symm,J,pQ,λl J=>W l (by rwa[YU aH])⟩,λ_=>rfl⟩)
 obtain⟨w4,a4,hr⟩:=kP.rowI E;have hb:=eu.r _ (ss E);by_cases jx:L[i].length<=128;rotate_left
 .have h':(128:Int)<(L[i].length:Int):=aH
  simp only[Z3,seval,-ae,E,hr,h'];exact no (λh=>jx (h.2.2.2 _ (ss E)).1) V
 have si:¬(128:Int)<(L[i].length:Int):=aH
 simp only[Z3,seval,-ae,E,hr,si];refine zF (λm U h2=>∃q:Nat,q<=L[i].length/\m=L[i].length-q/\U=[.fz wL aL (Tw L) rL,.int .i64 (Tw L),.int .i64 i,.fz w4 a4 L[i].length (eh L[i]),.int .i64 L[i].length,.int .i64 q]/\h'=h2/\∀x∈L[i].take q,-1000000<=x/\x<=1000000) L[i].length ?_ ?_
 .exact⟨0,aH,aH,rfl,rfl,bj⟩
 rintro m U h2 ⟨q,hq,rfl,rfl,rfl,kE⟩
 refine Tq ?_;refine Tr (λN3=>?_) λkX=>?_
 .simp only[Z3,seval,-ae,WX E];refine⟨_,aH,i+1,aH,rfl,rfl,λl J=>?_⟩;rw[YV E,YZ,YW]at J;rcases J with J|rfl
  .exact W l J
  .exact⟨jx,λx hx=>kE x (by rwa[YU aH])⟩
 simp only[Z3,seval,-ae,kX,gi kX,zJ];refine zDF ?_;by_cases hv:-1000000<=L[i][q]/\L[i][q]<=1000000
 .simp only[Z3,seval,-ae,hv,WX kX];exact⟨_,aH,q+1,aH,rfl,rfl,Q8 kX kE hv⟩
 .simp only[Z3,seval,-ae,hv];exact no (λh=>hv ((h.2.2.2 _ (ss E)).2 _ (ss kX))) V
def zE0(E:FG vG G)(X:SzG G)(I:hK vL L)(J:CV L)(V:∀t:Bool,(t=Im↔zm k G L)->K (.bool t) σ):zA Tp 8 [.agg [.int .i64 k,vG,vL]] σ K:=by
 have R:=E.one;have U:=I.one;refine To Tryz.func8 ?_;simp only[Z3,seval,-ae,R,U];refine Qa (k:=k) (by simp only[Z3,seval,-ae]) E X I J λt W=>?_;refine Tq ?_;exact Gh.fin0 (zB σ _) trivial (V _ W)
def zDu(hG:FG vG G)(jz:SzG G)(hL:hK vL L)(eu:CV L)(hk:∀t:Bool,(t=Im↔zm k G L)->K (.bool t) σ):zA Tp 18 [.agg [.int .i64 k,vG,vL]] σ K:=by
 have fl:=@Ts
 obtain⟨wG,aG,J,rfl,gZ⟩:=hG;obtain⟨wL,aL,rL,rfl,kP⟩:=hL;refine zA.gh ?_;generalize hH:σ.cb [.int .i64 k,.fz wG aG (Tw G) (re J),.fz wL aL (Tw L) rL]=H;have aJ:dq σ H:=by rw[<-hH];exact zB σ _
 have hs:H.cd σ.bY=Ik [.int .i64 k,.fz wG aG (Tw G) (re J),.fz wL aL (Tw L) rL]:=by rw[<-hH];simp only[Z3,seval,-ae]
 have e0:H.gv σ.bY 0=Ik (.int .i64 k):=by rw[zH hs];rfl
 have X:H.gv σ.bY 1=Ik (.fz wG aG (Tw G) (re J)):=by rw[zH hs];rfl
 have R:H.gv σ.bY 2=Ik (.fz wL aL (Tw L) rL):=by rw[zH hs];rfl
 have LX:=jz.l;have Jh:=eu.l;have no:¬zm k G L->Gh σ K (.bool false) H:=λh=>Gh.fin0 aJ trivial (hk _ (fl h));refine Tn Tryz.func18 ?_;refine Tq ?_;rw[hH];simp only[Z3,seval,-ae,e0,X];refine zIN ?_;by_cases I:Bh k=(Tw G:Int);rotate_left
 .simp only[Z3,seval,-ae,e0,X,R,I];exact no (λh=>I h.1)
 by_cases U:(Tw L)<=32;rotate_left
 .have cu:(32:Int)<(Tw L:Int):=aH
  simp only[Z3,seval,-ae,e0,X,R,eq_true I,cu];exact no (λh=>U h.2.1)
 have cu:¬(32:Int)<(Tw L:Int):=aH
 simp only[Z3,seval,-ae,e0,X,R,eq_true I,cu];refine zF (λm V h'=>∃i:Nat,i<=Tw G/\m=Tw G-i/\V=[.ptr σ.bY 0,.int .i64 i]/\H=h'/\∀g∈G.take i,zI g.1 g.2.1 g.2.2) (Tw G) ?_ ?_
 .exact⟨0,aH,aH,rfl,rfl,bj⟩
 rintro m V h' ⟨i,hi,rfl,rfl,rfl,W⟩
 simp only[Z3,seval,-ae,X];refine fi (λE=>?_) λan=>?_
 .have mD:i<Tw J:=by rw[gZ.1];exact E
  have lO:=zAj mD;have h3:3<=(re J).length-i*3:=by have:=qV J;omega
  have hp:eQ J[i].1 J[i].2.1 J[i].2.2 G[i].1 G[i].2.1 G[i].2.2:=gZ.2 i _ _ (na mD) (na E);simp only[Z3,seval,-ae,X,E,lO,h3,hp.O.one,hp.P.one,hp.C.one,Ys];refine qJ hp (jz.r _ (ss E)) λt ht=>?_;cases t with
  |false=>
   refine Tq ?_;exact no (λh=>by cases ht.2 (h.2.2.1 _ (ss E)))
  |true=>
   simp only[Z3,seval,-ae,WX E];refine⟨_,aH,i+1,aH,rfl,rfl,λg I=>?_⟩;rw[YV E,YZ,YW]at I;rcases I with I|rfl
   .exact W g I
   .exact ht.1 rfl
 have pQ:∀g∈G,zI g.1 g.2.1 g.2.2:=λg I=>W g (by rwa[YU aH]);refine Tq ?_;refine zF (λm V Y=>∃i:Nat,i<=Tw L/\m=Tw L-i/\V=[.ptr σ.bY 0,.int .i64 i]/\H=Y/\∀l∈L.take i,(Tw l)<=128/\∀x∈l,-1000000<=x/\x<=1000000) (Tw L) ?_ ?_
 .exact⟨0,aH,aH,rfl,rfl,bj⟩
 clear hi an W i
 rintro m V Y ⟨i,hi,rfl,rfl,rfl,W⟩
 simp only[Z3,seval,-ae,R];refine Tr (λan=>?_) λE=>?_
 .exact Gh.fin0 aJ trivial (hk _ ⟨λ_=>⟨I,U,pQ,λl U=>W l (by rwa[YU aH])⟩,λ_=>rfl⟩)
 obtain⟨w4,a4,hr⟩:=kP.rowI E;have hb:=eu.r _ (ss E);by_cases jx:L[i].length<=128;rotate_left
 .have h':(128:Int)<(L[i].length:Int):=aH
  simp only[Z3,seval,-ae,R,E,hr,h'];exact no (λh=>jx (h.2.2.2 _ (ss E)).1)
 have si:¬(128:Int)<(L[i].length:Int):=aH
 simp only[Z3,seval,-ae,R,E,hr,si];refine zF (λm V Y=>∃q:Nat,q<=L[i].length/\m=L[i].length-q/\V=[.ptr σ.bY 0,.int .i64 i,.int .i64 q]/\H=Y/\∀x∈L[i].take q,-1000000<=x/\x<=1000000) L[i].length ?_ ?_
 .exact⟨0,aH,aH,rfl,rfl,bj⟩
 rintro m V Y ⟨q,hq,rfl,rfl,rfl,kE⟩
 simp only[Z3,seval,-ae,R,E,hr];refine Tr (λN3=>?_) λZ=>?_
 .simp only[Z3,seval,-ae,WX E];refine⟨_,aH,i+1,aH,rfl,rfl,λl U=>?_⟩;rw[YV E,YZ,YW]at U;rcases U with U|rfl
  .exact W l U
  .exact⟨jx,λx hx=>kE x (by rwa[YU aH])⟩
 simp only[Z3,seval,-ae,R,E,hr,Z,gi Z,zJ];refine QZ ?_;by_cases hv:-1000000<=L[i][q]/\L[i][q]<=1000000
 .simp only[Z3,seval,-ae,hv,WX Z];exact⟨_,aH,q+1,aH,rfl,rfl,Q8 Z kE hv⟩
 .simp only[Z3,seval,-ae,hv];exact no (λh=>hv ((h.2.2.2 _ (ss E)).2 _ (ss Z)))
end Go.Proofs
namespace Go.Lat
structure Tb(N:Nat)(T:Nat->Nat->Nat):Prop where
 pos:0<N
 lt:∀{a b},a<N->b<N->T a b<N
 assoc:∀{a b c},a<N->b<N->c<N->T (T a b) c=T a (T b c)
 one:∀{a},a<N->T 0 a=a
 oner:∀{a},a<N->T a 0=a
variable{N:Nat}{T:Nat->Nat->Nat}{S S':Nat->Prop}
inductive Cl(T:Nat->Nat->Nat)(S:Nat->Prop):Nat->Prop
 |one:Cl T S 0
 |mul {a b:Nat}:Cl T S a->S b->Cl T S (T a b)
def Cl.lt(t:Tb N T)(E:∀i,S i->i<N){a:Nat}(h:Cl T S a):a<N:=by
 induction h with
 |one=>exact t.pos
 |mul _ hb ih=>exact t.lt ih (E _ hb)
def Cl.mulC(t:Tb N T)(E:∀i,S i->i<N){a b:Nat}(I:Cl T S a)(J:Cl T S b):Cl T S (T a b):=by
 induction J with
 |one=>rw[t.oner (I.lt t E)];exact I
 |mul h1 h2 ih=>rw[<-t.assoc (I.lt t E) (h1.lt t E) (E _ h2)];exact .mul ih h2
def Cl.of(t:Tb N T)(E:∀i,S i->i<N){a:Nat}(h:S a):Cl T S a:=by
 rw[<-t.one (E _ h)];exact .mul .one h
def Cl.mono(h:∀i,S i->S' i){a:Nat}(E:Cl T S a):Cl T S' a:=by
 induction E with
 |one=>exact .one
 |mul _ hb ih=>exact .mul ih (h _ hb)
def Cl.twice(t:Tb N T)(E:∀i,S i->i<N){a:Nat}(h:Cl T (Cl T S) a):Cl T S a:=by
 induction h with
 |one=>exact .one
 |mul _ hb ih=>exact ih.mulC t E hb
def Cl.sub(t:Tb N T)(E:∀i,S i->i<N)(h:∀i,S' i->Cl T S i){a:Nat}(I:Cl T S' a):Cl T S a:=(I.mono h).twice t E
def mset(p:Nat->Bool):Nat->Nat
 |0=>0
 |n+1=>mset p n ||| (if p n=Im then 2 ^ n else 0)
def zIG(p:Nat->Bool):∀n i,(mset p n).testBit i=(decide (i<n) && p i)
 |0,i=>by simp[mset]
 |n+1,i=>by
  rw[mset,Nat.testBit_or,zIG p n i];by_cases I:i=n
  .subst I;by_cases E:p i=Im
   .simp[E,Nat.testBit_two_pow_self]
   .simp[E]
  .have h2:(if p n=Im then 2 ^ n else 0).testBit i=false:=by
    split
    .rw[Nat.testBit_two_pow];simp;omega
    .simp
   rw[h2,Bool.or_false];congr 1;simp only[decide_eq_decide];omega
def zGG(p:Nat->Bool):∀n,mset p n<2 ^ n
 |0=>by simp[mset]
 |n+1=>by
  have:=zGG p n
  rw[mset];refine Nat.or_lt_two_pow (by rw[Nat.pow_succ];omega) ?_;split
  .rw[Nat.pow_succ];have:=Nat.two_pow_pos n;omega
  .exact Nat.two_pow_pos _
def zJB{a b:Nat}(h:∀i,a.testBit i=Im↔b.testBit i=Im):a=b:=
 Nat.eq_of_testBit_eq λi=>by rw[Bool.eq_iff_iff];exact h i
def zAP{m N i:Nat}(E:m<2 ^ N)(h:m.testBit i=Im):i<N:=by
 rcases YY i N with q|q
 .exact q
 .rw[Nat.testBit_lt_two_pow (YO E (O9 aH q))]at h;cases h
structure SubM(N:Nat)(T:Nat->Nat->Nat)(m:Nat):Prop where
 lt:m<2 ^ N
 zero:m.testBit 0=Im
 mul:∀a b,m.testBit a=Im->m.testBit b=Im->m.testBit (T a b)=Im
def DC(N:Nat)(T:Nat->Nat->Nat)(S:Nat->Prop)(m:Nat):Prop:=m<2 ^ N/\∀i,m.testBit i=Im↔Cl T S i
def DC.sub(t:Tb N T)(E:∀i,S i->i<N){m:Nat}(g:DC N T S m):SubM N T m:=
 ⟨g.1,(g.2 0).2 .one,λa b I J=>(g.2 _).2 (((g.2 a).1 I).mulC t E ((g.2 b).1 J))⟩
def DC.unique{m E:Nat}(g:DC N T S m)(I:DC N T S E):m=E:=zJB λi=>(g.2 i).trans (I.2 i).symm
def DC.congr{m:Nat}(g:DC N T S m)(h:∀i,Cl T S i↔Cl T S' i):DC N T S' m:=⟨g.1,λi=>(g.2 i).trans (h i)⟩
open Classical in
noncomputable def ext(N:Nat)(T:Nat->Nat->Nat)(m x:Nat):Nat:=mset (λi=>decide (Cl T (λj=>m.testBit j=Im\/j=x) i)) N
def zKp(t:Tb N T){m x:Nat}(I:m<2 ^ N)(J:x<N):DC N T (λj=>m.testBit j=Im\/j=x) (ext N T m x):=by
 refine⟨zGG _ _,λi=>?_⟩;unfold ext;rw[zIG];simp only[Yt,decide_eq_true_eq];refine⟨λh=>h.2,λh=>⟨h.lt t λj E=>?_,h⟩⟩;rcases E with E|rfl
 .exact zAP I E
 .exact J
def zSD(m x:Nat):ext N T m x<2 ^ N:=zGG _ _
noncomputable def ins(N:Nat)(T:Nat->Nat->Nat)(m:Nat)(L:List Nat)(x:Nat):List Nat:=
 if m.testBit x=Im then L else if ext N T m x∈L then L else L++[ext N T m x]
noncomputable def inner(N:Nat)(T:Nat->Nat->Nat)(m:Nat):Nat->Nat->List Nat->List Nat
 |0,_,L=>L
 |k+1,x,L=>inner N T m k (x+1) (ins N T m L x)
noncomputable def outer(N:Nat)(T:Nat->Nat->Nat):Nat->Nat->List Nat->List Nat
 |0,_,L=>L
 |f+1,i,L=>match L[i]? with
  |none=>L
  |some m=>outer N T f (i+1) (inner N T m N 0 L)
noncomputable def allM(N:Nat)(T:Nat->Nat->Nat):List Nat:=outer N T (2 ^ N) 0 [1]
structure LOK(N:Nat)(T:Nat->Nat->Nat)(L:List Nat):Prop where
 nd:L.Nodup
 sub:∀m∈L,SubM N T m
def zCw:∀(n:Nat) (L:List Nat),L.Nodup->(∀m∈L,m<n)->(Tw L)<=n
 |0,L,_,h=>by
  cases L with
  |nil=>exact sB _
  |cons a r=>exact absurd (h a bj) aH
 |n+1,L,hn,h=>by
  have I:=zCw n (L.erase n) (hn.erase n) λm E=>by
   have J:=h m (List.mem_of_mem_erase E);have R:m≠n:=((List.Nodup.mem_erase_iff hn).1 E).1;omega
  by_cases E:n∈L
  .rw[List.length_erase_of_mem E]at I;omega
  .rw[List.erase_of_not_mem E]at I;omega
def LOK.len{L:List Nat}(h:LOK N T L):(Tw L)<=2 ^ N:=zCw _ _ h.nd λm E=>(h.sub m E).lt
def zRI(t:Tb N T){m x:Nat}(I:m<2 ^ N)(J:x<N):SubM N T (ext N T m x):=(zKp t I J).sub t λj E=>by
 rcases E with E|rfl
 .exact zAP I E
 .exact J
def LOK.ins(t:Tb N T){L:List Nat}(h:LOK N T L){m x:Nat}(J:m<2 ^ N)(U:x<N):LOK N T (ins N T m L x):=by
 unfold Lat.ins;split
 .exact h
 .split
  .exact h
  .rename_i R;refine⟨LD.2 ⟨h.nd,bj,λa E b I=>?_⟩,λa E=>?_⟩
   .simp only[YW]at I;subst I;exactλe=>R (e ▸ E)
   .simp only[YZ,YW]at E;rcases E with E|rfl
    .exact h.sub a E
    .exact zRI t J U
def LOK.inner(t:Tb N T){m:Nat}(E:m<2 ^ N):∀(k x:Nat) {L:List Nat},x+k<=N->LOK N T L->LOK N T (inner N T m k x L)
 |0,_,_,_,h=>h
 |k+1,x,L,hx,h=>LOK.inner t E k (x+1) aH (h.ins t E aH)
def LOK.outer(t:Tb N T):∀(f i:Nat) {L:List Nat},LOK N T L->LOK N T (outer N T f i L)
 |0,_,_,h=>h
 |f+1,i,L,h=>by
  unfold Lat.outer;split
  .exact h
  .rename_i m E;exact LOK.outer t f (i+1) (LOK.inner t (h.sub m (Ub E)).lt N 0 aH h)
def zKa(t:Tb N T):LOK N T [1]:=by
 refine⟨bj,λm J=>?_⟩;simp only[YW]at J;subst J;have R:∀i,Nat.testBit 1 i=Im↔i=0:=λi=>by simp[Px]
 refine⟨?_,rfl,λa b E I=>?_⟩
 .have:=Pk (show 1<2 by omega) t.pos
  simpa using this
 .rw[R]at E I ⊢;rw[E,I];exact t.one t.pos
def zJH(t:Tb N T):LOK N T (allM N T):=LOK.outer t _ _ (zKa t)
def zLh{L:List Nat}(f:Nat){i:Nat}(h:(Tw L)<=i):outer N T f i L=L:=by
 cases f with
 |zero=>rfl
 |succ f=>rw[outer,YN h]
def zLg{L:List Nat}{i f m:Nat}(E:L[i]? = Ik m)(I:0<f):outer N T f i L=outer N T (f-1) (i+1) (inner N T m N 0 L):=by
 obtain⟨f,rfl⟩:∃g,f=g+1:=⟨f-1,aH⟩
 rw[outer,E];rfl
end Go.Lat
namespace Go.Proofs.YtjcghjopopohiaaGreatDoor
open Go.ChangeShapes Go.WideShapes Go.ChangeAt Go.RowKit Go.Ab Go.Joins Go.Lie Go.Proofs
def own:ownKnob Tryz.prog.godebug=none:=by kernel_rfl
def laidOut:laidOutB Tp=Im:=by kernel_rfl
end Go.Proofs.YtjcghjopopohiaaGreatDoor
namespace Go.Proofs
open Go.Ab Go.Lie
variable{σ:dj}{K:PV->dj->Prop}{m:Nat}{vL:PV}{v:V1}{xs:V2}
def Zh(W:hK vL xs)(sz:CV xs)(X:∀v,hK v xs->K v σ):zA Tp 35 [vL] σ K:=by
 have hb:=sz.l;obtain⟨wl,al,rl,rfl,V⟩:=W;refine To Tryz.func35 ?_;refine Tq ?_;refine zF (λm vs h'=>∃i v rows,i<=Tw xs/\m=Tw xs-i/\vs=[.fz wl al (Tw xs) rl,v,.int .i64 (i:Nat)]/\dq σ h'/\ft σ.bY 1 h' v i rows/\ez FI rows (xs.take i)) (Tw xs) ?_ ?_
 .exact⟨0,_,[],aH,aH,rfl,zB σ _,ft.cb σ.bY 1 rfl (sB _),by simpa using ez.nil _⟩
 .rintro m vs h' ⟨i,v,rows,hi,rfl,rfl,J,R,I⟩
  refine Tq ?_;refine fi (λE=>?_) λan=>?_
  .obtain⟨w4,a4,Y⟩:=V.rowI E;simp only[Z3,seval,-ae,E,Y];refine zA.fz (e:=1) (λK'=>zl rfl (by have:=sz.r _ (ss E);omega)) (zO _ _) λo cap=>?_;refine Tq ?_;refine ft.push (bytes:=24) (σb:=σ) J R aH aH λv2 h2 Z U=>?_;simp only[Z3,seval,-ae,WX E];refine⟨_,aH,i+1,v2,_,aH,rfl,rfl,Z,U,?_⟩;rw[YV E];exact I.snoc ⟨_,_,rfl⟩
  .have dd:i=Tw xs:=aH
   subst dd;rw[YP]at I;exact R.fin J (I.bI 0) λo cap=>X _ ⟨_,_,_,rfl,I⟩
end Go.Proofs
namespace Go.Proofs
open Go.Ab Go.Lie Go.Grp
variable{σ h h':dj}{K:PV->dj->Prop}{O:V1}{P:V2}{C:V3}{vO vP vC vx vL v c x:PV}{xs:V2}{b m t:Nat}{cs ds:List PV}
def _root_.Go.Ab.dq.keepOf2{σ T h:dj}{E:List PV}(k:dq (T.cb E) h)(I:dq σ T):dq σ h:=(I.cb E).trans k
def PT(b:Nat)(h:dj)(v:PV)(m:Nat)(cs:List PV):Prop:=
 (v=Tt/\m=0/\cs=[])\/∃s off cap row,v=.sl s off m cap/\(cap=.grown 1\/∃c,cap=.cm c/\m<=c/\off+c<=Tw row)/\h.cd s=Ik row/\(row.drop off).take m=cs/\off+m<=Tw row/\b<=s/\s<h.bY
def PT.len(a:PT b h v m cs):(Tw cs)=m:=by
 rcases a with ⟨_,rfl,rfl⟩|⟨s,off,cap,row,rfl,I,J,E,R,U,V⟩
 .rfl
 .rw[<-E,Ym,Ys];omega
def PT.of(a:ft b 1 h v m cs):PT b h v m cs:=by
 obtain⟨s,cap,rfl,E,I,U,J,R⟩:=a;refine .inr ⟨s,0,cap,cs,rfl,?_,I,by rw[J0,YU aH],aH,J,R⟩;rcases E with rfl|rfl
 .exact .inl rfl
 .exact .inr ⟨m,rfl,sB _,aH⟩
def PT.set(a:PT b h v m cs)(W:t<b)(ds:List PV):PT b (h.set t ds) v m cs:=by
 rcases a with a|⟨s,off,cap,row,rfl,E,I,J,R,U,V⟩
 .exact .inl a
 .exact .inr ⟨s,off,cap,row,rfl,E,by rw[zG,Iv aH];exact I,J,R,U,V⟩
def PT.nN(a:PT b h v m cs):nN v=Ik (.int .i64 m):=by
 rcases a with ⟨rfl,rfl,_⟩|⟨s,off,cap,row,rfl,_⟩<;>rfl
def PT.unsnoc(a:PT b h v (m+1) (cs++[c])):∃s off cap X,v=.sl s off (m+1) cap/\h.gv s (off+m)=Ik c/\Ql 1 v none (Ik (.int .i64 m)) none=Ik X/\PT b h X m cs:=by
 have Z:=a.len;rcases a with ⟨_,e,_⟩|⟨s,off,cap,row,rfl,Y,E,R,h4,U,V⟩
 .cases e
 have hlen:(Tw cs)=m:=by simpa using Z
 have J:row[off+m]? = Ik c:=by
  have e:((row.drop off).take (m+1))[m]? = Ik c:=by
   rw[R,Yz aH,hlen,Yh];rfl
  rw[R9 aH,Y0]at e;exact e
 have I:(row.drop off).take m=cs:=by
  have e:((row.drop off).take (m+1)).take m=cs:=by rw[R,UU aH,YU aH]
  rw[List.take_take,Oh aH]at e;exact e
 have W:(m:Int)<=((m+1:Nat):Int):=aH
 rcases Y with rfl|⟨k,rfl,bm,jr⟩
 .refine⟨s,off,_,.sl s off m (.grown 1),rfl,by rw[zH E];exact J,?_,.inr ⟨s,off,_,row,rfl,.inl rfl,E,I,aH,U,V⟩⟩;simp only[Z3,seval,-ae,W];rfl
 .have NO:(m:Int)<=(k:Int):=aH
  refine⟨s,off,_,.sl s off m (.cm k),rfl,by rw[zH E];exact J,?_,.inr ⟨s,off,_,row,rfl,.inr ⟨k,rfl,aH,jr⟩,E,I,aH,U,V⟩⟩;simp only[Z3,seval,-ae,W,NO];rw[Iu (show m<=k by omega)];simp
def PT.push{σb:dj}{bytes:Nat}{K:PV×dj->Prop}(eB:x.one=Im)(E:dq σb h)(a:PT σb.bY h v m cs)
  (R:(m+1)*bytes<=140737488355328) (U:m+1<=4611686018427387904) (k:∀J h',dq σb h'->PT σb.bY h' J (m+1) (cs++[x])->K (J,h')):iU (zW 1 bytes (h.cb [x]) v (.sl h.bY 0 1 (.cm 1))) K:=by
 have I:=a.len;rcases a with ⟨rfl,rfl,rfl⟩|⟨s,off,cap,row,rfl,q1,q2,X,q4,Y,q6⟩
 .exact fB.push E (fB.nil _ _ _) R U λJ h' k1 k2=>k J h' k1 (.of k2)
 rw[ZM];have hp:q8 1 (h.cb [x]) (.sl h.bY 0 1 (.cm 1)) 1=Ik [x]:=by simp[qO,ZC]
 have W:(h.cb [x]).cd s=Ik row:=by simp only[dj.cb];rw[Iv aH];exact q2
 have hn:=E.bY;simp only[BO,YG];rw[Iv aH,hp];simp only[YG];rcases q1 with rfl|⟨c,rfl,c1,c2⟩
 .rw[zBT,Iu ⟨R,U,rfl⟩,W];simp only[YG];rw[Iu aH,KE,X];refine qo rfl (k _ _ (((E.cb _).kill aH).cb _) (.inr ⟨(h.cb [x]).bY,0,_,cs++[x],rfl,.inl rfl,by simp[dj.cb,dj.kill],?_,by simp[I],by simp[dj.cb];omega,by simp[dj.cb,dj.kill]⟩));rw[J0,YU (by simp[I])]
 .rw[zBS];by_cases V:m+1<=c
  .rw[Iu V,KE,zL W,Iu ⟨by simp;omega,by simp[eB]⟩];simp only[Kc,Yk];refine qo rfl (k _ _ ((E.cb _).set Y _) (.inr ⟨s,off,_,_,rfl,.inr ⟨c,rfl,V,?_⟩,by rw[zG,Iu rfl],?_,?_,Y,Lk q6⟩))
   .simp;omega
   .have e1:(row.take (off+m)).length=off+m:=by simp;omega
    rw[YH,UX aH,List.take_append,show((row.take (off+m)).drop off).length=m by simp;omega];have Z:(row.take (off+m)).drop off=cs:=by
     rw[<-X,Jc];congr 1;omega
    rw[Z,YU aH,show m+1-m=1 by omega];simp
   .simp;omega
  .rw[Iv V,Iu ⟨R,U⟩,zN W,Iu aH,KE,X];simp only[Kc];refine qo rfl (k _ _ ((E.cb _).cb _) (.inr ⟨(h.cb [x]).bY,0,_,cs++[x],rfl,.inl rfl,by simp[dj.cb],?_,by simp[I],by simp[dj.cb];omega,by simp[dj.cb]⟩));rw[J0,YU (by simp[I])]
def zAI(W:hK vL xs)(sz:CV xs)(X:∀v h' rows,dq σ h'->ft σ.bY 1 h' v (Tw xs) rows->ez FI rows xs->K v h'):zA Tp 35 [vL] σ K:=by
 have hb:=sz.l;obtain⟨wl,al,rl,rfl,V⟩:=W;refine Tn Tryz.func35 ?_;refine Tq ?_;refine zF (λm vs h'=>∃i v rows,i<=Tw xs/\m=Tw xs-i/\vs=[.fz wl al (Tw xs) rl,v,.int .i64 (i:Nat)]/\dq σ h'/\ft σ.bY 1 h' v i rows/\ez FI rows (xs.take i)) (Tw xs) ?_ ?_
 .exact⟨0,_,[],aH,aH,rfl,zB σ _,ft.cb σ.bY 1 rfl (sB _),by simpa using ez.nil _⟩
 .rintro m vs h' ⟨i,v,rows,hi,rfl,rfl,J,R,I⟩
  refine Tq ?_;refine fi (λE=>?_) λan=>?_
  .obtain⟨w4,a4,Y⟩:=V.rowI E;simp only[Z3,seval,-ae,E,Y];refine zA.fz (e:=1) (λK'=>zl rfl (by have:=sz.r _ (ss E);omega)) (zO _ _) λo cap=>?_;refine Tq ?_;refine ft.push (bytes:=24) (σb:=σ) J R aH aH λv2 h2 Z U=>?_;simp only[Z3,seval,-ae,WX E];refine⟨_,aH,i+1,v2,_,aH,rfl,rfl,Z,U,?_⟩;rw[YV E];exact I.snoc ⟨_,_,rfl⟩
  .have dd:i=Tw xs:=aH
   subst dd;rw[YP]at I;exact X _ _ rows J R I
def zGo(E:hK vL xs)(sz:CV xs)(I:∀v h' rows,dq σ h'->PT σ.bY h' v (Tw xs) rows->ez FI rows xs->K v h'):zA Tp 35 [vL] σ K:=zAI E sz λv h' rows k a r=>I v h' rows k (.of a) r
def zCP{x:V1}{vx:PV}(g:LG O P C)(E:eQ vO vP vC O P C)(V:gS O x)(X:FI vx x){k:Int}(Z:-1000<=k/\k<0)(hk:∀v,FI v (Grp.pw (gm O P C) (zv O) (mE (gS O) (gm O P C) (zv O) x) (-k).toNat)->K v σ):
  zA Tp 70 [.agg [vO,vP,vC],vx,.int .i64 k] σ K:=by
 have J:=E.O.one;have R:=E.P.one;have U:=E.C.one;have M:=g.F.g.toMon;have Y:k<0:=Z.2;have W:Tu .i64 (0-k)=-k:=WQ
 refine To Tryz.func70 ?_;simp only[Z3,seval,-ae,J,R,U,Y];refine zBM g.s g.co E V X λv I=>?_;simp only[Z3,seval,-ae,J,R,U,W];refine zAw g.s (d:=(Tw O)) (i:=0) aH (Z8 g.s aH) M E (g.F.g.inv_in V).1 I aH λv I=>?_;refine Tq ?_;exact Gh.fin0 (zB σ _) (I.bel _) (hk v I)
end Go.Proofs
namespace Go.Proofs
open Go.Ab Go.Lie
structure LS where
 s:Nat
 cap:nK
 cs:List PV
end Go.Proofs
namespace Go.Proofs
open Go.Ab Go.Lie
variable{σ σ0 σ1:dj}{K:PV->dj->Prop}{vC:PV}{bs:V1}{s:Nat}{a sd:Int}
def FB(v:PV)(bs:V1):Prop:=∃w a,v=.fz w a (Tw bs) (bs.map (.int .u8))
structure Byt(bs:V1):Prop where
 len:(Tw bs)<=1048576
 bd:∀b∈bs,0<=b/\b<=255
abbrev xr(vC:PV)(a:Nat)(sd:Int):List PV:=[vC,.int .i64 (a:Int),.int .i64 sd]
structure Src(σ:dj)(s:Nat)(vC:PV)(bs:V1)(a:Nat)(sd:Int):Prop where
 cd:σ.cd s=Ik (xr vC a sd)
 lt:s<σ.bY
 fb:FB vC bs
 byt:Byt bs
 le:a<=Tw bs
 sd:0<=sd/\sd<2147483647
def FB.one{v:PV}(h:FB v bs):v.one=Im:=by obtain⟨w,a,rfl⟩:=h;rfl
def FB.cells{v:PV}(h:FB v bs):v.cells=[v]:=by obtain⟨w,a,rfl⟩:=h;rfl
def FB.bel{v:PV}(h:FB v bs)(n:Nat):DA n v:=by obtain⟨w,a,rfl⟩:=h;trivial
def FB.bels{v:PV}(h:FB v bs)(n a:Nat)(sd:Int):ko n (xr v a sd):=⟨h.bel n,Is,Is,Is⟩
def Gh.setS{v:PV}{s:Nat}{V J:List PV}(R:σ0.cd s=Ik V)(hb:ko 0 J)(k:Gh (σ0.set s J) K v σ1):Gh σ0 K v σ1:=λw ι Z h b r hv h1 h2 h3 h4=>by
 have hs:s<σ0.bY:=w.lt R;have w':PWF (σ0.set s J):=by
  refine⟨λt E=>?_,λt cs E=>?_⟩
  .have dE:σ0.bY<=t:=E;rw[zG,Iv aH];exact w.wf t dE
  .rw[zG]at E;split at E
   .cases E;exact ko.up (YQ _) hb
   .exact w.bel t cs E
 obtain⟨v2,σ2,ι2,U,W,X,Y,g4,g5,g6,g7,g8,g9⟩:=k w' ι Z h b r hv h1 h2 h3 (λt E I=>by
  rw[zG]at I;split at I
  .cases I
  .exact h4 t E I)
 refine⟨v2,σ2,ι2,U,W,X,Y,g4,g5,g6,λt E I=>g7 t E ?_,g8,g9⟩;rw[zG,Iv (by rintro rfl;rw[R]at I;cases I)];exact I
def Src.set{σ:dj}{a a':Nat}{sd sd':Int}(h:Src σ s vC bs a sd)(E:a'<=Tw bs)(hs:0<=sd'/\sd'<2147483647):Src (σ.set s (xr vC a' sd')) s vC bs a' sd':=
 ⟨by rw[zG,Iu rfl],h.lt,h.fb,h.byt,E,hs⟩
def Src.c7{σ σ':dj}{a:Nat}{sd:Int}(h:Src σ s vC bs a sd)(k:dq σ σ'):Src σ' s vC bs a sd:=
 ⟨by rw[k.cd s h.lt];exact h.cd,YO h.lt k.bY,h.fb,h.byt,h.le,h.sd⟩
def Src.q{σ:dj}{a:Nat}{sd:Int}(h:Src σ s vC bs a sd):σ.gv s 0=Ik vC/\σ.gv s 1=Ik (.int .i64 a)/\σ.gv s 2=Ik (.int .i64 sd):=by
 refine⟨?_,?_,?_⟩<;>(rw[zH h.cd];rfl)
def Src.w1{σ:dj}{a:Nat}{sd x:Int}(h:Src σ s vC bs a sd):σ.wr s 1 [.int .i64 x]=Ik (σ.set s [vC,.int .i64 x,.int .i64 sd]):=by
 rw[zL h.cd,Iu ⟨bj,rfl⟩];rfl
def Src.w2{σ:dj}{a:Nat}{sd x:Int}(h:Src σ s vC bs a sd):σ.wr s 2 [.int .i64 x]=Ik (σ.set s (xr vC a x)):=by
 rw[zL h.cd,Iu ⟨bj,rfl⟩];rfl
def zMn(σ:dj)(s:Nat)(x y:List PV):(σ.set s x).set s y=σ.set s y:=by
 simp only[dj.set];congr 1;funext t;split<;>rfl
def zBC(σ:dj)(x y:List PV):(σ.cb x).set σ.bY y=σ.cb y:=by
 simp only[dj.cb,dj.set];congr 1;funext t;split<;>rfl
def zOU{j:Nat}(I:Byt bs)(E:j<Tw bs):(bs.map (PV.int .u8))[j]? = Ik (.int .u8 (bs.getD j 0))/\0<=bs.getD j 0/\bs.getD j 0<=255:=by
 have e:bs.getD j 0=bs[j]:=by simp[YK,na E]
 rw[e];exact⟨by rw[Yl,na E];rfl,I.bd _ (ss E)⟩
def Nx(n x:Int):Prop:=0<=x/\(n<=1->x=0)/\(1<n->x<n)
def Nx.lt{n x:Int}(h:Nx n x)(R:1<=n):x<n:=by
 obtain⟨J,E,I⟩:=h;rcases UI 1 n with g|g
 .exact I g
 .have:=E g;omega
def zNb{n x:Int}(R:1<n)(J:0<=x):Nx n (x.tmod n):=by
 rw[Yf J];have E:=UE x (show n≠0 by omega);have I:=UP x (show 0<n by omega);exact⟨E,λh=>aH,λ_=>I⟩
def zMI(hb:FB vC bs)(J:Byt bs)(hk:∀sd,0<=sd/\sd<2147483647->K (.ptr σ.bY 0) (σ.cb (xr vC 0 sd))):zA Tp 12 [vC] σ K:=by
 obtain⟨w,av,rfl⟩:=hb;have hl:=J.len;refine Tn Tryz.func12 ?_;refine Tq ?_;generalize hC:(PV.fz w av (Tw bs) (bs.map (.int .u8)))=vC at *
 refine zF (λm vs h'=>∃(i:Nat) (sd:Int),i<=Tw bs/\m=Tw bs-i/\vs=[vC,.ptr σ.bY 0,.int .i64 i]/\σ.cb (xr vC 0 sd)=h'/\0<=sd/\sd<2147483647) (Tw bs) ?_ ?_
 .exact⟨0,76001,aH,aH,rfl,rfl,aH,aH⟩
 rintro m vs h' ⟨i,sd,hi,rfl,rfl,rfl,h0,h1⟩
 have hlen:nN vC=Ik (.int .i64 (Tw bs)):=by rw[<-hC];rfl
 have Z:Tu .i64 ((i:Int)+1)=((i+1:Nat):Int):=WQ
 have out:K (.ptr σ.bY 0) (σ.cb (xr vC 0 sd)):=hk sd ⟨h0,h1⟩;simp only[Z3,seval,-ae,hlen];by_cases E:i<Tw bs;rotate_left
 .simp only[Z3,seval,-ae,E,decide_false];exact out
 obtain⟨b1,R,U⟩:=zOU J E;by_cases KI:i<64;rotate_left
 .have I:¬(i:Int)<64:=aH
  simp only[Z3,seval,-ae,E,I,decide_true,decide_false];exact out
 have I:(i:Int)<64:=aH
 generalize bs.getD i 0=b at b1 R U;have V:Tu .i64 (sd*71)=sd*71:=WE;have W:Tu .i64 b=b:=WE;have X:Tu .i64 (sd*71+b)=sd*71+b:=WE;have Y:(sd*71+b).tmod 2147483647=(sd*71+b) % 2147483647:=Yf aH;subst hC;simp only[Z3,seval,-ae,E,I,decide_true,b1,V,W,X,Y,Z];exact⟨_,aH,i+1,_,aH,rfl,rfl,rfl,aH,aH⟩
def zMH{a:Nat}{sd n:Int}(S:Src σ s vC bs a sd)(hn:n<=4611686018427387904)(Y:∀x a' sd',Nx n x->a'<=Tw bs->0<=sd'/\sd'<2147483647->K (.int .i64 x) (σ.set s (xr vC a' sd'))):zA Tp 14 [.ptr s 0,.int .i64 n] σ K:=by
 have hl:=S.byt.len;have Gf:=S.sd;have X:=S.le;obtain⟨w,av,rfl⟩:=S.fb;obtain⟨q0,q1,q2⟩:=S.q;have e1:Tu .i64 (sd*48271)=sd*48271:=WE;have e2:Tu .i64 (sd*48271+71)=sd*48271+71:=WE;have e4:(sd*48271+71).tmod 2147483647=(sd*48271+71) % 2147483647:=Yf aH;refine Tn Tryz.func14 ?_;simp only[Z3,seval,-ae,q2,e1,e2,e4,S.w2];refine fi (λaf=>?_) λan=>?_
 .have:=Y 0 a sd ⟨UL _,λ_=>rfl,λh=>aH⟩ X Gf
  rw[zHg S.cd]at this;exact this
 have V:0<=(sd*48271+71) % 2147483647/\(sd*48271+71) % 2147483647<2147483647:=aH
 generalize (sd*48271+71) % 2147483647=sJ at *
 have W:=S.set (sd':=sJ) X V;obtain⟨p0,p1,p2⟩:=W.q;obtain⟨E,e5,cQ⟩:∃E,Tu .i64 (sJ.tdiv 47)=E/\0<=E/\E<=2147483647:=by
  have d1:sJ.tdiv 47=sJ / 47:=Y8 aH;exact⟨sJ / 47,by rw[d1];exact mn aH aH,aH,aH⟩
 have I:n≠0:=aH
 generalize iI:σ.set s (xr (PV.fz w av (Tw bs) (bs.map (.int .u8))) a sJ)=σ1 at *
 have hT:∀(a':Nat) (sd':Int),σ1.set s (xr (PV.fz w av (Tw bs) (bs.map (.int .u8))) a' sd')=σ.set s (xr (PV.fz w av (Tw bs) (bs.map (.int .u8))) a' sd'):=λa' sd'=>by rw[<-iI];exact zMn _ _ _ _
 simp only[Z3,seval,-ae,p0,p1,p2,e5];by_cases J:a<Tw bs;rotate_left
 .simp only[Z3,seval,-ae,J,decide_false]
  have:=Y _ a sJ (zNb aH cQ.1) X V
  rw[iI]at this;simp only[Z3,seval,-ae,I,e5];exact this
 obtain⟨b1,b2,b3⟩:=zOU S.byt J;generalize bs.getD a 0=b at b1 b2 b3;have R:Tu .i64 b=b:=WE;have U:Tu .i64 (E+b)=E+b:=WE;have eV:Tu .i64 ((a:Int)+1)=((a+1:Nat):Int):=WQ
 simp only[Z3,seval,-ae,J,decide_true,p0,p1,b1,e5,R,U,W.w1,eV];have Sb:=W.set (a':=a+1) (sd':=sJ) aH V;obtain⟨r0,r1,r2⟩:=Sb.q;generalize JS:σ1.set s (xr (PV.fz w av (Tw bs) (bs.map (.int .u8))) (a+1) sJ)=σ2 at *
 have tm:((a+1:Nat):Int).tmod 2=((a+1:Nat):Int) % 2:=Yf aH;have EG:Tu .i64 (((a+1:Nat):Int)-1)=(a:Int):=WQ
 have fin:∀x:Int,0<=x->K (.int .i64 (x.tmod n)) σ2:=λx hx=>by
  have:=Y _ (a+1) sJ (zNb aH hx) aH V
  rw[<-JS,hT];exact this
 by_cases Z:n<=256;rotate_left
 .simp only[Z3,seval,-ae,Z,decide_false,I,e5,R,U];exact fin _ aH
 by_cases tv:((a+1:Nat):Int) % 2=0;rotate_left
 .simp only[Z3,seval,-ae,Z,decide_true,r1,tm,tv,decide_false,I,e5,R,U];exact fin _ aH
 simp only[Z3,seval,-ae,Z,decide_true,r0,r1,tm,tv,EG,J,b1,I,e5,R,U];exact fin _ aH
end Go.Proofs
namespace Go.Proofs
open Go.Ab Go.Lie
variable{σ h h':dj}{K:PV->dj->Prop}{vC:PV}{bs:V1}{s:Nat}
def So(σ:dj)(s:Nat)(vC:PV)(bs:V1):Prop:=∃a sd,Src σ s vC bs a sd
def Mv(σ:dj)(s:Nat)(σ':dj):Prop:=∃I E,σ.cd s=Ik I/\ko 0 E/\σ'=σ.set s E
def KM(σ:dj)(s:Nat)(h:dj):Prop:=∃σ',Mv σ s σ'/\dq σ' h
def Mv.bY(m:Mv σ s h):h.bY=σ.bY:=by obtain⟨_,_,_,_,rfl⟩:=m;rfl
def Mv.cd(m:Mv σ s h){t:Nat}(E:t≠s):h.cd t=σ.cd t:=by obtain⟨_,_,_,_,rfl⟩:=m;rw[zG,Iv E]
def So.lt(k:So σ s vC bs):s<σ.bY:=by obtain⟨_,_,k⟩:=k;exact k.lt
def So.mv(k:So σ s vC bs){a:Nat}{sd:Int}(E:a<=Tw bs)(hs:0<=sd/\sd<2147483647):Mv σ s (σ.set s (xr vC a sd))/\So (σ.set s (xr vC a sd)) s vC bs:=by
 obtain⟨J,I,k⟩:=k;exact⟨⟨_,_,k.cd,k.fb.bels _ _ _,rfl⟩,a,sd,k.set E hs⟩
def So.mv0(k:So σ s vC bs):Mv σ s σ:=by
 obtain⟨I,E,k⟩:=k;exact⟨_,_,k.cd,k.fb.bels _ _ _,(zHg k.cd).symm⟩
def So.c7(k:So σ s vC bs)(E:dq σ h):So h s vC bs:=by
 obtain⟨J,I,k⟩:=k;exact⟨_,_,k.c7 E⟩
def So.set(k:So σ s vC bs){t:Nat}(J:s≠t)(cs:List PV):So (σ.set t cs) s vC bs:=by
 obtain⟨I,E,k⟩:=k;exact⟨I,E,by rw[zG,Iv J];exact k.cd,k.lt,k.fb,k.byt,k.le,k.sd⟩
def So.kill(k:So σ s vC bs){t:Nat}(J:s≠t):So (σ.kill t) s vC bs:=by
 obtain⟨I,E,k⟩:=k;exact⟨I,E,by simp only[dj.kill];rw[Iv J];exact k.cd,k.lt,k.fb,k.byt,k.le,k.sd⟩
def KM.c7(k:KM σ s h)(E:dq h h'):KM σ s h':=by
 obtain⟨σ',m,q⟩:=k;exact⟨σ',m,q.trans E⟩
def KM.bY(k:KM σ s h):σ.bY<=h.bY:=by
 obtain⟨σ',m,q⟩:=k;rw[<-m.bY];exact q.bY
def KM.cd(k:KM σ s h){t:Nat}(I:t<σ.bY)(E:t≠s):h.cd t=σ.cd t:=by
 obtain⟨σ',m,q⟩:=k;rw[q.cd t (by rw[m.bY];exact I),m.cd E]
def So.km(k:So σ s vC bs):KM σ s σ:=⟨σ,k.mv0,dq.refl _⟩
def So.kmK(k:So σ s vC bs)(E:dq σ h):KM σ s h:=⟨σ,k.mv0,E⟩
def KM.cb(k:KM σ s h)(cs:List PV):KM σ s (h.cb cs):=k.c7 (zB h cs)
def KM.set(k:KM σ s h){t:Nat}(E:σ.bY<=t)(cs:List PV):KM σ s (h.set t cs):=by
 obtain⟨σ',m,q⟩:=k;exact⟨σ',m,q.set (by rw[m.bY];exact E) cs⟩
def KM.kill(k:KM σ s h){t:Nat}(E:σ.bY<=t):KM σ s (h.kill t):=by
 obtain⟨σ',m,q⟩:=k;exact⟨σ',m,q.kill (by rw[m.bY];exact E)⟩
def KM.mv(k:KM σ s h)(hs:s<σ.bY)(V:Mv h s h'):KM σ s h':=by
 obtain⟨σ',⟨I,W,R,Z,rfl⟩,q⟩:=k;obtain⟨X,E,Y,J,rfl⟩:=V;refine⟨σ.set s E,⟨I,E,R,J,rfl⟩,q.bY,q.top,λt U=>?_⟩;rw[zG,zG];split
 .rfl
 .rename_i e;rw[q.cd t U,zG,Iv e]
def KM.trans(k:KM σ s h)(hs:s<σ.bY)(E:KM h s h'):KM σ s h':=by
 obtain⟨σ',m,q⟩:=E;exact(k.mv hs m).c7 q
def Gh.km{v:PV}(k:KM σ s h)(W:So h s vC bs)(hs:s<σ.bY)(c:∀σ',Mv σ s σ'->So σ' s vC bs->dq σ' h->Gh σ' K v h):Gh σ K v h:=by
 obtain⟨σ',m,q⟩:=k;obtain⟨R,U,I,J,e⟩:=m;obtain⟨a,sd,S⟩:=W;have E:s<σ'.bY:=by rw[e];exact hs
 have V:So σ' s vC bs:=⟨a,sd,by rw[<-q.cd s E];exact S.cd,E,S.fb,S.byt,S.le,S.sd⟩
 have:=c σ' ⟨R,U,I,J,e⟩ V q
 rw[e]at this;exact Gh.setS I J this
def zQ{n:Int}(W:So σ s vC bs)(J:n<=4611686018427387904)(I:∀x h,Nx n x->Mv σ s h->So h s vC bs->K (.int .i64 x) h):zA Tp 14 [.ptr s 0,.int .i64 n] σ K:=by
 obtain⟨a,sd,S⟩:=W;refine zMH S J λx a' sd' R E hs=>?_;obtain⟨U,V⟩:=So.mv ⟨a,sd,S⟩ E hs;exact I x _ R U V
end Go.Proofs
