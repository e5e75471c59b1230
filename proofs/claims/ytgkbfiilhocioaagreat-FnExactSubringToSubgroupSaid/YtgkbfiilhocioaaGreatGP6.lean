/- . -/
import Derived.Test.YtgkbfiilhocioaaGreatGP5
import Derived.Test.YtgkbfiilhocioaaGreatGAbPn
import Derived.Test.YtgkbfiilhocioaaGreatRows
import Derived.Lib.SmallJoins
import Derived.WalkKit
import Derived.ProofKit
open Nat renaming le_refl→vH
open Nat renaming left_eq_add->dD,add_eq_left->dC,succ_ne_self->dA,one_ne_zero->dz,add_left_cancel_iff->dy,add_assoc->dx,reduceLeDiff->dw,le_refl->du,lt_add_one->dt,reduceEqDiff->bh,reduceBEq->bg,reduceAdd->be,mul_one->bc,zero_add->a8,add_zero->aZ
open Int renaming reduceNatCast'->ae,toNat_natCast->dS,reduceEq->dR,reduceLT->dQ,reduceLE->dO,reduceNeg->dN
open List renaming getElem?_cons_zero->dM,getElem?_cons_succ->dL,take_succ_cons->dK,take_zero->dJ,drop_succ_cons->dI,drop_zero->dH,take_nil->dG,drop_nil->dF,map_cons->dE,map_nil->bB,nil_append->bA,cons_append->bu,all_cons->bt,all_nil->bp,length_cons->bo,length_nil->bn,contains_cons->bm,contains_nil->bj
open Bool renaming not_true->eo,not_false->eh,and_true->eg,true_and->ef,and_self->ee,true_eq_false->ec,false_eq_true->dZ,or_false->dY,or_true->dX,true_or->bG,false_or->bF
open Option renaming map_some->dr,map_none->dq
set_option maxRecDepth 100000
namespace Go.Grp
end Go.Grp
set_option linter.unusedSimpArgs false
set_option linter.unusedVariables false
namespace Go.Proofs
open Go.Ab Go.Lie Go.Grp
variable{U:PHeap}{K:PV->PHeap->Prop}{O:L3}{P:L4}{C:L5}{vO vP vC va vb:PV}{a b:L3}{d j sp:Nat}
theorem zNL(s:Shp O P C)(F:Full O P C d)(hs:PtrG U sp vO vP vC)(hR:IsPr vO vP vC O P C)(ha:TT O (O.length-d) a)(eN:FI va a)(hk:∀z,TT O (O.length-d) z->mu O P C d a z=zv O->ResI U K z):
  zA Tryz.prog 246 [.ptr sp 0,va] U K:=by
 have aX:=s.le;have hle:=F.le;have cA:=ha.len;have M:=F.gp.toMon;have ai:sp≠U.next:=Nat.ne_of_lt hs.lt;have kF:sp≠U.next+1:=by have:=hs.lt;omega
 obtain⟨wa,aa,rfl⟩:=eN;refine zA.gh ?_;refine zB mix Tryz.func246 ?_
 conv=>arg 2;cbv
 refine zC rfl ?_;simp only[Z3,seval,-ae];refine Qa rfl (by omega) ⟨λh0=>?_,λcap hc=>?_⟩
 .have Bd:O=[]:=List.eq_nil_of_length_eq_zero (by rw[<-cA,h0];rfl);subst Bd;subst h0;simp only[Z3,seval,-ae,mk8 (n:=0) (by omega),mkL (n:=0) (by omega)];refine zF (λm vs h'=>m=0/\vs=[.ptr sp 0,.fz true .nils 0 [],.sl U.next 0 0 (.known 0),.int .i64 (0:Nat),.int .i64 (0:Nat)]/\h'=U.new []) 0 ⟨rfl,rfl,rfl⟩ ?_
  rintro m vs h' ⟨rfl,rfl,rfl⟩
  simp only[Z3,seval,-ae];have AH:d=0:=by simpa using hle
  exact Gh.finS (cs:=pis []) (zD U _) (by simp only[Z3,seval,-ae];rfl) (vH _) (zN _ _) ((hk [] (s.zv _) (by subst AH;rfl)).2 _ (.inr rfl))
 rw[cA]at hc;rw[cA];simp only[Z3,seval,-ae,List.length_replicate,Zg,mk8 (n:=O.length) (by omega),mkL (n:=O.length) (by omega)];refine zF (λm vs h'=>∃(i:Nat) (r z:L3),i<=O.length/\m=O.length-i/\vs=[.ptr sp 0,.sl U.next 0 O.length cap,.sl (U.next+1) 0 O.length (.known O.length),.int .i64 O.length,.int .i64 i]/\h'=(U.new (pis r)).new (pis z)/\TT O (O.length-d) r/\TT O i r/\TT O (O.length-d) z/\mu O P C d a z=r) O.length ?_ ?_
 .exact⟨0,a,zv O,by omega,by omega,rfl,rfl,ha,ha.mono (Nat.zero_le _),s.zv _,M.r1 ha⟩
 rintro m vs h' ⟨i,r,z,hi,rfl,rfl,rfl,hr,me,hz,hinv⟩
 simp only[Z3,seval,-ae];refine iteI (λag=>?_) λaG=>?_;rotate_left
 .have aI:i=O.length:=by omega
  subst aI;have ll:r=zv O:=me.ext (s.zv _) λj h1 h2=>by omega
  rw[ll]at hinv;have dT:=hz.len
  have:=(hk z hz hinv).2 (.known O.length) (.inr (by rw[dT]))
  rw[dT]at this;exact Gh.finS (s:=U.next+1) ((zD U _).new _) (by simp only[Z3,seval,-ae]) (by omega) (zN _ _) this
 simp only[Z3,seval,-ae];have bO:=s.pr i ag;refine zF (λm vs h'=>∃(r z:L3),m=((at_ O i-at_ r i) % at_ O i).toNat/\vs=[.ptr sp 0,.sl U.next 0 O.length cap,.sl (U.next+1) 0 O.length (.known O.length),.int .i64 i,.int .i64 O.length,.int .i64 i]/\h'=(U.new (pis r)).new (pis z)/\TT O (O.length-d) r/\TT O i r/\TT O (O.length-d) z/\mu O P C d a z=r) _ ⟨r,z,rfl,rfl,rfl,hr,me,hz,hinv⟩ ?_
 rintro m vs h' ⟨r,z,rfl,rfl,rfl,hr,me,hz,hinv⟩
 have aT:i<r.length:=by rw[hr.len];exact ag
 have br:=hr.bd i ag;simp only[Z3,seval,-ae,ag,pisAt aT];refine iteI (λheq=>?_) λju=>?_
 .simp only[Z3,seval,-ae,wrapS ag (by omega:O.length<=4611686018427387904)];refine⟨_,by omega,i+1,r,z,by omega,rfl,rfl,rfl,hr,?_,hz,hinv⟩;refine⟨me.len,me.bd,λt ht=>?_⟩;by_cases e:t=i
  .subst e;exact heq
  .exact me.zero t (by omega)
 .have rZ:O.length-d<=i:=by
   rcases Nat.lt_or_ge i (O.length-d)with h|h
   .exact absurd (hr.zero i h) ju
   .exact h
  have hu:TT O (O.length-d) (Grp.unit O i):=s.unit ag rZ;obtain⟨m1,m2⟩:=mu_step s rZ hle ag me;refine QJ s F O.length rZ ag (by omega) _ _ sp U.next cap r vO vP vC ((hs.new _).new _) hR (by simp only[Z3,seval,-ae]) (by simp only[Z3,seval,-ae];omega) ai hc hr ?_;simp only[Z3,seval,-ae];refine QJ s F O.length rZ ag (by omega) _ _ sp (U.next+1) (.known O.length) z vO vP vC ((hs.new _).new _) hR (by simp only[Z3,seval,-ae]) (by simp only[Z3,seval,-ae]) kF (.inr rfl) hz ?_;simp only[Z3,seval,-ae];refine⟨_,?_,_,_,rfl,rfl,M.cl hr hu,m1,M.cl hz hu,by rw[<-M.as ha hz hu,hinv]⟩;rw[m2];split
  .rename_i e;rw[Int.sub_zero,Int.emod_self]
   have:(at_ O i-at_ r i) % at_ O i=at_ O i-at_ r i:=Int.emod_eq_of_lt (by omega) (by omega)
   omega
  .rename_i e;have h1:(at_ O i-at_ r i) % at_ O i=at_ O i-at_ r i:=Int.emod_eq_of_lt (by omega) (by omega);have h2:(at_ O i-(at_ r i+1)) % at_ O i=at_ O i-(at_ r i+1):=Int.emod_eq_of_lt (by omega) (by omega);omega
theorem zGX(s:Shp O P C)(F:Full O P C d)(hs:PtrG U sp vO vP vC)(hR:IsPr vO vP vC O P C)(ha:TT O (O.length-d) a)(eN:FI va a)(hk:∀v z,TT O (O.length-d) z->mu O P C d a z=zv O->FI v z->K v U):
  zA Tryz.prog 246 [.ptr sp 0,va] U K:=
 zA.gh (zNL s F hs hR ha eN λz h1 h2=>⟨λh0=>Gh.fin0 (Keep.refl U) trivial (hk _ z h1 h2 ⟨true,.nils,by rw[h0];rfl⟩),λcap hc=>Gh.finF (zD U _) (by simp only[Z3,seval,-ae]) (vH _) (zN _ _) hc.ok λo=>hk _ z h1 h2 ⟨true,.sl o 0 z.length cap,rfl⟩⟩)
theorem zIM(s:Shp O P C)(F:Full O P C d)(hs:PtrG U sp vO vP vC)(hR:IsPr vO vP vC O P C)(ha:TT O (O.length-d) a)(hb:TT O (O.length-d) b)(eN:FI va a)(dg:FI vb b)(hk:∀z,TT O (O.length-d) z->mu O P C d b z=mu O P C d a b->ResI U K z):
  zA Tryz.prog 228 [.ptr sp 0,va,vb] U K:=by
 have M:=F.gp.toMon;refine zA.gh ?_;refine zB mix Tryz.func228 ?_
 conv=>arg 2;cbv
 refine zC rfl ?_;simp only[Z3,seval,-ae];refine zGX s F hs hR hb dg λv1 z1 h1 h2 f1=>?_;simp only[Z3,seval,-ae];refine zB8 s F hs hR ha hb eN dg λv2 f2=>?_;simp only[Z3,seval,-ae];have iG:=M.cl ha hb;have hz:=M.cl h1 iG;have hr:=hk _ hz (by rw[<-M.as hb h1 iG,h2,M.l1 iG]);refine zED s F hs hR h1 iG f1 f2 ⟨λh0=>?_,λcap hc=>?_⟩
 .simp only[Z3,seval,-ae];exact Gh.ret (hr.1 h0)
 .simp only[Z3,seval,-ae];exact Gh.ret (hr.2 cap hc)
theorem zIN(s:Shp O P C)(F:Full O P C d)(hs:PtrG U sp vO vP vC)(hR:IsPr vO vP vC O P C)(ha:TT O (O.length-d) a)(hb:TT O (O.length-d) b)(eN:FI va a)(dg:FI vb b)(hk:∀v z,TT O (O.length-d) z->mu O P C d b z=mu O P C d a b->FI v z->K v U):
  zA Tryz.prog 228 [.ptr sp 0,va,vb] U K:=
 zA.gh (zIM s F hs hR ha hb eN dg λz h1 h2=>⟨λh0=>Gh.fin0 (Keep.refl U) trivial (hk _ z h1 h2 ⟨true,.nils,by rw[h0];rfl⟩),λcap hc=>Gh.finF (zD U _) (by simp only[Z3,seval,-ae]) (vH _) (zN _ _) hc.ok λo=>hk _ z h1 h2 ⟨true,.sl o 0 z.length cap,rfl⟩⟩)
end Go.Proofs
namespace Go.Proofs
open Go.Ab Go.Lie Go.Grp
variable{O:L3}{C:L5}
def cenE(C:L5)(i q:Nat):Prop:=at_ (cvec C i (i+(1+q))) (i+(1+q))=1/\isZ ((cvec C i (i+(1+q))).take (i+(1+q)))
def isCen(O:L3)(C:L5):Prop:=∀i,i<O.length->at_ O i=at_ O 0/\∀q,i+(1+q)<O.length->cenE C i q
end Go.Proofs
set_option linter.unusedSectionVars false
namespace Go.Grp
open Go.Ab Go.Lie
variable{α:Type}{S:α->Prop}{m:α->α->α}{e:α}{a b x y z g:α}
noncomputable def ginv[Inhabited α](S:α->Prop)(m:α->α->α)(e a:α):α:=Classical.epsilon λb=>S b/\m a b=e
section
variable[Inhabited α]
theorem Gp.inv_in(G:Gp S m e)(ha:S a):S (ginv S m e a)/\m a (ginv S m e a)=e:=by
 obtain⟨b,h1,h2,h3⟩:=G.inv ha;exact Classical.epsilon_spec (p:=λb=>S b/\m a b=e) ⟨b,h1,h2⟩
theorem Gp.inv_eq(G:Gp S m e)(ha:S a)(hb:S b)(h:m a b=e):b=ginv S m e a:=G.cancel ha hb (G.inv_in ha).1 (h.trans (G.inv_in ha).2.symm)
theorem Gp.inv_l(G:Gp S m e)(ha:S a):m (ginv S m e a) a=e:=by
 obtain⟨b,h1,h2,h3⟩:=G.inv ha;rw[<-G.inv_eq ha h1 h2];exact h3
theorem Gp.inv_r(G:Gp S m e)(ha:S a):m a (ginv S m e a)=e:=(G.inv_in ha).2
noncomputable def com(S:α->Prop)(m:α->α->α)(e x y:α):α:=m (ginv S m e x) (m (ginv S m e y) (m x y))
noncomputable def cnj(S:α->Prop)(m:α->α->α)(e x g:α):α:=m (ginv S m e g) (m x g)
theorem Gp.com_in(G:Gp S m e)(hx:S x)(hy:S y):S (com S m e x y):=G.cl (G.inv_in hx).1 (G.cl (G.inv_in hy).1 (G.cl hx hy))
theorem Gp.cnj_in(G:Gp S m e)(hx:S x)(hg:S g):S (cnj S m e x g):=G.cl (G.inv_in hg).1 (G.cl hx hg)
theorem Gp.com_spec(G:Gp S m e)(hx:S x)(hy:S y):m (m y x) (com S m e x y)=m x y:=by
 have ix:=(G.inv_in hx).1;have iy:=(G.inv_in hy).1;have xy:=G.cl hx hy;unfold com;rw[G.as hy hx (G.cl ix (G.cl iy xy)),<-G.as hx ix (G.cl iy xy),G.inv_r hx,G.l1 (G.cl iy xy),<-G.as hy iy xy,G.inv_r hy,G.l1 xy]
theorem Gp.com_eq(G:Gp S m e)(hx:S x)(hy:S y)(hz:S z)(h:m (m y x) z=m x y):z=com S m e x y:=
 G.cancel (G.cl hy hx) hz (G.com_in hx hy) (h.trans (G.com_spec hx hy).symm)
theorem Gp.cnj_spec(G:Gp S m e)(hx:S x)(hg:S g):m g (cnj S m e x g)=m x g:=by
 unfold cnj;rw[<-G.as hg (G.inv_in hg).1 (G.cl hx hg),G.inv_r hg,G.l1 (G.cl hx hg)]
theorem Gp.cnj_eq(G:Gp S m e)(hx:S x)(hg:S g)(hz:S z)(h:m g z=m x g):z=cnj S m e x g:=
 G.cancel hg hz (G.cnj_in hx hg) (h.trans (G.cnj_spec hx hg).symm)
structure NSub(S:α->Prop)(m:α->α->α)(e:α)(N:α->Prop):Prop where
 inS:∀{x},N x->S x
 one:N e
 cl:∀{x y},N x->N y->N (m x y)
 inv:∀{x},N x->N (ginv S m e x)
 nor:∀{x g},N x->S g->N (cnj S m e x g)
theorem Gp.cnj_one(G:Gp S m e)(hg:S g):cnj S m e e g=e:=(G.cnj_eq G.one hg G.one (by rw[G.r1 hg,G.l1 hg])).symm
theorem Gp.cnj_com(G:Gp S m e)(hx:S x)(hy:S y):m x (com S m e x y)=cnj S m e x y:=by
 have c1:=G.com_in hx hy;exact G.cnj_eq hx hy (G.cl hx c1) (by rw[<-G.as hy hx c1];exact G.com_spec hx hy)
theorem NSub.com_in(G:Gp S m e){N:α->Prop}(hN:NSub S m e N)(hx:N x)(hy:S y):N (com S m e x y):=by
 have sx:=hN.inS hx;have h1:=G.cnj_com sx hy;have ix:=(G.inv_in sx).1
 have:com S m e x y=m (ginv S m e x) (cnj S m e x y):=by
  rw[<-h1,<-G.as ix sx (G.com_in sx hy),G.inv_l sx,G.l1 (G.com_in sx hy)]
 rw[this];exact hN.cl (hN.inv hx) (hN.nor hx hy)
end
end Go.Grp
namespace Go.Grp
open Go.Ab Go.Lie
variable{O:L3}{P:L4}{C:L5}{x y:L3}
abbrev gS(O:L3):L3->Prop:=TT O 0
abbrev gm(O:L3)(P:L4)(C:L5):L3->L3->L3:=mu O P C O.length
theorem Full.g(F:Full O P C O.length):Gp (gS O) (gm O P C) (zv O):=by
 have:=F.gp
 rwa[Nat.sub_self]at this
noncomputable abbrev gcom (O:L3) (P:L4) (C:L5) (x y:L3):L3:=com (gS O) (gm O P C) (zv O) x y
abbrev gN(O:L3)(P:L4)(C:L5)(N:L3->Prop):Prop:=NSub (gS O) (gm O P C) (zv O) N
end Go.Grp
namespace Go.Grp
open Go.Ab Go.Lie
variable{O:L3}{P:L4}{C:L5}{x y a b:L3}{d t i:Nat}
def Cent(O:L3)(C:L5):Prop:=∀i j,i<j->j<O.length->TT O j (cvec C i j)/\at_ (cvec C i j) j=1
def addm(o a b:Int):Int:=if a+b ≥ o then a+b-o else a+b
theorem zNh(o a b:Int):addm o a b=addm o b a:=by unfold addm;rw[Int.add_comm]
theorem zEq{o a b:Int}(ha:0<=a/\a<o)(hb:0<=b/\b<o)(h:addm o a b=a):b=0:=by
 unfold addm at h;split at h<;>omega
def Upto(O:L3)(t:Nat)(x y:L3):Prop:=∀j,j<t->at_ x j=at_ y j
theorem zQc(s:Shp O P C)(hd:d+1<=O.length)(hi:i=O.length-(d+1))(h0:at_ b i=0)(ha:TT O i a)(hb:TT O i b):mu O P C (d+1) a b=(mu O P C d (a.set i 0) (b.set i 0)).set i (at_ a i):=by
 have ba:=ha.bd i (by omega);subst hi;simp only[mu];rw[h0,if_neg (by omega),show nx b (O.length-(d+1))=0 by show(at_ b _).toNat=0;rw[h0];rfl,Int.add_zero];rfl
theorem Z7(s:Shp O P C):∀{d:Nat} {b:L3},d<=O.length->O.length-d<=t->t<O.length->TT O (O.length-d) b->TT O t a->Upto O t (mu O P C d b a) b/\at_ (mu O P C d b a) t=addm (at_ O t) (at_ b t) (at_ a t)
 |0,b,hd,h1,h2,hb,ha=>by omega
 |d+1,b,hd,h1,h2,hb,ha=>by
  have hi:O.length-(d+1)<O.length:=by omega
  have e:O.length-d=O.length-(d+1)+1:=by omega
  have aD:=s.pos hi;have bl:O.length-(d+1)<b.length:=by rw[hb.len];exact hi
  have iP:=hb.set0 hi aD;rw[<-e]at iP;by_cases ht:O.length-(d+1)=t
  .have hr:=mu_tt s hd hb (ha.mono (by omega):TT O (O.length-(d+1)) a);refine⟨λj hj=>by rw[hr.zero j (by omega),hb.zero j (by omega)],?_⟩;have hm:∀a b,TT O (O.length-d) a->TT O (O.length-d) b->TT O (O.length-d) (mu O P C d a b):=λa b h1 h2=>mu_tt s (by omega) h1 h2;have has:=(ha.mono (by omega):TT O (O.length-(d+1)) a).set0 hi aD;rw[<-e]at has;have ir:=hm _ _ (zBH (λx _=>by rw[e];exact zCL s (by rw[<-e];exact hm) x) (nx a (O.length-(d+1))) iP) has;have hw:TT O (O.length-d) (pvec P (O.length-(d+1))):=by rw[e];exact s.pw _ hi
   have kY:=hm _ _ hw ir;rw[<-ht];simp only[mu,addm];split
   .rw[at_set (by rw[kY.len];exact hi),if_pos rfl]
   .rw[at_set (by rw[ir.len];exact hi),if_pos rfl]
  .have mL:at_ a (O.length-(d+1))=0:=ha.zero _ (by omega);rw[zQc s hd rfl mL hb (ha.mono (by omega)),ZA mL (by rw[ha.len];exact hi)];obtain⟨i1,i2⟩:=Z7 s (d:=d) (by omega) (by omega) h2 iP ha;have fK:=(mu_tt s (by omega:d<=O.length) iP (ha.mono (by omega):TT O (O.length-d) a)).len;refine⟨λj hj=>?_,?_⟩
   .rw[at_set (by rw[fK];exact hi)];split
    .rename_i h;rw[h]
    .rename_i h;rw[i1 j hj,at_set bl,if_neg h]
   .rw[at_set (by rw[fK];exact hi),if_neg (by omega),i2,at_set bl,if_neg (by omega)]
theorem zOx(s:Shp O P C)(hC:Cent O C)(hi:O.length-d=i+1)(hd:d<=O.length)(aY:i<t)(ht:t<O.length)(hx:TT O t x):TT O t (Grp.img O C (mu O P C d) i x)/\at_ (Grp.img O C (mu O P C d) i x) t=at_ x t:=by
 have bx:=hx.bd t ht;have hm:∀a b,TT O (i+1) a->TT O (i+1) b->TT O (i+1) (mu O P C d a b):=λa b h1 h2=>by
  have:=mu_tt s hd (a:=a) (b:=b) (by rw[hi];exact h1) (by rw[hi];exact h2)
  rwa[hi]at this
 have sk:Grp.img O C (mu O P C d) i x=fo (mu O P C d) (cvec C i) (nx x) t (O.length-t) (zv O):=by
  unfold img;have h:=Nat.add_sub_of_le (show i+1<=t by omega)
  have:∀(k u:Nat) (a:L3),u+k=t->(fo (mu O P C d) (cvec C i) (nx x) u (k+(O.length-t)) a=fo (mu O P C d) (cvec C i) (nx x) t (O.length-t) a):=by
   intro k
   induction k with
   |zero=>intro u a h;rw[Nat.zero_add,show u=t by omega]
   |succ k ih=>
    intro u a h;rw[show k+1+(O.length-t)=(k+(O.length-t))+1 by omega,fo,show nx x u=0 by show(at_ x u).toNat=0;rw[hx.zero u (by omega)];rfl];exact ih (u+1) a (by omega)
  have:=this (t-(i+1)) (i+1) (zv O) (by omega)
  rwa[show t-(i+1)+(O.length-t)=O.length-1-i by omega]at this
 rw[sk,show O.length-t=(O.length-(t+1))+1 by omega,fo];obtain⟨c1,c2⟩:=hC i t aY ht;have st:∀k:Nat,(k:Int)<=at_ x t->∀{a:L3} {q:Int},TT O t a->at_ a t=q->0<=q->q+k<=at_ x t->TT O t (rep (mu O P C d) (cvec C i t) k a)/\at_ (rep (mu O P C d) (cvec C i t) k a) t=q+k:=by
  intro k
  induction k with
  |zero=>intro _ a q ha hq _ _;exact⟨ha,by rw[rep,hq];omega⟩
  |succ k ih=>
   intro hk a q ha hq jo Cj;obtain⟨r1,r2⟩:=Z7 s (d:=d) (t:=t) (a:=cvec C i t) (b:=a) hd (by omega) ht (ha.mono (by omega)) c1;have tF:TT O t (mu O P C d a (cvec C i t)):=by
    have h0:=hm a (cvec C i t) (ha.mono (by omega)) (c1.mono (by omega));exact⟨h0.len,h0.bd,λj hj=>by rw[r1 j hj];exact ha.zero j hj⟩
   rw[c2,hq,addm,if_neg (by omega)]at r2
   have:=ih (by omega) tF r2 (by omega) (by omega)
   rw[rep];exact⟨this.1,by rw[this.2];omega⟩
 have fJ:((nx x t:Nat):Int)=at_ x t:=Int.toNat_of_nonneg bx.1;obtain⟨q1,q2⟩:=st (nx x t) (by omega) (a:=zv O) (q:=0) (s.zv _) (ZB _ t) (Int.le_refl _) (by omega)
 -- lR later sj leave it
 have yp:=fo_in (S:=λa=>TT O t a/\at_ a t=at_ x t) (m:=mu O P C d) (h:=cvec C i) (x:=nx x) (d:=O.length-(t+1)) (t:=t+1) (a:=rep (mu O P C d) (cvec C i t) (nx x t) (zv O)) ?_ ⟨q1,by rw[q2];omega⟩
 .exact yp
 .rintro j h1 h2 a ⟨ha,fE⟩
  obtain⟨d1,d2⟩:=hC i j (by omega) (by omega);obtain⟨r1,r2⟩:=Z7 s (d:=d) (t:=j) (a:=cvec C i j) (b:=a) hd (by omega) (by omega) (ha.mono (by omega)) d1;have h0:=hm a (cvec C i j) (ha.mono (by omega)) (d1.mono (by omega));exact⟨⟨h0.len,h0.bd,λk hk=>by rw[r1 k (by omega)];exact ha.zero k hk⟩,by rw[r1 t (by omega)];exact fE⟩
end Go.Grp
namespace Go.Grp
open Go.Ab Go.Lie
variable{O:L3}{P:L4}{C:L5}{x y z a b c g:L3}{t i:Nat}
theorem zKH(s:Shp O P C)(hC:Cent O C):∀{d:Nat} {a b:L3},d<=O.length->O.length-d<=t->t<O.length->TT O t a->TT O (O.length-d) b->Upto O t (mu O P C d a b) b/\at_ (mu O P C d a b) t=addm (at_ O t) (at_ a t) (at_ b t)
 |0,a,b,hd,h1,h2,ha,hb=>by omega
 |d+1,a,b,hd,h1,h2,ha,hb=>by
  have hi:O.length-(d+1)<O.length:=by omega
  have e:O.length-d=O.length-(d+1)+1:=by omega
  have aD:=s.pos hi;have bl:O.length-(d+1)<b.length:=by rw[hb.len];exact hi
  have iP:=hb.set0 hi aD;rw[<-e]at iP;have mM:TT O (O.length-(d+1)) a:=ha.mono (by omega);have has:=mM.set0 hi aD;rw[<-e]at has;have hm:∀a b,TT O (O.length-d) a->TT O (O.length-d) b->TT O (O.length-d) (mu O P C d a b):=λa b h1 h2=>mu_tt s (by omega) h1 h2;by_cases ht:O.length-(d+1)=t
  .have hr:=mu_tt s hd mM hb;refine⟨λj hj=>by rw[hr.zero j (by omega),hb.zero j (by omega)],?_⟩;have ir:=hm _ _ (zBH (λx _=>by rw[e];exact zCL s (by rw[<-e];exact hm) x) (nx b (O.length-(d+1))) has) iP;have hw:TT O (O.length-d) (pvec P (O.length-(d+1))):=by rw[e];exact s.pw _ hi
   have kY:=hm _ _ hw ir;rw[<-ht];simp only[mu,addm];split
   .rw[at_set (by rw[kY.len];exact hi),if_pos rfl]
   .rw[at_set (by rw[ir.len];exact hi),if_pos rfl]
  .have mL:at_ a (O.length-(d+1))=0:=ha.zero _ (by omega);have A2:a.set (O.length-(d+1)) 0=a:=ZA mL (by rw[ha.len];exact hi);have bb:=hb.bd _ hi
   -- td of a
   have it:∀(k:Nat) {u:L3},TT O t u->at_ u t=at_ a t->TT O t (iter (Grp.img O C (mu O P C d) (O.length-(d+1))) k u)/\at_ (iter (Grp.img O C (mu O P C d) (O.length-(d+1))) k u) t=at_ a t:=by
    intro k
    induction k with
    |zero=>intro u h1 h2;exact⟨h1,h2⟩
    |succ k ih=>
     intro u h3 h4;obtain⟨k1,k2⟩:=zOx (P:=P) (t:=t) (d:=d) s hC (i:=O.length-(d+1)) e (by omega) (by omega) h2 h3;exact ih k1 (by rw[k2];exact h4)
   obtain⟨l1,l2⟩:=it (nx b (O.length-(d+1))) ha rfl;obtain⟨i1,i2⟩:=zKH s hC (d:=d) (by omega) (by omega) h2 l1 iP;have fK:=(hm _ _ (l1.mono (by omega)) iP).len;simp only[mu];rw[mL,if_neg (by omega),A2,Int.zero_add];refine⟨λj hj=>?_,?_⟩
   .show at_ ((mu O P C d _ _).set _ _) j=_;rw[at_set (by rw[fK];exact hi)];split
    .rename_i h;rw[h]
    .rename_i h;rw[i1 j hj,at_set bl,if_neg h]
   .show at_ ((mu O P C d _ _).set _ _) t=_;rw[at_set (by rw[fK];exact hi),if_neg (by omega),i2,l2,at_set bl,if_neg (by omega)]
section
variable(s:Shp O P C)(F:Full O P C O.length)(hC:Cent O C)
include s F hC
theorem behind(hz:gS O z)(hc:gS O c)(h:Upto O t (gm O P C z c) z)(ht:t<=O.length):TT O t c:=by
 have:∀k,k<=t->TT O k c:=by
  intro k
  induction k with
  |zero=>intro _;exact hc
  |succ k ih=>
   intro hk;have xr:=ih (by omega);obtain⟨r1,r2⟩:=Z7 s (d:=O.length) (t:=k) (a:=c) (b:=z) (vH _) (by omega) (by omega) (by rw[Nat.sub_self];exact hz) xr;have e:=h k (by omega);show TT O (k+1) c;have e2:addm (at_ O k) (at_ z k) (at_ c k)=at_ z k:=by rw[<-r2];exact e
   have:=zEq (hz.bd k (by omega)) (hc.bd k (by omega)) e2
   refine⟨hc.len,hc.bd,λj hj=>?_⟩;by_cases g:j=k
   .subst g;exact this
   .exact xr.zero j (by omega)
 exact this t (vH _)
theorem zFq(ht:t<=O.length)(hx:TT O t x)(hy:gS O y):Upto O t (gm O P C x y) y:=by
 rcases Nat.lt_or_ge t O.length with h|h
 .exact(zKH s hC (d:=O.length) (t:=t) (a:=x) (b:=y) (vH _) (by omega) h hx (by rw[Nat.sub_self];exact hy)).1
 .have m5:x=zv O:=hx.ext (s.zv _) λj h1 h2=>by omega
  rw[m5,F.g.l1 hy];exactλj _=>rfl
theorem zDj(ht:t<=O.length):gN O P C (TT O t):=by
 have G:=F.g;have lQ:∀{x:L3},TT O t x->gS O x:=λh=>h.mono (Nat.zero_le _);refine⟨lQ,s.zv _,λ{x y} hx hy=>?_,λ{x} hx=>?_,λ{x g} hx hg=>?_⟩
 .have h0:=G.cl (lQ hx) (lQ hy);exact⟨h0.len,h0.bd,λj hj=>by rw[zFq s F hC ht hx (lQ hy) j hj];exact hy.zero j hj⟩
 .obtain⟨i1,i2⟩:=G.inv_in (lQ hx)
  have:=zFq s F hC ht hx i1
  rw[show gm O P C x (ginv (gS O) (gm O P C) (zv O) x)=zv O from i2]at this;exact⟨i1.len,i1.bd,λj hj=>by rw[<-this j hj];exact ZB _ j⟩
 .refine behind s F hC hg (G.cnj_in (lQ hx) hg) (λj hj=>?_) ht;have e:gm O P C g (cnj (gS O) (gm O P C) (zv O) x g)=gm O P C x g:=G.cnj_spec (lQ hx) hg;rw[e];exact zFq s F hC ht hx hg j hj
end
end Go.Grp
namespace Go.Grp
open Go.Ab Go.Lie
variable{O:L3}{P:L4}{C:L5}{x g:L3}
section
variable(s:Shp O P C)(F:Full O P C O.length)
include s F
theorem triv:gN O P C (λx=>x=zv O):=by
 have G:=F.g;refine⟨λh=>by rw[h];exact G.one,rfl,λh1 h2=>by rw[h1,h2];exact G.l1 G.one,λh=>?_,λh hg=>by rw[h];exact G.cnj_one hg⟩;rw[h];exact(G.inv_eq G.one G.one (G.l1 G.one)).symm
end
end Go.Grp
namespace Go.Proofs
open Go.Ab Go.Lie Go.Grp
variable{O:L3}{P:L4}{C:L5}{x a b:L3}{d:Nat}
theorem zPy{i:Nat}(xl:i<x.length):(x.set i 0).set i (at_ x i)=x:=zL2 xl
theorem zH1(s:Shp O P C){d i:Nat}(hi:O.length=(d+1)+i)(F:Full O P C d)(F1:Full O P C (d+1)){y1 y2:L3}(hx:TT O i x)(h1:TT O (i+1) y1)(h2:TT O (i+1) y2)(e1:mu O P C d (x.set i 0) y1=zv O)(e2:mu O P C d (pvec P i) y2=zv O):
  (at_ x i=0->mu O P C (d+1) x y1=zv O)/\(at_ x i≠0->mu O P C (d+1) x (mu O P C (d+1) (mu O P C (d+1) y1 ((zv O).set i (at_ O i-at_ x i))) y2)=zv O):=by
 have aK:i<O.length:=by omega
 have hn:O.length-d=i+1:=by omega
 have iX:O.length-(d+1)=i:=by omega
 have aD:=s.pos aK;have bx:=hx.bd i aK;have xl:i<x.length:=by rw[hx.len];exact aK
 have M:=F.gp.toMon;have G1:=F1.gp;rw[iX]at G1;have hr:TT O (O.length-d) (x.set i 0):=by rw[hn];exact hx.set0 aK aD
 have jR:TT O (O.length-d) y1:=by rw[hn];exact h1
 have gr:TT O (O.length-d) y2:=by rw[hn];exact h2
 have hz:TT O (O.length-d) (zv O):=s.zv _;have hw:TT O (O.length-d) (pvec P i):=by rw[hn];exact s.pw i aK
 have sub:∀{u v:L3},TT O (O.length-d) u->TT O (O.length-d) v->mu O P C (d+1) u v=mu O P C d u v:=λhu hv=>zF6 s (by omega) hu hv;constructor
 .intro h0;rw[ZA h0 xl]at e1 hr;rw[sub hr jR];exact e1
 .intro h0;have z0:(zv O).set i 0=zv O:=ZA (ZB _ i) (by simp;exact aK);have ia:∀k,iter (al O P C d i) k (zv O)=zv O:=λk=>zDN (al_zv s F.toBeh hn) k;have hg:TT O i ((zv O).set i (at_ x i)):=(s.zv i).set aK (vH _) bx;have ht:TT O i ((zv O).set i (at_ O i-at_ x i)):=(s.zv i).set aK (vH _) ⟨by omega,by omega⟩;have aT:i<(x.set i 0).length:=by rw[List.length_set];exact xl
  have r0:(x.set i 0).set i 0=x.set i 0:=by rw[List.set_set]
  have up:∀{u:L3},TT O (O.length-d) u->TT O i u:=λh=>h.mono (by omega);have ex:mu O P C (d+1) ((zv O).set i (at_ x i)) (x.set i 0)=x:=by
   have:=zDq s F.toBeh hn (a:=at_ x i) (b:=0) hz hr
   rw[r0,if_neg (by omega),ia,M.l1 hr,Int.add_zero,zPy xl]at this;exact this
  have et:mu O P C (d+1) ((zv O).set i (at_ x i)) ((zv O).set i (at_ O i-at_ x i))=pvec P i:=by
   have:=zDq s F.toBeh hn (a:=at_ x i) (b:=at_ O i-at_ x i) hz hz
   rw[if_pos (by omega),ia,M.l1 hz,M.r1 hw,show at_ x i+(at_ O i-at_ x i)-at_ O i=0 by omega,ZA (hw.zero i (by omega)) (by rw[hw.len];exact aK)]at this;exact this
  have key:∀Y,mu O P C (d+1) x Y=mu O P C (d+1) (mu O P C (d+1) ((zv O).set i (at_ x i)) (x.set i 0)) Y:=λY=>by rw[ex]
  rw[key];have k1:=up jR;have k2:=up gr;have kr:=up hr;rw[G1.as hg kr (G1.cl (G1.cl k1 ht) k2),<-G1.as kr (G1.cl k1 ht) k2,<-G1.as kr k1 ht,sub hr jR,e1,G1.l1 ht,<-G1.as hg ht k2,et,sub hw gr,e2]
end Go.Proofs
namespace Go.Proofs
open Go.Ab Go.Lie Go.Grp
variable{U:PHeap}{K:PV->PHeap->Prop}{O:L3}{P:L4}{C:L5}{vO vP vC vx:PV}{x y a:L3}{rP rC:List PV}{d j:Nat}
def zNp(O:L3)(P:L4)(C:L5)(d i:Nat):Prop:=
 ∀(U:PHeap) (K:PV->PHeap->Prop) (x:L3) (vx vO vP vC:PV),IsPr vO vP vC O P C->TT O i x->FI vx x->(∀v y,FI v y->TT O i y->mu O P C d x y=zv O->K v U)->zA Tryz.prog 302 [.agg [vO,vP,vC],.int .i64 i,vx] U K
theorem zFQ(s:Shp O P C)(hc:Cons O P C):∀{d i:Nat},O.length=d+i->zNp O P C d i
 |0,i,hi=>by
  intro U K x vx vO vP vC hR hx aW hk;have aX:=s.le;obtain⟨⟨w0,a0,rfl⟩,⟨w1,a1,rP,rfl,hP⟩,⟨w3,a3,rC,rfl,hC⟩⟩:=hR;refine zA.gh ?_;have aG:(O.length:Int)<=(i:Int):=by omega
  refine zP mix Tryz.func302 cf302 rfl ?_;dsimp only[if302,eI,nI,qD,eD,mI0,lI0,LI0,fI0,xI0,bI0,cI0,sI0,C1,C3,mD0,lD0,fD0,xD0,I0,zI0,wD0,R0,S0];simp only[Z3,seval,-ae,aG,List.length_replicate,Zg,mk8 (n:=O.length) (by omega),mkL (n:=O.length) (by omega)];exact Gh.finF (s:=U.next+1) ((zD U _).new _) (by simp only[Z3,seval,-ae]) (by omega) (zN _ _) (by simp[capOK]) λo1=>hk _ (zv O) (FI.mk (by simp)) (s.zv _) rfl
 |d+1,i,hi=>by
  intro U K x vx vO vP vC hR hx aW hk;have vj:zNp O P C d (i+1):=zFQ s hc (by omega);have F:Full O P C d:=full_of s (by omega) λj h1 h2=>hc j h2;have F1:Full O P C (d+1):=full_of s (by omega) λj h1 h2=>hc j h2;have jc:AtOK O P C (d+1) i:=zBf s (by omega);have aX:=s.le;have aM:=hR;have aK:i<O.length:=by omega
  have hO:=s.pr i aK;have aD:=s.pos aK;have aV:=hx.len;have bx:=hx.bd i aK;have iX:O.length-(d+1)=i:=by omega
  have G1:=F1.gp;rw[iX]at G1;obtain⟨⟨w0,a0,rfl⟩,⟨w1,a1,rP,rfl,hP⟩,⟨w3,a3,rC,rfl,hC⟩⟩:=hR;obtain⟨w5,a5,cZ⟩:=pvRow s hP aK;have kI:i<P.length:=by rw[s.pl];exact aK
  have gF:=s.pw i aK;obtain⟨wx,ax,rfl⟩:=aW;have gJ:i<x.length:=by omega
  have aG:¬(O.length:Int)<=(i:Int):=by omega
  have sx:=hx.set0 aK aD;have kW:IntKind.i64.wrap ((i:Int)+1)=((i+1:Nat):Int):=wrapS aK (by omega);have oZ:i+1<=x.length:=gJ;refine zA.gh ?_;refine zP mix Tryz.func302 cf302 rfl ?_;dsimp only[if302,eI,nI,qD,eD,mI0,lI0,LI0,fI0,xI0,bI0,cI0,sI0,C1,C3,mD0,lD0,fD0,xD0,I0,zI0,wD0,R0,S0];simp only[Z3,seval,-ae,aG];refine QR rfl (by omega) λfM lK=>?_;simp only[Z3,seval,-ae,gJ,oZ,zK,qM gJ,kW];refine zA.frz (s:=U.next+1) (cs:=pis (x.set i 0)) (by simp only[Z3,seval,-ae]) (zN _ _) λo1=>?_;have mI:=lK.ok;simp only[sbs,sb,mI,and_self,if_true,aM.O.sb,aM.P.sb,aM.C.sb];refine vj _ _ (x.set i 0) _ _ _ _ aM sx (FI.mk (by simp)) λv1 y1 e7 jg e1=>?_;have ar:Keep U (((U.new [.fz w0 a0 O.length (pis O),.fz w1 a1 P.length rP,.fz w3 a3 C.length rC]).new (pis (x.set i 0))).kill (U.next+1)):=((zD U _).new _).kill (by omega);simp only[Z3,seval,-ae,gJ,pisAt gJ];refine iteI (λh0=>?_) λh0=>?_
  .have hr:=vj
   -- lR rn of lR kX is not asked for; any xO do
   obtain⟨y2,xD,Bv,_⟩:=F.gp.inv (a:=pvec P i) (by rw[show O.length-d=i+1 by omega];exact gF);rw[show O.length-d=i+1 by omega]at xD
   have:=(zH1 s (by omega) F F1 hx jg xD e1 Bv).1 h0
   exact Gh.fin0 ar (e7.bel _) (hk v1 y1 e7 (jg.mono (by omega)) this)
  have kA:i<(zv O).length:=by simp;exact aK
  have tW:i+1<=O.length:=aK;have cN:IntKind.i64.wrap (at_ O i-at_ x i)=at_ O i-at_ x i:=wrap64 (by omega) (by omega);have eQ:=qM kA (x:=at_ O i-at_ x i);have ht:TT O i ((zv O).set i (at_ O i-at_ x i)):=(s.zv i).set aK (vH _) ⟨by omega,by omega⟩;simp only[Z3,seval,-ae,List.length_replicate,Zg,mk8 (n:=O.length) (by omega),mkL (n:=O.length) (by omega),gJ,pisAt gJ,aK,tW,pisAt aK,cN,zK,eQ,kW,kI,cZ];refine zA.frz (s:=U.next+2) (cs:=pis ((zv O).set i (at_ O i-at_ x i))) (by simp only[Z3,seval,-ae]) (zN _ _) λo2=>?_;simp only[sbs,sb,capOK,vH,decide_true,and_self,if_true,aM.O.sb,aM.P.sb,aM.C.sb,e7.sb];have nS:TT O i y1:=jg.mono (by omega);refine jc aM nS ht e7 (FI.mk (by simp)) λv3 n0=>?_;simp only[Z3,seval,-ae,kW,kI,cZ];refine vj _ _ (pvec P i) _ _ _ _ aM gF (FI.mk gF.len) λv2 y2 bX th e2=>?_;have nR:TT O i y2:=th.mono (by omega);have nu:=G1.cl nS ht;simp only[Z3,seval,-ae,kW,kI,cZ];refine jc aM nu nR n0 bX λv4 nZ=>?_;simp only[Z3,seval,-ae]
  have:=(zH1 s (by omega) F F1 hx jg th e1 e2).2 h0
  exact Gh.fin0 (((((zD U _).new _).kill (by omega)).new _).kill (by omega)) (nZ.bel _) (hk v4 _ nZ (G1.cl nu nR) this)
theorem zGT(s:Shp O P C)(hc:Cons O P C)(hR:IsPr vO vP vC O P C)(hx:gS O x)(aW:FI vx x)(hk:∀v,FI v (ginv (gS O) (gm O P C) (zv O) x)->K v U):zA Tryz.prog 244 [.agg [vO,vP,vC],vx] U K:=by
 have h0:=hR.O.one;have h1:=hR.P.one;have h2:=hR.C.one;have G:=(full_of s (vH _) λj _ h=>hc j h).g;refine zA.gh ?_;refine zB mix Tryz.func244 ?_
 conv=>arg 2;cbv
 refine zC rfl ?_;simp only[Z3,seval,-ae,h0,h1,h2];refine zFQ s hc (d:=O.length) (i:=0) (by omega) _ _ x _ _ _ _ hR hx aW λv y hv hy e=>?_;simp only[Z3,seval,-ae]
 have:=G.inv_eq hx hy e
 rw[<-this]at hk;exact Gh.fin0 (zD U _) (hv.bel _) (hk v hv)
end Go.Proofs
namespace Go.Proofs
open Go.Ab Go.Lie Go.Grp
variable{U:PHeap}{K:PV->PHeap->Prop}{O:L3}{P:L4}{C:L5}{vO vP vC vx vy va vb:PV}{x y a b:L3}{d j:Nat}
theorem zAq(s:Shp O P C)(hR:IsPr vO vP vC O P C)(ha:gS O a)(hb:gS O b)(eN:FI va a)(dg:FI vb b)(hk:∀v,FI v (gm O P C a b)->K v U):zA Tryz.prog 130 [.agg [vO,vP,vC],va,vb] U K:=by
 have h0:=hR.O.one;have h1:=hR.P.one;have h2:=hR.C.one;refine zA.gh ?_;refine zB mix Tryz.func130 ?_
 conv=>arg 2;cbv
 refine zC rfl ?_;simp only[Z3,seval,-ae,h0,h1,h2];refine zBf s (d:=O.length) (i:=0) (by omega) hR ha hb eN dg λv hv=>?_;simp only[Z3,seval,-ae];exact Gh.fin0 (zD U _) (hv.bel _) (hk v hv)
theorem zLN(s:Shp O P C)(hc:Cons O P C)(hR:IsPr vO vP vC O P C)(hx:gS O x)(hy:gS O y)(aW:FI vx x)(fA:FI vy y)(hk:∀v,FI v (gcom O P C x y)->K v U):zA Tryz.prog 184 [.agg [vO,vP,vC],vx,vy] U K:=by
 have h0:=hR.O.one;have h1:=hR.P.one;have h2:=hR.C.one;have G:=(full_of s (vH _) λj _ h=>hc j h).g;have m4:=G.cl hy hx;have lZ:=G.cl hx hy;have hi:=(G.inv_in m4).1;refine zA.gh ?_;refine zB mix Tryz.func184 ?_
 conv=>arg 2;cbv
 refine zC rfl ?_;simp only[Z3,seval,-ae,h0,h1,h2];refine zAq s hR hy hx fA aW λv1 f1=>?_;simp only[Z3,seval,-ae,h0,h1,h2];refine zGT s hc hR m4 f1 λv2 f2=>?_;simp only[Z3,seval,-ae,h0,h1,h2];refine zAq s hR hx hy aW fA λv3 f3=>?_;simp only[Z3,seval,-ae,h0,h1,h2];refine zAq s hR hi lZ f2 f3 λv4 f4=>?_;simp only[Z3,seval,-ae];have e:gm O P C (ginv (gS O) (gm O P C) (zv O) (gm O P C y x)) (gm O P C x y)=gcom O P C x y:=
  G.com_eq hx hy (G.cl hi lZ) (by rw[<-G.as m4 hi lZ,G.inv_r m4,G.l1 lZ])
 rw[e]at f4;exact Gh.fin0 (zD U _) (f4.bel _) (hk v4 f4)
end Go.Proofs
namespace Go.Grp
open Go.Ab Go.Lie
variable{O:L3}{P:L4}{C:L5}{x y a b g:L3}{D:List (Option L3)}{t k d:Nat}{N:L3->Prop}
theorem zCD(hx:gS O x):TT O (dep x) x:=⟨hx.len,hx.bd,λj hj=>qE hj⟩
theorem zAO(hx:TT O t x)(ht:t<=O.length):t<=dep x:=by
 rcases Nat.lt_or_ge (dep x) t with h|h
 .have hl:=hx.len;exact absurd (hx.zero _ h) (Ze (by omega))
 .exact h
theorem zIL(hx:gS O x)(h:O.length<=dep x):x=zv O:=by
 refine Qc (by rw[hx.len];simp) λj hj=>?_;rw[ZB];exact qE (by have:=hx.len;omega)
theorem zLs(s:Shp O P C):dep (zv O)=O.length:=by
 have h1:=zAO (t:=O.length) (s.zv _) (vH _);have h2:=Qd (zv O);rw[(s.zv 0).len]at h2;omega
theorem zCr{o a b:Int}(ha:0<=a/\a<o)(hb:0<=b/\b<o):addm o a b=(a+b) % o:=by
 unfold addm;split
 .have:(a+b) % o=(a+b-o) % o:=by rw[Int.sub_emod_right]
  rw[this,Int.emod_eq_of_lt (by omega) (by omega)]
 .rw[Int.emod_eq_of_lt (by omega) (by omega)]
section
variable(s:Shp O P C)(F:Full O P C O.length)(hC:Cent O C)
include s F hC
theorem zAZ(ht:t<O.length)(hx:TT O t x):∀k:Nat,TT O t (pw (gm O P C) (zv O) x k)/\at_ (pw (gm O P C) (zv O) x k) t=((k:Int)*at_ x t) % at_ O t
 |0=>⟨s.zv _,by show at_ (zv O) t=_;rw[ZB];simp⟩
 |k+1=>by
  obtain⟨h1,h2⟩:=zAZ ht hx k;have hN:=zDj s F hC (Nat.le_of_lt ht);have hO:=s.pr t ht;obtain⟨_,g2⟩:=Z7 s (d:=O.length) (b:=pw (gm O P C) (zv O) x k) (a:=x) (t:=t) (vH _) (by omega) ht (by rw[Nat.sub_self];exact h1.mono (Nat.zero_le _)) hx;refine⟨hN.cl h1 hx,?_⟩;show at_ (mu O P C O.length (pw (gm O P C) (zv O) x k) x) t=_;rw[g2,zCr (h1.bd t ht) (hx.bd t ht),h2,Int.emod_add_emod];congr 1;grind
theorem zL0(ht:t<O.length)(hx:TT O t x)(hb:TT O t b)(fD:at_ b t=1):TT O (t+1) (gm O P C (pw (gm O P C) (zv O) b (at_ O t-at_ x t).toNat) x):=by
 obtain⟨h1,h2⟩:=zAZ s F hC ht hb (at_ O t-at_ x t).toNat;have hN:=zDj s F hC (Nat.le_of_lt ht);have bx:=hx.bd t ht;obtain⟨_,g2⟩:=Z7 s (d:=O.length) (b:=pw (gm O P C) (zv O) b (at_ O t-at_ x t).toNat) (a:=x) (t:=t) (vH _) (by omega) ht (by rw[Nat.sub_self];exact h1.mono (Nat.zero_le _)) hx;have h0:=hN.cl h1 hx;have hz:at_ (gm O P C (pw (gm O P C) (zv O) b (at_ O t-at_ x t).toNat) x) t=0:=by
  show at_ (mu O P C O.length _ _) t=0;rw[g2,zCr (h1.bd t ht) bx,h2,fD,Int.mul_one,Int.emod_add_emod,Int.toNat_of_nonneg (by omega),show at_ O t-at_ x t+at_ x t=at_ O t by omega,Int.emod_self]
 refine⟨h0.len,h0.bd,λj hj=>?_⟩;rcases Nat.lt_or_ge j t with h|h
 .exact h0.zero j h
 .rw[show j=t by omega];exact hz
theorem zN4(ht:t<O.length)(hx:gS O x)(hb:TT O t b)(fD:at_ b t=1):gS O (gm O P C x b)/\Upto O t (gm O P C x b) x/\at_ (gm O P C x b) t=(at_ x t+1) % at_ O t:=by
 obtain⟨g1,g2⟩:=Z7 s (d:=O.length) (b:=x) (a:=b) (t:=t) (vH _) (by omega) ht (by rw[Nat.sub_self];exact hx) hb;refine⟨F.g.cl hx (hb.mono (Nat.zero_le _)),g1,?_⟩;show at_ (mu O P C O.length x b) t=_;rw[g2,zCr (hx.bd t ht) (hb.bd t ht),fD]
end
structure OkD(O:L3)(D:List (Option L3)):Prop where
 len:D.length=O.length
 row:∀(d:Nat) (y:L3),D[d]? = some (some y)->TT O d y/\at_ y d=1
def InD(N:L3->Prop)(D:List (Option L3)):Prop:=∀(d:Nat) (y:L3),D[d]? = some (some y)->N y
def free:List (Option L3)->Nat
 |[]=>0
 |none::D=>free D+1
 |some _::D=>free D
theorem zBJ:∀D,free D<=D.length
 |[]=>vH _
 |none::D=>by have:=zBJ D;simp only[free,List.length_cons];omega
 |some _::D=>by have:=zBJ D;simp only[free,List.length_cons];omega
theorem zEe{y:L3}:∀{D:List (Option L3)} {d:Nat},D[d]? = some none->free (D.set d (some y))+1=free D
 |[],d,h=>by simp at h
 |v::D,0,h=>by
  simp only[List.getElem?_cons_zero,Option.some.injEq]at h;subst h;rfl
 |v::D,d+1,h=>by
  have:=zEe (y:=y) (D:=D) (d:=d) (by simpa using h)
  cases v<;>simp only[List.set_cons_succ,free]<;>omega
theorem OkD.put(h:OkD O D)(hd:d<O.length)(hy:TT O d y)(h1:at_ y d=1):OkD O (D.set d (some y)):=by
 refine⟨by rw[List.length_set];exact h.len,λe v hv=>?_⟩;rw[List.getElem?_set]at hv;split at hv
 .rename_i he;subst he;split at hv
  .cases hv;exact⟨hy,h1⟩
  .cases hv
 .exact h.row e v hv
theorem InD.put(hd:D[d]? = some none):InD N (D.set d (some y))↔InD N D/\N y:=by
  have hl:d<D.length:=by
    rcases Nat.lt_or_ge d D.length with h|h
    .exact h
    .rw[List.getElem?_eq_none h]at hd;cases hd
  constructor
  . intro h
    refine⟨λe v hv=>h e v ?_,h d y ?_⟩
    .rw[List.getElem?_set,if_neg λhe=>by subst he;rw[hd]at hv;cases hv];exact hv
    .rw[List.getElem?_set,if_pos rfl,if_pos hl]
  . rintro⟨h1,h2⟩ e v hv
    rw[List.getElem?_set]at hv;split at hv
    . rename_i he;subst he
      first
      |(cases hv;exact h2)
      | (split at hv
         .cases hv;exact h2
         .cases hv)
    .exact h1 e v hv
theorem OkD.start(n:Nat)(hn:n=O.length):OkD O (List.replicate n none):=⟨by simp[hn],λd y h=>by
 rw[List.getElem?_replicate]at h;split at h<;>cases h⟩
theorem InD.start(n:Nat):InD N (List.replicate n none):=λd y h=>by
 rw[List.getElem?_replicate]at h;split at h<;>cases h
end Go.Grp
namespace Go.Grp
open Go.Ab Go.Lie
variable{O:L3}{P:L4}{C:L5}{x a b:L3}{t k:Nat}
section
variable{α:Type}{S:α->Prop}{m:α->α->α}{e:α}
theorem Mon.pw_e(M:Mon S m e):∀k,Grp.pw m e e k=e
 |0=>rfl
 |k+1=>by
  show m (Grp.pw m e e k) e=e;rw[M.pw_e k];exact M.l1 M.one
theorem Mon.pw_mul(M:Mon S m e){x:α}(hx:S x)(a:Nat):∀b,Grp.pw m e x (a*b)=Grp.pw m e (Grp.pw m e x a) b
 |0=>rfl
 |b+1=>by
  rw[Nat.mul_succ,M.pw_add hx,M.pw_mul hx a b];rfl
end
section
variable(s:Shp O P C)(F:Full O P C O.length)(hC:Cent O C)
include s F hC
theorem zKD(ht:t<O.length)(hx:TT O t x):TT O (t+1) (Grp.pw (gm O P C) (zv O) x (at_ O t).toNat):=by
 obtain⟨h1,h2⟩:=zAZ s F hC ht hx (at_ O t).toNat;refine⟨h1.len,h1.bd,λj hj=>?_⟩;rcases Nat.lt_or_ge j t with h|h
 .exact h1.zero j h
 .rw[show j=t by omega,h2,Int.toNat_of_nonneg (by have:=s.pr t ht;omega),Int.mul_emod_right]
omit hC in
end
end Go.Grp
namespace Go.Grp
open Go.Ab Go.Lie
section
variable{α:Type}[Inhabited α]{S:α->Prop}{m:α->α->α}{e:α}{x y a:α}{N:α->Prop}
structure GSub(S:α->Prop)(m:α->α->α)(e:α)(N:α->Prop):Prop where
 inS:∀{x},N x->S x
 one:N e
 cl:∀{x y},N x->N y->N (m x y)
 inv:∀{x},N x->N (ginv S m e x)
theorem Gp.wholeB(G:Gp S m e):GSub S m e S:=⟨id,G.one,λa b=>G.cl a b,λa=>(G.inv_in a).1⟩
theorem GSub.com_in(h:GSub S m e N)(hx:N x)(hy:N y):N (com S m e x y):=h.cl (h.inv hx) (h.cl (h.inv hy) (h.cl hx hy))
theorem GSub.quot(G:Gp S m e)(h:GSub S m e N)(ha:N a)(hx:S x)(hn:N (m a x)):N x:=by
 have h1:=h.cl (h.inv ha) hn;rwa[<-G.as (h.inS (h.inv ha)) (h.inS ha) hx,G.inv_l (h.inS ha),G.l1 hx]at h1
theorem GSub.quotR(G:Gp S m e)(h:GSub S m e N)(ha:N a)(hx:S x)(hn:N (m x a)):N x:=by
 have h1:=h.cl hn (h.inv ha);rwa[G.as hx (h.inS ha) (h.inS (h.inv ha)),G.inv_r (h.inS ha),G.r1 hx]at h1
theorem GSub.pw(h:GSub S m e N)(hx:N x):∀k,N (Grp.pw m e x k)
 |0=>h.one
 |k+1=>h.cl (h.pw hx k) hx
theorem Gp.com_swap'(G:Gp S m e)(hx:S x)(hy:S y):com S m e y x=ginv S m e (com S m e x y):=by
 have h1:=G.com_spec hx hy;have h2:=G.com_spec hy hx;have c1:=G.com_in hx hy;have c2:=G.com_in hy hx;refine G.inv_eq c1 c2 ?_;refine G.cancel (G.cl hy hx) (G.cl c1 c2) G.one ?_;rw[<-G.as (G.cl hy hx) c1 c2,h1,h2,G.r1 (G.cl hy hx)]
end
variable{O:L3}{P:L4}{C:L5}{x y z a b c g:L3}{D D':List (Option L3)}{t k d:Nat}{N H:L3->Prop}{L u u' Q:L4}
abbrev gB(O:L3)(P:L4)(C:L5)(N:L3->Prop):Prop:=GSub (gS O) (gm O P C) (zv O) N
inductive Rdu(O:L3)(P:L4)(C:L5)(D:List (Option L3)):L3->L3->Prop where
 |refl (x:L3):Rdu O P C D x x
 |left {d j:Nat} {b x x' z:L3} (hd:d<O.length) (hb:D[d]? = some (some b)) (hx:TT O d x) (h0:at_ x d≠0) (c6:TT O (d+1) x') (e:x=gm O P C (pw (gm O P C) (zv O) b j) x') (r:Rdu O P C D x' z):Rdu O P C D x z
 |right {d j:Nat} {b x x' z:L3} (hd:d<O.length) (hb:D[d]? = some (some b)) (hx:TT O d x) (h0:at_ x d≠0) (c6:TT O (d+1) x') (e:x=gm O P C x' (pw (gm O P C) (zv O) b j)) (r:Rdu O P C D x' z):Rdu O P C D x z
theorem Rdu.trans(h:Rdu O P C D x y)(g:Rdu O P C D y z):Rdu O P C D x z:=by
 induction h with
 |refl x=>exact g
 |left hd hb hx h0 c6 e r ih=>exact .left hd hb hx h0 c6 e (ih g)
 |right hd hb hx h0 c6 e r ih=>exact .right hd hb hx h0 c6 e (ih g)
def Sup(D D':List (Option L3)):Prop:=∀(d:Nat) (b:L3),D[d]? = some (some b)->D'[d]? = some (some b)
theorem Rdu.mono(h:Rdu O P C D x z)(s:Sup D D'):Rdu O P C D' x z:=by
 induction h with
 |refl x=>exact .refl x
 |left hd hb hx h0 c6 e r ih=>exact .left hd (s _ _ hb) hx h0 c6 e ih
 |right hd hb hx h0 c6 e r ih=>exact .right hd (s _ _ hb) hx h0 c6 e ih
theorem Rdu.iff(F:Full O P C O.length)(hN:gB O P C N)(hD:InD N D)(h:Rdu O P C D x z):N x↔N z:=by
 have G:=F.g
 induction h with
 |refl x=>exact Iff.rfl
 |left hd hb hx h0 c6 e r ih=>
  refine Iff.trans ?_ ih;rw[e];exact⟨λh=>hN.quot G (hN.pw (hD _ _ hb) _) (c6.mono (Nat.zero_le _)) h,λh=>hN.cl (hN.pw (hD _ _ hb) _) h⟩
 |right hd hb hx h0 c6 e r ih=>
  refine Iff.trans ?_ ih;rw[e];exact⟨λh=>hN.quotR G (hN.pw (hD _ _ hb) _) (c6.mono (Nat.zero_le _)) h,λh=>hN.cl h (hN.pw (hD _ _ hb) _)⟩
theorem Sup.put(hd:D[d]? = some none):Sup D (D.set d (some y)):=λe b hb=>by
 rw[List.getElem?_set];split
 .rename_i h;rw[<-h,hd]at hb;cases hb
 .exact hb
def RQ(O:L3)(P:L4)(C:L5)(D:List (Option L3))(Q:L4)(x:L3):Prop:=∃z,Rdu O P C D x z/\(z=zv O\/z∈Q)
structure QI(O:L3)(P:L4)(C:L5)(D:List (Option L3))(Q:L4):Prop where
 pow:∀(d:Nat) (b:L3),D[d]? = some (some b)->RQ O P C D Q (pw (gm O P C) (zv O) b (at_ O d).toNat)
 com:∀(d e:Nat) (b c:L3),d≠e->D[d]? = some (some b)->D[e]? = some (some c)->RQ O P C D Q (gcom O P C b c)\/RQ O P C D Q (gcom O P C c b)
theorem RQ.step{Q':L4}(h:RQ O P C D (x::Q) y)(s:Sup D D')(hx:Rdu O P C D x z)(hz:z=zv O\/z∈Q')(hQ:∀q∈Q,q∈Q'):RQ O P C D' Q' y:=by
 obtain⟨w,h1,h2⟩:=h;rcases h2 with rfl|h2
 .exact⟨_,h1.mono s,.inl rfl⟩
 .rcases List.mem_cons.1 h2 with rfl|h2
  .exact⟨z,(h1.trans hx).mono s,hz⟩
  .exact⟨w,h1.mono s,.inr (hQ w h2)⟩
theorem zHk{n d:Nat}{b:L3}(h:(List.replicate n (none:Option L3))[d]? = some (some b)):False:=by
 rw[List.getElem?_replicate]at h;split at h<;>cases h
theorem QI.start(n:Nat):QI O P C (List.replicate n none) Q:=⟨λd b h=>(zHk h).elim,λd e b c _ h _=>(zHk h).elim⟩
theorem QI.mem{Q':L4}(h:QI O P C D Q)(hQ:∀q∈Q,q∈Q'):QI O P C D Q':=
 have r:∀{x},RQ O P C D Q x->RQ O P C D Q' x:=λ⟨z,h1,h2⟩=>⟨z,h1,h2.imp id (hQ z)⟩
 ⟨λd b hb=>r (h.pow d b hb),λd e b c ai hb hc=>(h.com d e b c ai hb hc).imp r r⟩
theorem QI.drop(h:QI O P C D (x::Q))(hx:Rdu O P C D x (zv O)):QI O P C D Q:=
 have r:∀{y},RQ O P C D (x::Q) y->RQ O P C D Q y:=λh=>h.step (λd b hb=>hb) hx (.inl rfl) λq hq=>hq
 ⟨λd b hb=>r (h.pow d b hb),λd e b c ai hb hc=>(h.com d e b c ai hb hc).imp r r⟩
theorem QI.put{Q':L4}(h:QI O P C D (x::Q))(hx:Rdu O P C D x z)(hd:D[d]? = some none)(hz:z∈Q')(hQ:∀q∈Q,q∈Q')(hp:pw (gm O P C) (zv O) y (at_ O d).toNat∈Q')(hc:∀(e:Nat) (b:L3),D[e]? = some (some b)->gcom O P C b y∈Q'\/gcom O P C y b∈Q'):QI O P C (D.set d (some y)) Q':=by
  have hl:d<D.length:=by
    rcases Nat.lt_or_ge d D.length with h|h
    .exact h
    .rw[List.getElem?_eq_none h]at hd;cases hd
  have s:Sup D (D.set d (some y)):=Sup.put hd;have r:∀{w},RQ O P C D (x::Q) w->RQ O P C (D.set d (some y)) Q' w:=λh=>h.step s hx (.inr hz) hQ;have ge:∀(e:Nat) (b:L3),(D.set d (some y))[e]? = some (some b)->(e=d/\b=y)\/(e≠d/\D[e]? = some (some b)):=λe b hb=>by
    rw[List.getElem?_set]at hb;split at hb
    . rename_i he
      subst he
      first
      |(cases hb;exact .inl ⟨rfl,rfl⟩)
      | (split at hb
         .cases hb;exact .inl ⟨rfl,rfl⟩
         .cases hb)
    .rename_i he;exact .inr ⟨λh=>he h.symm,hb⟩
  refine⟨λe b hb=>?_,λe e' b c ai hb iO=>?_⟩
  . rcases ge e b hb with ⟨k1,k2⟩|⟨_,dk⟩
    .rw[k1,k2];exact⟨_,.refl _,.inr hp⟩
    .exact r (h.pow e b dk)
  . rcases ge e b hb with ⟨k1,k2⟩|⟨h1,dk⟩
    . rcases ge e' c iO with ⟨l1,l2⟩|⟨h2,iD⟩
      .omega
      . rw[k2]
        rcases hc e' c iD with h3|h3
        .exact .inr ⟨_,.refl _,.inr h3⟩
        .exact .inl ⟨_,.refl _,.inr h3⟩
    . rcases ge e' c iO with ⟨l1,l2⟩|⟨h2,iD⟩
      . rw[l2]
        rcases hc e b dk with h3|h3
        .exact .inl ⟨_,.refl _,.inr h3⟩
        .exact .inr ⟨_,.refl _,.inr h3⟩
      .exact(h.com e e' b c ai dk iD).imp r r
section
variable(s:Shp O P C)(F:Full O P C O.length)(hC:Cent O C)
include s F hC
theorem zJ7(hx:gS O x):∃E:Nat,0<E/\pw (gm O P C) (zv O) x E=zv O:=by
 have M:=F.g.toMon
 have:∀t,t<=O.length->∃E:Nat,0<E/\TT O t (pw (gm O P C) (zv O) x E):=by
  intro t
  induction t with
  |zero=>intro _;exact⟨1,by omega,by rw[M.pw_one hx];exact hx⟩
  |succ t ih=>
   intro ht;obtain⟨E,h1,h2⟩:=ih (by omega);have hO:=s.pr t (by omega);refine⟨E*(at_ O t).toNat,Nat.mul_pos h1 (by omega),?_⟩;rw[M.pw_mul hx];exact zKD s F hC (by omega) h2
 obtain⟨E,h1,h2⟩:=this O.length (vH _);exact⟨E,h1,h2.ext (s.zv _) λj h1 h2=>by omega⟩
theorem zCU(inS:∀x,N x->gS O x)(one:N (zv O))(cl:∀x y,N x->N y->N (gm O P C x y)):gB O P C N:=by
 have G:=F.g;have wq:∀{x},N x->∀k,N (pw (gm O P C) (zv O) x k):=λ{x} hx k=>by
  induction k with
  |zero=>exact one
  |succ k ih=>exact cl _ _ ih hx
 refine⟨λh=>inS _ h,one,λh g=>cl _ _ h g,λ{x} hx=>?_⟩;obtain⟨E,h1,h2⟩:=zJ7 s F hC (inS x hx);have e:pw (gm O P C) (zv O) x (E-1)=ginv (gS O) (gm O P C) (zv O) x:=by
  refine G.inv_eq (inS x hx) (inS _ (wq hx _)) ?_
  have:=G.pw_comm (inS x hx) (E-1)
  rw[<-this];rw[show E=(E-1)+1 by omega]at h2;exact h2
 rw[<-e];exact wq hx _
def HD(O:L3)(P:L4)(C:L5)(D:List (Option L3))(t:Nat)(x:L3):Prop:=TT O t x/\Rdu O P C D x (zv O)
omit hC in
theorem HD.row(ok:OkD O D)(hb:D[d]? = some (some b))(hd:d<O.length):HD O P C D d b:=by
 have M:=F.g.toMon;obtain⟨h1,h2⟩:=ok.row d b hb;have j4:gS O b:=h1.mono (Nat.zero_le _);refine⟨h1,.left (j:=1) hd hb h1 (by rw[h2];decide) (s.zv _) ?_ (.refl _)⟩;rw[M.pw_one j4];exact(M.r1 j4).symm
theorem HD.nn(hn:D[t]? = some none)(h:HD O P C D t x):HD O P C D (t+1) x:=by
 obtain⟨h1,h2⟩:=h;refine⟨?_,h2⟩;have key:∀{d:Nat} {b:L3},D[d]? = some (some b)->TT O d x->at_ x d≠0->TT O (t+1) x:=λ{d b} hb hx h0=>by
  rcases Nat.lt_trichotomy d t with h|h|h
  .exact absurd (h1.zero d h) h0
  .rw[h,hn]at hb;cases hb
  .exact hx.mono h
 cases h2 with
 |refl=>exact s.zv _
 |left hd hb hx h0 c6 e r=>exact key hb hx h0
 |right hd hb hx h0 c6 e r=>exact key hb hx h0
theorem HD.cnjb(ok:OkD O D)(q:QI O P C D [])(ht:t<O.length)(hb:D[t]? = some (some b))(hs:gB O P C (HD O P C D (t+1))):∀{x z:L3},Rdu O P C D x z->z=zv O->TT O (t+1) x->HD O P C D (t+1) (cnj (gS O) (gm O P C) (zv O) x b):=by
 have G:=F.g;have bS:gS O b:=(ok.row t b hb).1.mono (Nat.zero_le _);have cm:∀{x y:L3},gS O x->gS O y->cnj (gS O) (gm O P C) (zv O) (gm O P C x y) b=gm O P C (cnj (gS O) (gm O P C) (zv O) x b) (cnj (gS O) (gm O P C) (zv O) y b):=λ{x y} hx hy=>by
  have c1:=G.cnj_in hx bS;have c2:=G.cnj_in hy bS;refine(G.cnj_eq (G.cl hx hy) bS (G.cl c1 c2) ?_).symm;rw[<-G.as bS c1 c2,G.cnj_spec hx bS,G.as hx bS c2,G.cnj_spec hy bS,<-G.as hx hy bS]
 have pY:cnj (gS O) (gm O P C) (zv O) (zv O) b=zv O:=G.cnj_one bS;have xH:∀{c:L3},gS O c->HD O P C D (t+1) (cnj (gS O) (gm O P C) (zv O) c b)->∀j,HD O P C D (t+1) (cnj (gS O) (gm O P C) (zv O) (pw (gm O P C) (zv O) c j) b):=λ{c} hc h j=>by
  induction j with
  |zero=>show HD O P C D (t+1) (cnj _ _ _ (zv O) b);rw[pY];exact hs.one
  |succ j ih=>
   show HD O P C D (t+1) (cnj _ _ _ (gm O P C _ c) b);rw[cm (G.pw hc j) hc];exact hs.cl ih h
 have row:∀{d:Nat} {c:L3},t+1<=d->d<O.length->D[d]? = some (some c)->gS O c/\HD O P C D (t+1) (cnj (gS O) (gm O P C) (zv O) c b):=λ{d c} h1 h2 hc=>by
  have cT:=(ok.row d c hc).1;have cS:gS O c:=cT.mono (Nat.zero_le _);refine⟨cS,?_⟩;rw[<-G.cnj_com cS bS];have xq:=HD.row s F ok hc h2;have xv:HD O P C D (t+1) c:=⟨xq.1.mono h1,xq.2⟩;refine hs.cl xv ?_;have hN:=zDj s F hC (t:=t+1) (by omega);have T1:TT O (t+1) (gcom O P C c b):=NSub.com_in G hN xv.1 bS;have e0:∀{w},RQ O P C D [] w->Rdu O P C D w (zv O):=λ⟨z,h1,h2⟩=>by
   rcases h2 with rfl|h2
   .exact h1
   .cases h2
  rcases q.com t d b c (by omega) hb hc with h3|h3
  .have xY:gcom O P C b c=ginv (gS O) (gm O P C) (zv O) (gcom O P C c b):=G.com_swap' cS bS;have xX:gcom O P C c b=ginv (gS O) (gm O P C) (zv O) (gcom O P C b c):=G.com_swap' bS cS;have T2:TT O (t+1) (gcom O P C b c):=by rw[xY];exact hN.inv T1
   have T3:HD O P C D (t+1) (gcom O P C c b):=by rw[xX];exact hs.inv ⟨T2,e0 h3⟩
   exact T3
  .exact⟨T1,e0 h3⟩
 intro x z h
 induction h with
 |refl x=>rintro rfl hx;rw[pY];exact hs.one
 | @left d j c x x' z hd hc hx h0 c6 e r ih=>
  intro hz hT;have kN:t+1<=d:=by
   rcases Nat.lt_or_ge d (t+1)with h|h
   .exact absurd (hT.zero d h) h0
   .exact h
  obtain⟨r1,r2⟩:=row kN hd hc;have l4:gS O x':=c6.mono (Nat.zero_le _);rw[e,cm (G.pw r1 j) l4];exact hs.cl (xH r1 r2 j) (ih hz (c6.mono (by omega)))
 | @right d j c x x' z hd hc hx h0 c6 e r ih=>
  intro hz hT;have kN:t+1<=d:=by
   rcases Nat.lt_or_ge d (t+1)with h|h
   .exact absurd (hT.zero d h) h0
   .exact h
  obtain⟨r1,r2⟩:=row kN hd hc;have l4:gS O x':=c6.mono (Nat.zero_le _);rw[e,cm l4 (G.pw r1 j)];exact hs.cl (ih hz (c6.mono (by omega))) (xH r1 r2 j)
theorem HD.sub(ok:OkD O D)(q:QI O P C D []):∀k t,t+k=O.length->gB O P C (HD O P C D t)
 |0,t,ht=>by
  have hz:∀x,HD O P C D t x->x=zv O:=λx hx=>hx.1.ext (s.zv _) λj h1 h2=>by omega
  have h0:HD O P C D t (zv O):=⟨s.zv _,.refl _⟩;refine zCU s F hC (λx hx=>hx.1.mono (Nat.zero_le _)) h0 λx y hx hy=>?_;rw[hz x hx,hz y hy,F.g.l1 F.g.one];exact h0
 |k+1,t,ht=>by
  have ih:=HD.sub ok q k (t+1) (by omega);have G:=F.g;have fY:t<O.length:=by omega
  have Bj:t<D.length:=by rw[ok.len];exact fY
  rcases hD:D[t]? with _|_|b
  .rw[List.getElem?_eq_getElem Bj]at hD;cases hD
  .refine zCU s F hC (λx hx=>hx.1.mono (Nat.zero_le _)) ⟨s.zv _,.refl _⟩ λx y hx hy=>?_
   have:=ih.cl (HD.nn s F hC hD hx) (HD.nn s F hC hD hy)
   exact⟨this.1.mono (by omega),this.2⟩
  .obtain⟨bT,b1⟩:=ok.row t b hD;have bS:gS O b:=bT.mono (Nat.zero_le _);have inS:∀{x},HD O P C D (t+1) x->gS O x:=λh=>h.1.mono (Nat.zero_le _)
   -- nC of a kX of b and a sV behind
   have mk:∀(j:Nat) {h:L3},HD O P C D (t+1) h->HD O P C D t (gm O P C (pw (gm O P C) (zv O) b j) h):=λj {h} hh=>by
    obtain⟨p1,p2⟩:=zAZ s F hC fY bT j;have hN:=zDj s F hC (t:=t) (by omega);have CE:=inS hh;have T:=hN.cl p1 (hh.1.mono (Nat.le_succ _));refine⟨T,?_⟩;obtain⟨_,g2⟩:=Z7 s (d:=O.length) (b:=pw (gm O P C) (zv O) b j) (a:=h) (t:=t) (vH _) (by omega) fY (by rw[Nat.sub_self];exact p1.mono (Nat.zero_le _)) (hh.1.mono (Nat.le_succ _));have hO:=s.pr t fY;have e2:at_ (gm O P C (pw (gm O P C) (zv O) b j) h) t=(j:Int) % at_ O t:=by
     show at_ (mu O P C O.length _ _) t=_;rw[g2,zCr (p1.bd t fY) (hh.1.bd t fY),hh.1.zero t (Nat.lt_succ_self _),p2,b1,Int.mul_one,Int.add_zero,Int.emod_emod_of_dvd _ (Int.dvd_refl _)]
    by_cases h0:(j:Int) % at_ O t=0
    .obtain⟨r,hr⟩:=Int.dvd_of_emod_eq_zero h0;have ll:0<=r:=by
      rcases Int.lt_or_le r 0 with h|h
      .have:=Int.mul_neg_of_pos_of_neg (show 0<at_ O t by omega) h;omega
      .exact h
     have ej:j=(at_ O t).toNat*r.toNat:=by
      have:((j:Nat):Int)=(((at_ O t).toNat*r.toNat:Nat):Int):=by rw[Int.natCast_mul,Int.toNat_of_nonneg ll,Int.toNat_of_nonneg (by omega),hr]
      omega
     have hp:HD O P C D (t+1) (pw (gm O P C) (zv O) b (at_ O t).toNat):=by
      refine⟨zKD s F hC fY bT,?_⟩;obtain⟨z,h1,h2⟩:=q.pow t b hD;rcases h2 with rfl|h2
      .exact h1
      .cases h2
     rw[ej,G.pw_mul bS];exact(ih.cl (ih.pw hp r.toNat) hh).2
    .exact .left fY hD T (by rw[e2];exact h0) hh.1 rfl hh.2
   have mv:∀(j:Nat) {h:L3},HD O P C D (t+1) h->∃h',HD O P C D (t+1) h'/\gm O P C h (pw (gm O P C) (zv O) b j)=gm O P C (pw (gm O P C) (zv O) b j) h':=λj=>by
    induction j with
    |zero=>exactλ{h} hh=>⟨h,hh,by show gm O P C h (zv O)=gm O P C (zv O) h;rw[G.r1 (inS hh),G.l1 (inS hh)]⟩
    |succ j ij=>
     intro h hh;obtain⟨h1,a1,a2⟩:=ij hh;have a3:=HD.cnjb s F hC ok q fY hD ih a1.2 rfl a1.1;refine⟨_,a3,?_⟩;have tS:=G.pw bS j;show gm O P C h (gm O P C (pw (gm O P C) (zv O) b j) b)=gm O P C (gm O P C (pw (gm O P C) (zv O) b j) b) _;rw[<-G.as (inS hh) tS bS,a2,G.as tS (inS a1) bS,G.as tS bS (inS a3),G.cnj_spec (inS a1) bS]
   have split:∀{x},HD O P C D t x->∃j h,HD O P C D (t+1) h/\x=gm O P C (pw (gm O P C) (zv O) b j) h:=λ{x} hx=>by
    obtain⟨hT,hr⟩:=hx;have deep:∀{d},TT O d x->at_ x d≠0->d≠t->TT O (t+1) x:=λ{d} h1 h0 ai=>by
     rcases Nat.lt_trichotomy d t with h|h|h
     .exact absurd (hT.zero d h) h0
     .exact absurd h ai
     .exact h1.mono h
    have triv:TT O (t+1) x->Rdu O P C D x (zv O)->∃j h,HD O P C D (t+1) h/\x=gm O P C (pw (gm O P C) (zv O) b j) h:=λh1 h2=>⟨0,x,⟨h1,h2⟩,(G.l1 (h1.mono (Nat.zero_le _))).symm⟩
    have ll:=hr;cases hr with
    |refl=>exact triv (s.zv _) (.refl _)
    | @left d j c _ x' _ hd hc h1 h0 c6 e r=>
     by_cases kN:d=t
     .subst kN;rw[hD]at hc;cases hc;exact⟨j,x',⟨c6,r⟩,e⟩
     .exact triv (deep h1 h0 kN) ll
    | @right d j c _ x' _ hd hc h1 h0 c6 e r=>
     by_cases kN:d=t
     .subst kN;rw[hD]at hc;cases hc;obtain⟨h',a1,a2⟩:=mv j (show HD O P C D (d+1) x' from⟨c6,r⟩);exact⟨j,h',a1,by rw[e,a2]⟩
     .exact triv (deep h1 h0 kN) ll
   refine zCU s F hC (λx hx=>hx.1.mono (Nat.zero_le _)) ⟨s.zv _,.refl _⟩ λx y hx hy=>?_;obtain⟨j,h,a1,rfl⟩:=split hx;obtain⟨j',h',a2,rfl⟩:=split hy;obtain⟨h2,a3,a4⟩:=mv j' a1;have p1:=G.pw bS j;have p2:=G.pw bS j';have e:gm O P C (gm O P C (pw (gm O P C) (zv O) b j) h) (gm O P C (pw (gm O P C) (zv O) b j') h')=gm O P C (pw (gm O P C) (zv O) b (j+j')) (gm O P C h2 h'):=by
    rw[G.as p1 (inS a1) (G.cl p2 (inS a2)),<-G.as (inS a1) p2 (inS a2),a4,G.as p2 (inS a3) (inS a2),<-G.as p1 p2 (G.cl (inS a3) (inS a2)),G.pw_add bS]
   rw[e];exact mk _ (ih.cl a3 a2)
omit hC in
theorem HD.fil(h:HD O P C D t x)(hd:dep x<O.length):∃b,D[dep x]? = some (some b):=by
 obtain⟨h1,h2⟩:=h;have key:∀{d:Nat} {b:L3},D[d]? = some (some b)->TT O d x->at_ x d≠0->∃b,D[dep x]? = some (some b):=λ{d b} hb hx h0=>by
  have:dep x=d:=zBi (λj hj=>hx.zero j hj) h0
  rw[this];exact⟨b,hb⟩
 cases h2 with
 |refl=>rw[zLs s]at hd;omega
 |left hd hb hx h0 c6 e r=>exact key hb hx h0
 |right hd hb hx h0 c6 e r=>exact key hb hx h0
end
def GC(O:L3)(P:L4)(C:L5)(L:L4)(x:L3):Prop:=∀N,gB O P C N->(∀l∈L,N l)->N x
theorem GC.sub(F:Full O P C O.length)(hL:∀l∈L,gS O l):gB O P C (GC O P C L):=
 ⟨λh=>h _ F.g.wholeB hL,λN hN _=>hN.one,λh g N hN hl=>hN.cl (h N hN hl) (g N hN hl),λh N hN hl=>hN.inv (h N hN hl)⟩
structure CanG(O:L3)(H:L3->Prop)(u:L4):Prop where
 asc:u.Pairwise λa b=>dep a<dep b
 mem:∀v∈u,H v
 one:∀v∈u,gS O v/\dep v<O.length/\at_ v (dep v)=1
 red:∀v∈u,∀w∈u,dep v≠dep w->at_ v (dep w)=0
 all:∀x,H x->dep x<O.length->∃v∈u,dep v=dep x
theorem zIZ:∀{u u':L4},(u.Pairwise λa b=>dep a<dep b)->(u'.Pairwise λa b=>dep a<dep b)->(∀v,v∈u↔v∈u')->u=u'
 |[],[],_,_,_=>rfl
 |[],v::u',_,_,h=>by have:=(h v).2 (by simp);cases this
 |v::u,[],_,_,h=>by have:=(h v).1 (by simp);cases this
 |v::u,w::u',h1,h2,h=>by
  rw[List.pairwise_cons]at h1 h2;have e:v=w:=by
   rcases List.mem_cons.1 ((h v).1 (by simp))with e|e
   .exact e
   .rcases List.mem_cons.1 ((h w).2 (by simp))with e'|e'
    .exact e'.symm
    .have:=h2.1 v e;have:=h1.1 w e';omega
  subst e;rw[zIZ h1.2 h2.2 λx=>?_];constructor
  .intro hx;rcases List.mem_cons.1 ((h x).1 (by simp[hx]))with e|e
   .subst e;have:=h1.1 x hx;omega
   .exact e
  .intro hx;rcases List.mem_cons.1 ((h x).2 (by simp[hx]))with e|e
   .subst e;have:=h2.1 x hx;omega
   .exact e
theorem CanG.row_eq(s:Shp O P C)(F:Full O P C O.length)(hH:gB O P C H)(h:CanG O H u)(h':CanG O H u'){v v':L3}(hv:v∈u)(dj:v'∈u')(hd:dep v=dep v'):v=v':=by
 have G:=F.g;obtain⟨a1,a2,a3⟩:=h.one v hv;obtain⟨b1,b2,b3⟩:=h'.one v' dj;have iv:=G.inv_in a1;have hz:H (gm O P C (ginv (gS O) (gm O P C) (zv O) v) v'):=hH.cl (hH.inv (h.mem v hv)) (h'.mem v' dj);have e:gm O P C v (gm O P C (ginv (gS O) (gm O P C) (zv O) v) v')=v':=by rw[<-G.as a1 iv.1 b1,iv.2,G.l1 b1]
 generalize gm O P C (ginv (gS O) (gm O P C) (zv O) v) v'=z at *
 have zS:=hH.inS hz;rcases Nat.lt_or_ge (dep z) O.length with hdz|hdz
 .exfalso;obtain⟨g1,g2⟩:=Z7 s (d:=O.length) (b:=v) (a:=z) (t:=dep z) (vH _) (by omega) hdz (by rw[Nat.sub_self];exact a1) (zCD zS);have e':mu O P C O.length v z=v':=e;rw[e']at g1 g2;have eH:at_ z (dep z)≠0:=Ze (by rw[zS.len];exact hdz);have kh:at_ v' (dep z)=at_ v (dep z):=by
   rcases Nat.lt_trichotomy (dep z) (dep v)with h1|h1|h1
   .rw[qE h1,qE (by omega)]
   .rw[h1,a3,hd,b3]
   .obtain⟨w,hw,ew⟩:=h.all z hz hdz;obtain⟨w',kd,BH⟩:=h'.all z hz hdz;rw[<-ew,h.red v hv w hw (by omega),ew,<-BH,h'.red v' dj w' kd (by omega)]
  have:=zEq (a1.bd _ hdz) (zS.bd _ hdz) (g2.symm.trans kh)
  exact eH this
 .rw[zIL zS hdz,G.r1 a1]at e;exact e
theorem CanG.unique(s:Shp O P C)(F:Full O P C O.length)(hH:gB O P C H)(h:CanG O H u)(h':CanG O H u'):u=u':=by
 refine zIZ h.asc h'.asc λv=>⟨λhv=>?_,λhv=>?_⟩
 .obtain⟨w,hw,e⟩:=h'.all v (h.mem v hv) (h.one v hv).2.1;rw[h.row_eq s F hH h' hv hw e.symm];exact hw
 .obtain⟨w,hw,e⟩:=h.all v (h'.mem v hv) (h'.one v hv).2.1;rw[h'.row_eq s F hH h hv hw e.symm];exact hw
theorem CanG.len(h:CanG O H u):u.length<=O.length:=by
 have:(u.map dep).Pairwise (· < ·):=by rw[List.pairwise_map];exact h.asc
 have key:∀(l:List Nat) (m:Nat),l.Pairwise (· < ·)->(∀x∈l,m<=x/\x<O.length)->l.length+m<=O.length\/l=[]:=by
  intro l
  induction l with
  |nil=>intro m _ _;exact .inr rfl
  |cons a l ih=>
   intro m h1 h2;rw[List.pairwise_cons]at h1;have ha:=h2 a (by simp);rcases ih (a+1) h1.2 (λx hx=>⟨h1.1 x hx,(h2 x (by simp[hx])).2⟩)with h3|h3
   .left;simp only[List.length_cons];omega
   .subst h3;left;simp;omega
 rcases key _ 0 this (λx hx=>by
  obtain⟨v,hv,rfl⟩:=List.mem_map.1 hx;exact⟨Nat.zero_le _,(h.one v hv).2.1⟩)with h1|h1
 .simpa using h1
 .rw[List.map_eq_nil_iff]at h1;subst h1;simp
theorem GC.table(s:Shp O P C)(F:Full O P C O.length)(hC:Cent O C)(ok:OkD O D)(q:QI O P C D [])(h:∀N,gB O P C N->(InD N D↔∀l∈L,N l)):∀x,GC O P C L x↔HD O P C D 0 x:=by
 have hs:=HD.sub s F hC ok q O.length 0 (by omega);intro x;constructor
 .intro hx;refine hx _ hs ((h _ hs).1 λd b hb=>?_);have hd:d<O.length:=by
   rw[<-ok.len];rcases Nat.lt_or_ge d D.length with h|h
   .exact h
   .rw[List.getElem?_eq_none h]at hb;cases hb
  have:=HD.row s F ok hb hd
  exact⟨this.1.mono (Nat.zero_le _),this.2⟩
 .intro hx N hN hl;exact(hx.2.iff F hN ((h N hN).2 hl)).2 hN.one
structure CanD(O:L3)(P:L4)(C:L5)(D:List (Option L3))(u:L4):Prop where
 one:∀v∈u,gS O v/\dep v<O.length/\at_ v (dep v)=1
 asc:u.Pairwise λa b=>dep a<dep b
 red:∀v∈u,∀w∈u,dep v≠dep w->at_ v (dep w)=0
 all:∀(d:Nat) (y:L3),D[d]? = some (some y)->∃v∈u,dep v=d
 len:u.length<=O.length
 iff:∀N,gB O P C N->((∀x∈u,N x)↔InD N D)
theorem CanD.can(s:Shp O P C)(F:Full O P C O.length)(hC:Cent O C)(ok:OkD O D)(q:QI O P C D [])(cd:CanD O P C D u)(h:∀N,gB O P C N->(InD N D↔∀l∈L,N l)):CanG O (GC O P C L) u:=
 ⟨cd.asc,λv hv N hN hl=>(cd.iff N hN).2 ((h N hN).2 hl) v hv,cd.one,cd.red,λx hx hd=>by
  obtain⟨b,hb⟩:=HD.fil s F ((GC.table s F hC ok q h x).1 hx) hd;exact cd.all _ b hb⟩
section
variable(s:Shp O P C)(F:Full O P C O.length)(hC:Cent O C)
include s F hC
theorem zRr(hb:gS O b)(k:Nat):∃j,gm O P C (pw (gm O P C) (zv O) b j) (pw (gm O P C) (zv O) b k)=zv O/\gm O P C (pw (gm O P C) (zv O) b k) (pw (gm O P C) (zv O) b j)=zv O:=by
 have M:=F.g.toMon;obtain⟨E,h1,h2⟩:=zJ7 s F hC hb;have e:pw (gm O P C) (zv O) b (E*k)=zv O:=by rw[M.pw_mul hb,h2,M.pw_e]
 have hle:k<=E*k:=Nat.le_mul_of_pos_left k h1;refine⟨E*k-k,?_,?_⟩
 .rw[<-M.pw_add hb,show E*k-k+k=E*k by omega,e]
 .rw[<-M.pw_add hb,show k+(E*k-k)=E*k by omega,e]
theorem Rdu.stepL(ok:OkD O D)(hb:D[d]? = some (some b))(hd:d<O.length)(hz:TT O d z)(h0:at_ z d≠0)(cq:TT O (d+1) (gm O P C (pw (gm O P C) (zv O) b k) z)):Rdu O P C D z (gm O P C (pw (gm O P C) (zv O) b k) z):=by
 have G:=F.g;have bS:gS O b:=(ok.row d b hb).1.mono (Nat.zero_le _);have zS:gS O z:=hz.mono (Nat.zero_le _);obtain⟨j,h1,h2⟩:=zRr s F hC bS k;refine .left (j:=j) hd hb hz h0 cq ?_ (.refl _);rw[<-G.as (G.pw bS j) (G.pw bS k) zS,h1,G.l1 zS]
theorem Rdu.stepR(ok:OkD O D)(hb:D[d]? = some (some b))(hd:d<O.length)(hz:TT O d z)(h0:at_ z d≠0)(hw:gS O x)(hx:gm O P C x (pw (gm O P C) (zv O) b k)=z)(c6:TT O (d+1) x):Rdu O P C D z x:=
 .right (j:=k) hd hb hz h0 c6 hx.symm (.refl _)
end
end Go.Grp
namespace Go.Proofs
open Go.Ab Go.Lie Go.Grp
variable{U:PHeap}{K:PV->PHeap->Prop}{O:L3}{P:L4}{C:L5}{vO vP vC vx va:PV}{x y a:L3}{rb:List PV}{D:List (Option L3)}{d sp ss sb n:Nat}
structure SeqG(U:PHeap)(ss sb sp:Nat)(n:Nat)(rb:List PV)(vO vP vC:PV):Prop where
 obj:U.obj ss=some [.ptr sp 0,.sl sb 0 n (.known n)]
 lt:ss<U.next
 bobj:U.obj sb=some rb
 blt:sb<U.next
 pg:PtrG U sp vO vP vC
 ne1:ss≠sb
 ne2:sp≠sb
theorem SeqG.keep{h:PHeap}(q:SeqG U ss sb sp n rb vO vP vC)(hk:Keep U h):SeqG h ss sb sp n rb vO vP vC:=
 ⟨by rw[hk.obj _ q.lt];exact q.obj,Nat.lt_of_lt_of_le q.lt hk.next,by rw[hk.obj _ q.blt];exact q.bobj,Nat.lt_of_lt_of_le q.blt hk.next,q.pg.keep hk,q.ne1,q.ne2⟩
theorem SeqG.setB(q:SeqG U ss sb sp n rb vO vP vC)(rb':List PV):SeqG (U.set sb rb') ss sb sp n rb' vO vP vC:=
 ⟨by rw[zI,if_neg q.ne1];exact q.obj,q.lt,by rw[zI,if_pos rfl],q.blt,q.pg.set q.ne2 _,q.ne1,q.ne2⟩
def DRow(n:Nat)(c:PV)(r:Option L3):Prop:=(c=.fz true .nils 0 []/\r=none)\/∃o cap y,c=.fz true (.sl o 0 n cap) n (pis y)/\r=some y
theorem DRow.bel{c:PV}{r:Option L3}(h:DRow n c r):Bel 0 c:=by
 rcases h with ⟨rfl,_⟩|⟨_,_,_,rfl,_⟩<;>trivial
theorem DRow.bels{rb:List PV}{D:List (Option L3)}(h:All2 (DRow n) rb D)(m:Nat):Bels m rb:=by
 refine zEu.2 λc hc=>?_;obtain⟨k,hk,rfl⟩:=List.mem_iff_getElem.1 hc;exact(DRow.bel (h.2 k _ _ (List.getElem?_eq_getElem hk) (List.getElem?_eq_getElem (by rw[<-h.1];exact hk)))).up (Nat.zero_le _)
theorem DRow.get{rb:List PV}{D:List (Option L3)}(h:All2 (DRow n) rb D){d:Nat}(hd:d<D.length):(rb[d]? = some (.fz true .nils 0 [])/\D[d]? = some none)\/∃o cap y,rb[d]? = some (.fz true (.sl o 0 n cap) n (pis y))/\D[d]? = some (some y):=by
 have hb:d<rb.length:=by rw[h.1];exact hd
 rw[List.getElem?_eq_getElem hb,List.getElem?_eq_getElem hd];rcases h.2 d _ _ (List.getElem?_eq_getElem hb) (List.getElem?_eq_getElem hd)with ⟨e1,e2⟩|⟨o,cap,y,e1,e2⟩
 .exact .inl ⟨by rw[e1],by rw[e2]⟩
 .exact .inr ⟨o,cap,y,by rw[e1],by rw[e2]⟩
theorem DRow.put{rb:List PV}{D:List (Option L3)}(h:All2 (DRow n) rb D){o d:Nat}{cap:Cap}:All2 (DRow n) (rb.set d (.fz true (.sl o 0 n cap) n (pis y))) (D.set d (some y)):=by
 refine⟨by rw[List.length_set,List.length_set];exact h.1,λk c r hc hr=>?_⟩;rw[List.getElem?_set]at hc hr;by_cases e:d=k
 .rw[if_pos e]at hc hr;split at hc
  .split at hr
   .cases hc;cases hr;exact .inr ⟨o,cap,y,rfl,rfl⟩
   .cases hr
  .cases hc
 .rw[if_neg e]at hc hr;exact h.2 k c r hc hr
theorem zOK(s:Shp O P C)(F:Full O P C O.length)(hn:0<O.length)(hs:PtrG U sp vO vP vC)(hR:IsPr vO vP vC O P C)(ha:gS O a)(eN:FI va a){k:Int}(dh:0<=k/\k<=1000000)(hk:∀o cap,K (.fz true (.sl o 0 O.length cap) O.length (pis (Grp.pw (gm O P C) (zv O) a k.toNat))) U):
  zA Tryz.prog 158 [.ptr sp 0,va,.int .i64 k] U K:=by
 have hlen:=(F.g.pw ha k.toNat).len;refine zA.gh (zHT s F hs hR (by rw[Nat.sub_self];exact ha) eN dh ⟨λh0=>?_,λcap hc=>?_⟩)
 .rw[h0]at hlen;simp at hlen;omega
 .rw[hlen]at hc ⊢;exact Gh.finF (zD U _) (by simp[PHeap.new]) (vH _) (zN _ _) hc.ok λo=>hk o cap
theorem zPx(s:Shp O P C)(F:Full O P C O.length)(hC:Cent O C)(hq:SeqG U ss sb sp O.length rb vO vP vC)(hR:IsPr vO vP vC O P C)(hD:OkD O D)(cU:All2 (DRow O.length) rb D)(hx:gS O x)(aW:FI vx x)
  (hk:∀v z,FI v z->gS O z->(dep z<O.length->D[dep z]? = some none)->Rdu O P C D x z->K v U):zA Tryz.prog 279 [.ptr ss 0,vx] U K:=by
 have aX:=s.le;obtain⟨wx,ax,rfl⟩:=aW;have aV:=hx.len;have r0:U.rd1 ss 0=some (.ptr sp 0):=by rw[zG hq.obj];rfl
 have r1:U.rd1 ss 1=some (.sl sb 0 O.length (.known O.length)):=by rw[zG hq.obj];rfl
 have aM:=hR;obtain⟨⟨w0,a0,rfl⟩,_,_⟩:=hR;have e0:U.rd1 sp 0=some (.fz w0 a0 O.length (pis O)):=by rw[zG hq.pg.obj];rfl
 refine zP mix Tryz.func279 cf279 rfl ?_;dsimp only[if279,qD,eD,mI0,lI0,xI0,bI0,cI0,sI0,C1,mD0,lD0,fD0,xD0,pD0,G0,gm0,aI0,zI0,R0,S0];simp only[Z3,seval,-ae];refine zAN rfl (by omega) ?_;simp only[Z3,seval,-ae];refine zF (λm vs h'=>∃z w a,m=O.length-dep z/\vs=[.ptr ss 0,.fz w a O.length (pis z),.int .i64 (dep z)]/\U=h'/\gS O z/\Rdu O P C D x z) _ ⟨x,wx,ax,rfl,by rw[aV];rfl,rfl,hx,.refl _⟩ ?_
 rintro m vs h' ⟨z,w,a,rfl,rfl,rfl,hz,hN⟩
 have dT:=hz.len;by_cases hd:dep z<O.length
 .have bH:=zG hq.bobj (dep z);have hdz:dep z<z.length:=by omega
  have bz:=hz.bd _ hd;have bO:=s.pr _ hd;rw[at_eq hdz]at bz;rw[at_eq hd]at bz bO;rcases DRow.get cU (d:=dep z) (by rw[hD.len];exact hd)with ⟨e1,e2⟩|⟨o,cap,y,e1,e2⟩
  .rw[e1]at bH;simp only[Z3,seval,-ae,hd,r1,bH];exact hk _ z ⟨w,a,by rw[dT]⟩ hz (λ_=>e2) hN
  .rw[e1]at bH;obtain⟨y1,y2⟩:=hD.row _ _ e2;have ew:IntKind.i64.wrap (O[dep z] - z[dep z])=O[dep z] - z[dep z]:=wrap64 (by omega) (by omega);simp only[Z3,seval,-ae,hd,r0,r1,bH,e0,zQ,gi hd,gi hdz,ew];refine zHU s F hq.pg aM (by rw[Nat.sub_self];exact y1.mono (Nat.zero_le _)) ⟨true,_,by rw[y1.len]⟩ (by omega) λv1 f1=>?_;simp only[Z3,seval,-ae,hd,r0,r1,bH,e0];have g1:gS O (Grp.pw (gm O P C) (zv O) y (O[dep z] - z[dep z]).toNat):=F.g.pw (y1.mono (Nat.zero_le _)) _;refine zB8 s F hq.pg aM (by rw[Nat.sub_self];exact g1) (by rw[Nat.sub_self];exact hz) f1 ⟨w,a,by rw[dT]⟩ λv2 f2=>?_;have bZ:=zL0 s F hC hd (zCD hz) y1 y2;rw[at_eq hd,at_eq hdz]at bZ;have cM:gS O (mu O P C O.length (Grp.pw (mu O P C O.length) (zv O) y (O[dep z] - z[dep z]).toNat) z):=F.g.cl g1 hz;have eH:at_ z (dep z)≠0:=Ze (by omega);have r8:Rdu O P C D x (mu O P C O.length (Grp.pw (mu O P C O.length) (zv O) y (O[dep z] - z[dep z]).toNat) z):=hN.trans (Rdu.stepL s F hC hD e2 hd (zCD hz) eH bZ);have oj:TT O (dep z+1) (mu O P C O.length (Grp.pw (mu O P C O.length) (zv O) y (O[dep z] - z[dep z]).toNat) z):=bZ;generalize mu O P C O.length (Grp.pw (mu O P C O.length) (zv O) y (O[dep z] - z[dep z]).toNat) z=z' at *
   have aG:=zAO oj (by omega);have aU:=cM.len;have h0:z'[dep z]'(by omega)=0:=by
    have:=oj.zero (dep z) (Nat.lt_succ_self _)
    rwa[at_eq (by omega)]at this
   obtain⟨w2,a2,rfl⟩:=f2;simp only[Z3,seval,-ae,aU,hd,zQ,gi (show dep z<z'.length by omega),h0];refine zAN aU.symm (by omega) ?_;simp only[Z3,seval,-ae];exact⟨_,by omega,z',w2,a2,rfl,rfl,cM,r8⟩
 .have dW:dep z=O.length:=by have:=Qd z;omega
  simp only[Z3,seval,-ae,dW,Nat.lt_irrefl];exact hk _ z ⟨w,a,by rw[dT]⟩ hz (λh=>by omega) hN
end Go.Proofs
namespace Go.Proofs
open Go.Ab Go.Lie Go.Grp
variable{U:PHeap}{K:PV->PHeap->Prop}{O:L3}{P:L4}{C:L5}{vO vP vC vx vy vL:PV}{x y a b:L3}{L:L4}{rb:List PV}{D:List (Option L3)}{d sp ss sb:Nat}
theorem Keep.self{rb:List PV}{h:PHeap}(hb:U.obj sb=some rb)(k:Keep U h):Keep (U.set sb rb) h:=⟨k.next,k.top,λt ht=>by
 rw[k.obj t ht,zI];split
 .rename_i e;rw[e];exact hb
 .rfl⟩
theorem Gh.finB{σ0 σ1:PHeap}{rb:List PV}{v:PV}(wV:sb<σ0.next)(hk:Keep (σ0.set sb rb) σ1)(hb:Bels 0 rb)(hv:Bel σ0.next v)(k:K v (σ0.set sb rb)):Gh σ0 K v σ1:=λw=>
 Gh.cut (σ2:=σ0.set sb rb) rfl hk.top (λt cs ht=>by
  have ag:t<σ0.next:=by
   rw[zI]at ht;split at ht
   .rename_i e;rw[e];exact wV
   .exact w.lt ht
  refine⟨ag,by rw[hk.obj t ag];exact ht,?_⟩;rw[zI]at ht;split at ht
  .cases ht;exact .inr (hb.up (Nat.zero_le _))
  .exact .inl ht) hv k w
theorem zGy(s:Shp O P C)(F:Full O P C O.length)(hs:PtrG U sp vO vP vC)(hR:IsPr vO vP vC O P C)(hx:gS O x)(hy:gS O y)(aW:FI vx x)(fA:FI vy y)(hk:∀v,FI v (gcom O P C x y)->K v U):
  zA Tryz.prog 235 [.ptr sp 0,vx,vy] U K:=by
 have G:=F.g;have up:∀{z:L3},gS O z->TT O (O.length-O.length) z:=λh=>by rw[Nat.sub_self];exact h
 have dn:∀{z:L3},TT O (O.length-O.length) z->gS O z:=λh=>by rw[Nat.sub_self]at h;exact h
 refine zB mix Tryz.func235 ?_
 conv=>arg 2;cbv
 refine zC rfl ?_;simp only[Z3,seval,-ae];refine zGX s F hs hR (up hx) aW λv1 z1 h1 e1 f1=>?_;simp only[Z3,seval,-ae];refine zIN s F hs hR (up hx) (up hy) aW fA λv2 z2 h2 e2 f2=>?_;simp only[Z3,seval,-ae];refine zB8 s F hs hR h1 h2 f1 f2 λv3 f3=>?_;simp only[Z3,seval,-ae];have e:mu O P C O.length z1 z2=gcom O P C x y:=by
  refine G.com_eq hx hy (G.cl (dn h1) (dn h2)) ?_;have i1:z1=ginv (gS O) (gm O P C) (zv O) x:=G.inv_eq hx (dn h1) e1;show gm O P C (gm O P C y x) (gm O P C z1 z2)=gm O P C x y;have yA:gm O P C x (gm O P C z1 z2)=z2:=by rw[<-G.as hx (dn h1) (dn h2),show gm O P C x z1=zv O from e1,G.l1 (dn h2)]
  rw[G.as hy hx (G.cl (dn h1) (dn h2)),yA];exact e2
 rw[e]at f3;exact hk v3 f3
theorem zSB(s:Shp O P C)(F:Full O P C O.length)(hC:Cent O C)(hp:∀o∈O,isP o)(hq:SeqG U ss sb sp O.length rb vO vP vC)(hR:IsPr vO vP vC O P C)(hD:OkD O D)(cU:All2 (DRow O.length) rb D)(pI:QI O P C D [])(hL:FII vL L)(hg:∀x∈L,gS O x)(sf:L.length<=1000000)
  (hk:∀(t:Bool) rb' D',All2 (DRow O.length) rb' D'->OkD O D'->QI O P C D' []->(∀N,gB O P C N->(InD N D'↔(InD N D/\∀q∈L,N q)))->free D'<=free D->(t=true->free D'<free D)->K (.bool t) (U.set sb rb')):
  zA Tryz.prog 194 [.ptr ss 0,vL] U K:=by
 have aX:=s.le;have uD:=zBJ D;rw[hD.len]at uD;have G:=F.g;have up:∀{z:L3},gS O z->TT O (O.length-O.length) z:=λh=>by rw[Nat.sub_self];exact h
 obtain⟨wl,al,rl,rfl,aT⟩:=hL;have aM:=hR;obtain⟨⟨w0,a0,rfl⟩,_,_⟩:=hR;refine zA.gh ?_;refine zP mix Tryz.func194 cf194 rfl ?_;dsimp only[if194,qI,eI,qD,eD,mI0,kI0,tI0,lI0,fI0,xI0,bI0,cI0,sI0,pI0,C1,C2,C3,mD0,lD0,fD0,xD0,pD0,I0,yI0,vI0,R0,S0];simp only[Z3,seval,-ae];refine zIj aT.1 (aT.bI 0) (by omega) λvQ h1 k1 q1=>?_;simp only[Z3,seval,-ae];refine zF (λm vs h'=>∃g Q vQ rb' D' rq,m=10*free D'+Q.length/\vs=[.ptr ss 0,.bool g,vQ]/\Keep (U.set sb rb') h'/\PQ U.next h' vQ Q.length rq/\All2 FI rq Q/\(∀x∈Q,gS O x)/\All2 (DRow O.length) rb' D'/\OkD O D'/\QI O P C D' Q/\(∀N,gB O P C N->((InD N D'/\∀q∈Q,N q)↔(InD N D/\∀q∈L,N q)))/\free D'<=free D/\(g=true->free D'<free D)/\Q.length+10*free D'<=L.length+10*free D) (10*free D+L.length) ?_ ?_
 .exact⟨false,L,vQ,rb,D,rl,rfl,rfl,Keep.self hq.bobj k1,q1,aT,hg,cU,hD,pI.mem (λq hq=>by cases hq),λN _=>Iff.rfl,vH _,by simp,vH _⟩
 clear k1 q1 vQ h1
 as_aux_lemma=>
 rintro m vs h' ⟨g,Q,vQ,rb',D',rq,rfl,rfl,ar,m8,hJ,o8,fH,jb,u9,hS,xn,xm,hb⟩
 have cG:=(hq.setB rb').keep ar;cases Q with
 |nil=>
  have hlen:pLen vQ=some (.int .i64 0):=m8.pLen;simp only[Z3,seval,-ae,hlen];exact Gh.finB hq.blt ar (DRow.bels fH 0) trivial (hk g rb' D' fH jb u9 (λN hN=>⟨λh=>(hS N hN).1 ⟨h,λq hq=>(by cases hq)⟩,λh=>((hS N hN).2 h).1⟩) xn xm)
 |cons x Q=>
  have hlen:=m8.pLen;obtain⟨c,fx,rfl,hc,gb⟩:∃c fx,rq=c::fx/\FI c x/\All2 FI fx Q:=by
   cases rq with
   |nil=>exact absurd hJ.1 (by simp)
   |cons c fx=>exact⟨c,fx,rfl,hJ.2 0 c x rfl rfl,⟨by simpa using hJ.1,λk a b ha hb=>hJ.2 (k+1) a b (by simpa using ha) (by simpa using hb)⟩⟩
  obtain⟨sq,off,cap,mV,rfl,bH,aD,jk,kx⟩:=m8.uncons;have lI:=hc;obtain⟨w4,a4,rfl⟩:=hc;have hx:=o8 x (by simp);have jE:∀q∈Q,gS O q:=λq hq=>o8 q (List.mem_cons_of_mem _ hq);have uC:=zBJ D';rw[jb.len]at uC;simp only[List.length_cons]at hlen jk kx aD hb ⊢;have ie:(0:Int)<((Q.length+1:Nat):Int):=by omega
  rw[Nat.add_sub_cancel]at kx;simp only[Z3,seval,-ae,hlen,ie,aD,bH,jk];refine zPx s F hC cG aM jb fH hx lI λvz z fz gz eZ cM=>?_;obtain⟨wz,az,rfl⟩:=fz;have dT:=gz.len;simp only[Z3,seval,-ae,hlen,ie,aD,bH,jk];refine zAN rfl (by omega) ?_;by_cases hd:dep z<O.length;rotate_left
  .have dW:dep z=O.length:=by have:=Qd z;omega
   have eH:=zIL gz (by omega);simp only[Z3,seval,-ae,dT,dW];refine⟨_,?_,g,Q,mV,rb',D',fx,rfl,rfl,ar,kx,gb,jE,fH,jb,u9.drop (by rw[<-eH];exact cM),λN hN=>?_,xn,xm,by omega⟩
   .omega
   .rw[<-hS N hN];refine⟨λ⟨h1,h2⟩=>⟨h1,λq hq=>?_⟩,λ⟨h1,h2⟩=>⟨h1,λq hq=>h2 q (List.mem_cons_of_mem _ hq)⟩⟩;rcases List.mem_cons.1 hq with rfl|hq
    .rw[cM.iff F hN h1,eH];exact hN.one
    .exact h2 q hq
  have hdz:dep z<z.length:=by omega
  have pK:=hp _ (List.getElem_mem hd);have bO:=pK.bd;have bz:=gz.bd _ hd;have nz:=Ze hdz;rw[at_eq hdz]at bz nz;rw[at_eq hd]at bz;have dW:((dep z:Int)=(z.length:Int))=False:=by simp;omega
  have rr:∀{h:PHeap},SeqG h ss sb sp O.length rb' (.fz w0 a0 O.length (pis O)) vP vC->h.rd1 ss 0=some (.ptr sp 0)/\h.rd1 ss 1=some (.sl sb 0 O.length (.known O.length))/\h.rd1 sp 0=some (.fz w0 a0 O.length (pis O)):=λq=>⟨by rw[zG q.obj];rfl,by rw[zG q.obj];rfl,by rw[zG q.pg.obj];rfl⟩
  obtain⟨r0,r1,e0⟩:=rr cG;simp only[Z3,seval,-ae,hd,dW,r0,e0,zQ,gi hdz,gi hd,hdz];refine zCw pK ⟨by omega,bz.2⟩ λq qb q1 q2 q3=>?_;simp only[Z3,seval,-ae,hd,dW,r0,e0,zQ,gi hdz,gi hd,hdz];refine PQ.push (bytes:=24) (σb:=U.set sb rb') ar kx (by omega) (by omega) λv1 h1 k1 p1=>?_;have rM:=(hq.setB rb').keep k1;obtain⟨s0,s1,f0⟩:=rr rM;simp only[Z3,seval,-ae,s0,s1,f0];refine zOK s F (by omega) rM.pg aM gz ⟨wz,az,rfl⟩ (k:=q) (by omega) λoy jS=>?_;obtain⟨y1,y2⟩:=zAZ s F hC hd (zCD gz) q.toNat;have jg:at_ (Grp.pw (gm O P C) (zv O) z q.toNat) (dep z)=1:=by
   rw[y2,at_eq hdz,at_eq hd,Int.toNat_of_nonneg q1,Int.mul_comm];exact q3
  have vh:∀N,gB O P C N->N z->N (Grp.pw (gm O P C) (zv O) z q.toNat):=λN hN h=>hN.pw h _;generalize Grp.pw (gm O P C) (zv O) z q.toNat=y at *
  have yS:gS O y:=y1.mono (Nat.zero_le _);have e6:=yS.len;simp only[Z3,seval,-ae,s0,s1,f0,zQ,gi hd,hd];refine zHU s F rM.pg aM (up yS) ⟨true,.sl oy 0 O.length jS,by rw[e6]⟩ (k:=O[dep z]) (by omega) λvo fo=>?_;have BC:=fo;obtain⟨wo,ao,rfl⟩:=fo;simp only[Z3,seval,-ae,s0,s1,f0,zQ,gi hd,hd];refine PQ.push (bytes:=24) (σb:=U.set sb rb') k1 p1 (by omega) (by omega) λv2 h2 k2 p2=>?_;have oG:=(hq.setB rb').keep k2;obtain⟨t0,t1,g0⟩:=rr oG;have vD:gS O (Grp.pw (gm O P C) (zv O) y O[dep z].toNat):=G.pw yS _;have pU:FI (.fz wz az z.length (pis z)) z:=⟨wz,az,rfl⟩;have tK:All2 FI ((fx++[.fz wz az z.length (pis z)])++[.fz wo ao _ (pis (Grp.pw (gm O P C) (zv O) y O[dep z].toNat))]) ((Q++[z])++[Grp.pw (gm O P C) (zv O) y O[dep z].toNat]):=(gb.snoc pU).snoc BC;have mD:∀q∈(Q++[z])++[Grp.pw (gm O P C) (zv O) y O[dep z].toNat],gS O q:=λq hq=>by
   rcases List.mem_append.1 hq with hq|hq
   .rcases List.mem_append.1 hq with hq|hq
    .exact jE q hq
    .rw[List.mem_singleton.1 hq];exact gz
   .rw[List.mem_singleton.1 hq];exact vD
  simp only[Z3,seval,-ae,t0,t1,g0];generalize jP:(Q++[z])++[Grp.pw (gm O P C) (zv O) y O[dep z].toNat]=Q2 at *
  have mQ:Q2.length=Q.length+1+1:=by rw[<-jP];simp
  have ue:z∈Q2:=by rw[<-jP];simp
  have ug:∀q∈Q,q∈Q2:=λq hq=>by rw[<-jP];simp[hq]
  have na:Grp.pw (gm O P C) (zv O) y O[dep z].toNat∈Q2:=by rw[<-jP];simp
  have jQ:∀N,gB O P C N->N y->((∀q∈Q2,N q)↔(∀q∈Q,N q)/\N z):=λN hN hy=>by
   rw[<-jP];refine⟨λh=>⟨λq hq=>h q (by simp[hq]),h z (by simp)⟩,λ⟨h3,h4⟩ q hq=>?_⟩;rcases List.mem_append.1 hq with hq|hq
   .rcases List.mem_append.1 hq with hq|hq
    .exact h3 q hq
    .rw[List.mem_singleton.1 hq];exact h4
   .rw[List.mem_singleton.1 hq];exact hN.pw hy _
  generalize (fx++[PV.fz wz az z.length (pis z)])++[.fz wo ao _ (pis (Grp.pw (gm O P C) (zv O) y O[dep z].toNat))]=x4 at *
  rw[<-mQ]at p2;refine zF (λm us h3=>∃(i:Nat) (vQ:PV) (E:L4) (re:List PV),i<=O.length/\m=O.length-i/\us=[.ptr ss 0,.bool true,vQ,.fz true (.sl oy 0 O.length jS) O.length (pis y),.int .i64 (dep z),.sl sb 0 O.length (.known O.length),.int .i64 O.length,.int .i64 i]/\Keep (U.set sb rb') h3/\PQ U.next h3 vQ (Q2++E).length re/\All2 FI re (Q2++E)/\(∀q∈E,gS O q)/\E.length<=i/\(∀(e:Nat) (b:L3),e<i->D'[e]? = some (some b)->gcom O P C b y∈E)/\∀N,gB O P C N->InD N D'->N y->∀q∈E,N q) O.length ?_ ?_
  .exact⟨0,v2,[],_,by omega,by omega,rfl,k2,by rw[List.append_nil];exact p2,by rw[List.append_nil];exact tK,λq hq=>(by cases hq),vH _,λe b h=>(by omega),λN _ _ _ q hq=>(by cases hq)⟩
  clear k2 p2 v2 h2 oG t0 t1 g0
  as_aux_lemma=>
  rintro m us h3 ⟨i,vQ,E,re,hi,rfl,rfl,k3,p3,lh,lG,Bi,lJ,lM⟩
  have ly:=(hq.setB rb').keep k3;obtain⟨t0,t1,g0⟩:=rr ly;simp only[Z3,seval,-ae];refine iteI (λag=>?_) λaG=>?_;rotate_left
  .have kO:dep z<rb'.length:=by rw[fH.1,jb.len];exact hd
   have jh:h3.wr sb (dep z) [.fz true (.sl oy 0 O.length jS) O.length (pis y)]=some (h3.set sb (rb'.set (dep z) (.fz true (.sl oy 0 O.length jS) O.length (pis y)))):=by
    rw[QB ly.bobj,if_pos ⟨by rw[List.length_singleton];omega,rfl⟩,List.append_assoc,List.singleton_append,List.length_singleton,take_set _ kO]
   simp only[Z3,seval,-ae,t1,hd,jh];have dU:D'[dep z]? = some none:=eZ hd;have dc:=zEe (y:=y) dU;refine⟨_,?_,true,Q2++E,vQ,_,D'.set (dep z) (some y),re,rfl,rfl,?_,?_,lh,?_,DRow.put (o:=oy) (cap:=jS) fH,jb.put hd y1 jg,u9.put cM dU (by simp[ue]) (λq hq=>by simp[ug q hq]) (by rw[at_eq hd];simp[na]) (λe b hb=>.inl (by
    have:=lJ e b (by
     rcases Nat.lt_or_ge e D'.length with h|h
     .have:=jb.len;omega
     .rw[List.getElem?_eq_none h]at hb;cases hb) hb
    simp[this])),λN hN=>?_,by omega,λ_=>by omega,?_⟩
   .simp only[List.length_append];omega
   .exact⟨k3.next,k3.top,λt ht=>by
     rw[zI,zI];split
     .rfl
     .rename_i e
      have:=k3.obj t ht
      rw[zI,if_neg e]at this;exact this⟩
   .exact p3.set hq.blt _
   .intro q hq;rcases List.mem_append.1 hq with hq|hq
    .exact mD q hq
    .exact lG q hq
   .rw[<-hS N hN,InD.put dU];constructor
    .rintro⟨⟨g1,g2⟩,g3⟩
     obtain⟨g4,g5⟩:=(jQ N hN g2).1 λq hq=>g3 q (by simp[hq]);refine⟨g1,λq hq=>?_⟩;rcases List.mem_cons.1 hq with rfl|hq
     .exact(cM.iff F hN g1).2 g5
     .exact g4 q hq
    .rintro⟨g1,g2⟩
     have pT:=(cM.iff F hN g1).1 (g2 x (by simp));have gy:=vh N hN pT;refine⟨⟨g1,gy⟩,λq hq=>?_⟩;rcases List.mem_append.1 hq with hq|hq
     .exact(jQ N hN gy).2 ⟨λq hq=>g2 q (List.mem_cons_of_mem _ hq),pT⟩ q hq
     .exact lM N hN g1 gy q hq
   .simp only[List.length_append];omega
  have aF:i<O.length:=by omega
  have eC:=zG ly.bobj i;rcases DRow.get fH (d:=i) (by rw[jb.len];exact aF)with ⟨e1,e2⟩|⟨oo,cap,b,e1,e2⟩
  .rw[e1]at eC;simp only[Z3,seval,-ae,aF,eC,wrapS aF (by omega:O.length<=4611686018427387904)];refine⟨_,by omega,i+1,vQ,E,re,by omega,rfl,rfl,k3,p3,lh,lG,by omega,λe b h1 h2=>?_,lM⟩;rcases Nat.lt_or_ge e i with h|h
   .exact lJ e b h h2
   .rw[show e=i by omega,e2]at h2;cases h2
  .rw[e1]at eC;have bS:gS O b:=(jb.row _ _ e2).1.mono (Nat.zero_le _);simp only[Z3,seval,-ae,aF,eC,t0];refine zGy s F ly.pg aM bS yS ⟨true,_,by rw[bS.len]⟩ ⟨true,_,by rw[e6]⟩ λvc fc=>?_;have BG:=fc;obtain⟨wc,ac,rfl⟩:=fc;simp only[Z3,seval,-ae];refine PQ.push (bytes:=24) (σb:=U.set sb rb') k3 p3 (by rw[List.length_append];omega) (by rw[List.length_append];omega) λv4 h4 k4 p4=>?_;simp only[Z3,seval,-ae,wrapS aF (by omega:O.length<=4611686018427387904)];refine⟨_,by omega,i+1,v4,E++[gcom O P C b y],re++[.fz wc ac (gcom O P C b y).length (pis (gcom O P C b y))],by omega,rfl,rfl,k4,?_,?_,?_,?_,?_,?_⟩;rotate_left
   .rw[<-List.append_assoc];exact lh.snoc BG
   .intro q hq;rcases List.mem_append.1 hq with hq|hq
    .exact lG q hq
    .rw[List.mem_singleton.1 hq];exact G.com_in bS yS
   .simp;omega
   .intro e b' h1 h2;rcases Nat.lt_or_ge e i with h|h
    .simp[lJ e b' h h2]
    .rw[show e=i by omega,e2]at h2;cases h2;simp
   .intro N hN pQ hy q hq;rcases List.mem_append.1 hq with hq|hq
    .exact lM N hN pQ hy q hq
    .rw[List.mem_singleton.1 hq];exact hN.com_in (pQ _ _ e2) hy
   .rw[<-List.append_assoc,List.length_append,List.length_singleton];exact p4
end Go.Proofs
namespace Go.Proofs
open Go.Ab Go.Lie Go.Grp
variable{O:L3}{z a:L3}{u:L4}
def Ones(O:L3)(u:L4):Prop:=∀v∈u,gS O v/\dep v<O.length/\at_ v (dep v)=1
theorem zOm{o z:Int}(ho:2<=o)(hz:0<=z/\z<o)(h0:z≠0):((o-(z+1) % o) % o).toNat<((o-z) % o).toNat:=by
 have e:(o-z) % o=o-z:=Int.emod_eq_of_lt (by omega) (by omega);rw[e];by_cases h:z+1=o
 .rw[h,Int.emod_self,Int.sub_zero,Int.emod_self];omega
 .rw[Int.emod_eq_of_lt (a:=z+1) (by omega) (by omega),Int.emod_eq_of_lt (by omega) (by omega)];omega
end Go.Proofs
namespace Go.Proofs
open Go.Ab Go.Lie Go.Grp
variable{U:PHeap}{K:PV->PHeap->Prop}{O:L3}{P:L4}{C:L5}{vO vP vC:PV}{sp ss sb n:Nat}
theorem zF5(s:Shp O P C)(hs:PtrG U sp vO vP vC)(hR:IsPr vO vP vC O P C)(hk:∀ss sb h',Keep U h'->U.next<=ss->U.next<=sb->SeqG h' ss sb sp O.length (List.replicate O.length (.fz true .nils 0 [])) vO vP vC->K (.ptr ss 0) h'):
  zA Tryz.prog 193 [.ptr sp 0] U K:=by
 have aX:=s.le;have gA:=hs.lt;obtain⟨⟨w0,a0,rfl⟩,_,_⟩:=hR;have e0:U.rd1 sp 0=some (.fz w0 a0 O.length (pis O)):=by rw[zG hs.obj];rfl
 refine zB mix Tryz.func193 ?_
 conv=>arg 2;cbv
 refine zC rfl ?_;simp only[Z3,seval,-ae,e0,mk24 (n:=O.length) (by omega),mkL (n:=O.length) (by omega)];exact hk (U.next+1) U.next _ ((zD U _).new _) (by omega) (vH _) ⟨by simp only[Z3,seval,-ae],by simp only[Z3,seval,-ae],by simp only[Z3,seval,-ae],by simp only[Z3,seval,-ae];omega,(hs.new _).new _,by omega,by omega⟩
end Go.Proofs
namespace Go.Proofs
open Go.Ab Go.Lie Go.Grp
variable{O:L3}{P:L4}{C:L5}{j:Nat}
theorem isCen.cent(s:Shp O P C)(h:isCen O C):Cent O C:=λi j jB hj=>by
 obtain⟨_,h2⟩:=h i (by omega);have hc:=s.cj i j jB hj;have h3:=h2 (j-i-1) (by omega);unfold cenE at h3;rw[show i+(1+(j-i-1))=j by omega]at h3;refine⟨⟨hc.len,hc.bd,λt ht=>?_⟩,h3.1⟩;have hl:t<(cvec C i j).length:=by rw[hc.len];omega
 rw[at_eq hl];exact h3.2 _ (by rw[List.mem_take_iff_getElem];exact⟨t,by omega,rfl⟩)
end Go.Proofs
namespace Go.Proofs
open Go.Ab Go.Lie Go.Grp
variable{O:L3}{P:L4}{C:L5}{j:Nat}
theorem Cons.full(s:Shp O P C)(hc:Cons O P C):Full O P C O.length:=full_of s (vH _) λj _ h=>hc j h
theorem zAs.isp(h:zAs O P C):∀o∈O,isP o:=h.2.2.2.1
end Go.Proofs
namespace Go.Proofs
open Go.Ab Go.Lie Go.Grp
variable{U:PHeap}{K:PV->PHeap->Prop}{O:L3}{P:L4}{C:L5}{vO vP vC vx:PV}{x:L3}{d:Nat}
structure LG(O:L3)(P:L4)(C:L5):Prop where
 pr:zAs O P C
 co:Cons O P C
 ce:isCen O C
theorem LG.s(g:LG O P C):Shp O P C:=g.pr.shp
theorem LG.F(g:LG O P C):Full O P C O.length:=Cons.full g.s g.co
theorem LG.cent(g:LG O P C):Cent O C:=g.ce.cent g.s
theorem zGN{p:Int}:∀{O:L3},(∀o∈O,o=p)->prodL O=p ^ O.length
 |[],_=>by simp[prodL]
 |o::O,h=>by
  rw[prodL,zGN λo ho=>h o (List.mem_cons_of_mem _ ho),h o (by simp),List.length_cons,Int.pow_succ,Int.mul_comm]
theorem zGS(g:LG O P C)(hR:IsPr vO vP vC O P C)(hx:gS O x)(aW:FI vx x){k:Int}(dh:0<=k/\k<=1000)(hk:∀v,FI v (Grp.pw (gm O P C) (zv O) x k.toNat)->K v U):
  zA Tryz.prog 182 [.agg [vO,vP,vC],vx,.int .i64 k] U K:=by
 have h0:=hR.O.one;have h1:=hR.P.one;have h2:=hR.C.one;have M:=g.F.g.toMon;have eK:¬k<0:=by omega
 refine zA.gh ?_;refine zB mix Tryz.func182 ?_
 conv=>arg 2;cbv
 refine zC rfl ?_;simp only[Z3,seval,-ae,h0,h1,h2,eK];refine zDM g.s (d:=O.length) (i:=0) (by omega) (zBf g.s (by omega)) M hR hx aW dh λv hv=>?_;simp only[Z3,seval,-ae];exact Gh.fin0 (zD U _) (hv.bel _) (hk v hv)
end Go.Proofs
namespace Go.Grp
open Go.Ab Go.Lie
variable{O:L3}{P:L4}{C:L5}{x z a b g:L3}{t k d:Nat}
theorem Gp.pw_inv'{α:Type}[Inhabited α]{S:α->Prop}{m:α->α->α}{e z:α}(G:Gp S m e)(hz:S z)(k:Nat):Grp.pw m e (ginv S m e z) k=ginv S m e (Grp.pw m e z k):=by
 have iz:=(G.inv_in hz).1;refine G.inv_eq (G.pw hz k) (G.pw iz k) ?_
 induction k with
 |zero=>exact G.l1 G.one
 |succ k ih=>
  show m (m (Grp.pw m e z k) z) (m (Grp.pw m e (ginv S m e z) k) (ginv S m e z))=e;rw[G.pw_comm iz k,<-G.as (G.cl (G.pw hz k) hz) iz (G.pw iz k),G.as (G.pw hz k) hz iz,G.inv_r hz,G.r1 (G.pw hz k),ih]
section
variable(s:Shp O P C)(F:Full O P C O.length)(hC:Cent O C)
include s F hC
theorem zE2(ht:t<O.length)(hx:gS O x)(hb:TT O t b)(fD:at_ b t=1):
  gS O (gm O P C x (pw (gm O P C) (zv O) (ginv (gS O) (gm O P C) (zv O) b) (at_ x t).toNat))/\gm O P C (gm O P C x (pw (gm O P C) (zv O) (ginv (gS O) (gm O P C) (zv O) b) (at_ x t).toNat)) (pw (gm O P C) (zv O) b (at_ x t).toNat)=x/\
  Upto O t (gm O P C x (pw (gm O P C) (zv O) (ginv (gS O) (gm O P C) (zv O) b) (at_ x t).toNat)) x/\at_ (gm O P C x (pw (gm O P C) (zv O) (ginv (gS O) (gm O P C) (zv O) b) (at_ x t).toNat)) t=0:=by
 have G:=F.g;have bS:gS O b:=hb.mono (Nat.zero_le _);have ib:=(G.inv_in bS).1;have bx:=hx.bd t ht;have pS:=G.pw bS (at_ x t).toNat;have qS:=G.pw ib (at_ x t).toNat;have hw:=G.cl hx qS;have e:gm O P C (gm O P C x (pw (gm O P C) (zv O) (ginv (gS O) (gm O P C) (zv O) b) (at_ x t).toNat)) (pw (gm O P C) (zv O) b (at_ x t).toNat)=x:=by
  rw[G.as hx qS pS,G.pw_inv' bS,G.inv_l pS,G.r1 hx]
 obtain⟨p1,p2⟩:=zAZ s F hC ht hb (at_ x t).toNat;refine⟨hw,e,?_,?_⟩<;>generalize gm O P C x (pw (gm O P C) (zv O) (ginv (gS O) (gm O P C) (zv O) b) (at_ x t).toNat)=w at *
 .obtain⟨g1,g2⟩:=Z7 s (d:=O.length) (b:=w) (a:=pw (gm O P C) (zv O) b (at_ x t).toNat) (t:=t) (vH _) (by omega) ht (by rw[Nat.sub_self];exact hw) p1;have e':mu O P C O.length w (pw (gm O P C) (zv O) b (at_ x t).toNat)=x:=e;rw[e']at g1;exactλj hj=>(g1 j hj).symm
 .obtain⟨g1,g2⟩:=Z7 s (d:=O.length) (b:=w) (a:=pw (gm O P C) (zv O) b (at_ x t).toNat) (t:=t) (vH _) (by omega) ht (by rw[Nat.sub_self];exact hw) p1;have e':mu O P C O.length w (pw (gm O P C) (zv O) b (at_ x t).toNat)=x:=e;rw[e',p2,fD,Int.mul_one,Int.toNat_of_nonneg bx.1,Int.emod_eq_of_lt bx.1 bx.2,zNh]at g2;exact zEq bx (hw.bd t ht) g2.symm
end
end Go.Grp
namespace Go.Grp
open Go.Ab Go.Lie
variable{α:Type}{O:L3}{P:L4}{C:L5}{S:α->Prop}{m:α->α->α}{e:α}{h:Nat->α}{d i:Nat}
theorem zFV(s:Shp O P C)(M:Mon S m e)(r:Rel O P C S m e h 0)(hi:i<O.length){x:L3}(hx:TT O (i+1) x):
  TT O (i+1) (img O C (mu O P C (O.length-1-i)) i x)/\m (Ph O m e h (O.length-1-i) x) (h i)=m (h i) (Ph O m e h (O.length-1-i) (img O C (mu O P C (O.length-1-i)) i x)):=by
 have e1:O.length-(O.length-1-i)=i+1:=by omega
 have e3:O.length-(i+1)=O.length-1-i:=by omega
 have hS:=r.mem i (Nat.zero_le _) hi;have ih:∀{a b:L3},TT O (i+1) a->TT O (i+1) b->Ph O m e h (O.length-1-i) (mu O P C (O.length-1-i) a b)=m (Ph O m e h (O.length-1-i) a) (Ph O m e h (O.length-1-i) b):=λh1 h2=>dyck s M r (by omega) (by rw[e1];exact h1) (by rw[e1];exact h2);have cl:∀{a b:L3},TT O (i+1) a->TT O (i+1) b->TT O (i+1) (mu O P C (O.length-1-i) a b):=λh1 h2=>by have:=mu_tt s (d:=O.length-1-i) (by omega) (a:=_) (b:=_) (by rw[e1];exact h1) (by rw[e1];exact h2);rw[e1]at this;exact this
 have bQ:∀x,S (Ph O m e h (O.length-1-i) x):=λx=>Ph_in M r (by omega) x;have hc:∀j,i+1<=j->j<i+1+(O.length-1-i)->TT O (i+1) (cvec C i j):=λj h1 h2=>s.cj i j (by omega) (by omega);have fg:TT O (i+1) (zv O):=s.zv _;obtain⟨f1,f2⟩:=Ph_fo M (T:=TT O (i+1)) (mm:=mu O P C (O.length-1-i)) (F:=Ph O m e h (O.length-1-i)) (λa b h1 h2=>⟨cl h1 h2,ih h1 h2⟩) (c:=cvec C i) (x:=nx x) hc fg;refine⟨f1,?_⟩;unfold img;rw[f2,Ph_zv M,M.fo_eq (λj _ _=>bQ _) M.one,M.l1 (M.ph λj _ _=>bQ _)];show m (ph m e h (nx x) (O.length-(O.length-1-i)) (O.length-1-i)) (h i)=_;rw[e1];refine M.past_ph hS λj h1 h2=>⟨r.mem j (by omega) (by omega),bQ _,?_⟩
 have:=r.cj i j (Nat.zero_le _) (by omega) (by omega)
 rw[e3]at this;exact this
theorem zQm(s:Shp O P C)(M:Mon S m e)(r:Rel O P C S m e h 0)(hi:i<O.length):∀(k:Nat) {x:L3},TT O (i+1) x->
  TT O (i+1) (iter (img O C (mu O P C (O.length-1-i)) i) k x)/\m (Ph O m e h (O.length-1-i) x) (pw m e (h i) k)=m (pw m e (h i) k) (Ph O m e h (O.length-1-i) (iter (img O C (mu O P C (O.length-1-i)) i) k x)):=by
 have hS:=r.mem i (Nat.zero_le _) hi;have bQ:∀x,S (Ph O m e h (O.length-1-i) x):=λx=>Ph_in M r (by omega) x;intro k
 induction k with
 |zero=>exactλ{x} hx=>⟨hx,by show m _ e=m e _;rw[M.r1 (bQ x)];exact(M.l1 (bQ x)).symm⟩
 |succ k ik=>
  intro x hx;obtain⟨g1,g2⟩:=zFV s M r hi hx;obtain⟨g3,g4⟩:=ik g1;refine⟨g3,?_⟩;show m _ (m (pw m e (h i) k) (h i))=m (m (pw m e (h i) k) (h i)) (Ph O m e h _ (iter _ k (img O C _ i x)));rw[M.pw_comm hS,<-M.as (bQ _) hS (M.pw hS k),g2,M.as hS (bQ _) (M.pw hS k),g4,<-M.as hS (M.pw hS k) (bQ _)]
theorem Cons.of_rel(s:Shp O P C)(G:Gp S m e)(r:Rel O P C S m e h 0)(inj:∀i,i<O.length->∀x y,TT O (i+1) x->TT O (i+1) y->Ph O m e h (O.length-1-i) x=Ph O m e h (O.length-1-i) y->x=y)(low:∀i j x,i<j->j<O.length->TT O (j+1) x->Ph O m e h (O.length-1-i) x=Ph O m e h (O.length-(j+1)) x)(un:∀i j,i<j->j<O.length->Ph O m e h (O.length-1-i) (unit O j)=h j):Cons O P C:=by
 have M:=G.toMon;intro i hi;have e1:O.length-(O.length-1-i)=i+1:=by omega
 have e3:O.length-(i+1)=O.length-1-i:=by omega
 have hS:=r.mem i (Nat.zero_le _) hi;have bQ:∀x,S (Ph O m e h (O.length-1-i) x):=λx=>Ph_in M r (by omega) x;have ih:∀{a b:L3},TT O (i+1) a->TT O (i+1) b->Ph O m e h (O.length-1-i) (mu O P C (O.length-1-i) a b)=m (Ph O m e h (O.length-1-i) a) (Ph O m e h (O.length-1-i) b):=λh1 h2=>dyck s M r (by omega) (by rw[e1];exact h1) (by rw[e1];exact h2);have cl:∀{a b:L3},TT O (i+1) a->TT O (i+1) b->TT O (i+1) (mu O P C (O.length-1-i) a b):=λh1 h2=>by have:=mu_tt s (d:=O.length-1-i) (by omega) (a:=_) (b:=_) (by rw[e1];exact h1) (by rw[e1];exact h2);rw[e1]at this;exact this
 have rh:∀j,i<j->j<O.length->m (h j) (h i)=m (h i) (Ph O m e h (O.length-1-i) (cvec C i j)):=λj h1 h2=>by have:=r.cj i j (Nat.zero_le _) h1 h2;rw[e3]at this;exact this
 have sL:∀{a:L3},TT O (i+1) a->∀k,TT O (i+1) (pw (mu O P C (O.length-1-i)) (zv O) a k)/\Ph O m e h (O.length-1-i) (pw (mu O P C (O.length-1-i)) (zv O) a k)=pw m e (Ph O m e h (O.length-1-i) a) k:=λ{a} ha k=>by
  induction k with
  |zero=>exact⟨s.zv _,Ph_zv M _⟩
  |succ k ik=>exact⟨cl ik.1 ha,by show Ph O m e h _ (mu O P C _ (pw _ _ a k) a)=m _ _;rw[ih ik.1 ha,ik.2]⟩
 have vG:∀j,i<j->j<O.length->∀k,m (pw m e (h j) k) (h i)=m (h i) (pw m e (Ph O m e h (O.length-1-i) (cvec C i j)) k):=λj h1 h2 k=>by
  have hj:=r.mem j (Nat.zero_le _) h2
  induction k with
  |zero=>show m e (h i)=m (h i) e;rw[M.l1 hS,M.r1 hS]
  |succ k ik=>
   show m (m (pw m e (h j) k) (h j)) (h i)=m (h i) (m (pw m e _ k) _);rw[M.as (M.pw hj k) hj hS,rh j h1 h2,<-M.as (M.pw hj k) hS (bQ _),ik,M.as hS (M.pw (bQ _) k) (bQ _)]
 have ti:∀j,i<j->j<O.length->TT O (i+1) (cvec C i j):=λj h1 h2=>s.cj i j h1 h2;have tp:∀j,i<=j->j<O.length->TT O (i+1) (pvec P j):=λj h1 h2=>(s.pw j h2).mono (by omega);refine⟨λj h1 h2=>?_,λj k h1 h2 h3=>?_,?_,λj h1 h2=>?_⟩
 .obtain⟨a1,a2⟩:=sL (ti j h1 h2) (nx O j);obtain⟨b1,b2⟩:=zFV s M r hi (tp j (by omega) h2);refine inj i hi _ _ a1 b1 (G.cancel hS (bQ _) (bQ _) ?_);rw[a2,<-vG j h1 h2,<-b2,low i j _ h1 h2 (s.pw j h2),r.pow j (Nat.zero_le _) h2]
 .have tc:TT O (i+1) (cvec C j k):=(s.cj j k h2 h3).mono (by omega);obtain⟨b1,b2⟩:=zFV s M r hi tc;have hj:=r.mem j (Nat.zero_le _) (by omega);have hk:=r.mem k (Nat.zero_le _) h3;refine inj i hi _ _ (cl (ti k (by omega) h3) (ti j h1 (by omega))) (cl (ti j h1 (by omega)) b1) (G.cancel hS (bQ _) (bQ _) ?_);rw[ih (ti k (by omega) h3) (ti j h1 (by omega)),ih (ti j h1 (by omega)) b1,<-M.as hS (bQ _) (bQ _),<-rh k (by omega) h3,M.as hk hS (bQ _),<-rh j h1 (by omega),<-M.as hk hj hS,<-M.as hS (bQ _) (bQ _),<-rh j h1 (by omega),M.as hj hS (bQ _),<-b2,<-M.as hj (bQ _) hS,r.cj j k (Nat.zero_le _) h2 h3,low i j _ h1 (by omega) (s.cj j k h2 h3)]
 .obtain⟨b1,b2⟩:=zFV s M r hi (tp i (vH _) hi);have hp:=r.pow i (Nat.zero_le _) hi;rw[e3]at hp;refine inj i hi _ _ b1 (tp i (vH _) hi) (G.cancel hS (bQ _) (bQ _) ?_);rw[<-b2,<-hp,M.pw_comm hS]
 .obtain⟨b1,b2⟩:=zQm s M r hi (nx O i) (s.unit h2 (by omega):TT O (i+1) (unit O j));have hp:=r.pow i (Nat.zero_le _) hi;rw[e3]at hp;refine inj i hi _ _ (cl (tp i (vH _) hi) b1) (cl (s.unit h2 (by omega)) (tp i (vH _) hi)) ?_;rw[ih (tp i (vH _) hi) b1,ih (s.unit h2 (by omega)) (tp i (vH _) hi),<-hp,b2]
end Go.Grp
namespace Go.Lie
open Go.Ab
variable{p:Int}{n:Nat}{W:L4}
theorem zKC(o:OkW p n W){u:L4}{x:L3}(hu:Base p n W u)(hx:El p n x):(∀j,at_ (redL p W u x) j=0)↔Gen p n W u (at_ x):=by
 have h1:=zCc o hu.els hx;have bD:=QK o hu.els hx;constructor
 .intro h;refine(zO _).eqv _ _ (Eqv.of_eq λj=>?_) h1;rw[h j];omega
 .intro h;have h2:Gen p n W u (at_ (redL p W u x)):=(zO _).eqv _ _ (Eqv.of_eq λj=>by omega) ((zO _).sub h h1);rcases Nat.lt_or_ge (dep (redL p W u x)) n with hd|hd
  .obtain⟨v,hv,e⟩:=zBI o hu bD h2 hd
   have:=(zBF o hu.led hu.asc hx).1 v hv
   rw[e]at this;exact absurd this (Ze (by rw[bD.1];exact hd))
  .intro j;rcases Nat.lt_or_ge j n with g|g
   .exact qE (by omega)
   .exact bD.beyond g
end Go.Lie
namespace Go.Lie
open Go.Ab
variable{p:Int}{n:Nat}{W:L4}
theorem Canon.els{L u:L4}(c:Canon p n W L u):∀v∈u,El p n v:=c.base.els
theorem Canon.len{L u:L4}(c:Canon p n W L u):u.length<=n:=QE (λv hv=>(c.base.led v hv).2.1) c.base.asc
end Go.Lie
namespace Go.Proofs
open Go.Ab
def if3:IFn:=⟨[0,1],[(.tmp 4)],(S0 (R0 [1,2] [eI 2 (.box (.t 0)),tI0 4 false])
 (S0 (R0 [1,2,5] [kI0 5 1048576])
 (S0 (R0 [1,2,5] [LI0 17 2,mI0 18 5,C2 19 11 17 18,mI0 5 19])
 (S0 (.seq (R0 [1,2,5,21] [mI0 20 5,cI0 21 .lss 20 0])
 (.cond (.t 21) (S0 (R0 [4] [tI0 4 true])
 .ret) .skip))
 (S0 (R0 [1,2,5] [mI0 22 1,mI0 23 5,C2 24 12 22 23,mI0 5 24])
 (S0 (.seq (R0 [1,2,26] [mI0 25 5,cI0 26 .lss 25 0])
 (.cond (.t 26) (S0 (R0 [4] [tI0 4 true])
 .ret) .skip))
 (S0 (R0 [1,2,6,7] [LI0 28 2,C1 29 14 28,mI0 30 1,C1 31 15 30,C2 32 13 29 31,mI0 27 32,eI0 33 27 0,eI0 34 27 1,mI0 6 33,mI0 7 34])
 (S0 (R0 [1,2,6,7,8] [LI0 35 2,C1 36 14 35,eI 8 (.alloc [(.int .i64 0),.nils,.nils]),vI0 3 8 36])
 (S0 (R0 [1,2,6,7,8,9] [mI0 37 1,C1 38 15 37,mI0 9 38])
 (S0 (R0 [1,2,6,7,8,9,10,11] [LI0 40 8,mI0 41 9,C2 42 16 40 41,mI0 39 42,eI0 43 39 0,eI0 44 39 1,mI0 10 43,mI0 11 44])
 (S0 (.seq (R0 [1,2,6,7,8,9,10,11,53] [mI0 45 10,mI0 46 6,C2 47 17 45 46,nI0 48 47,mI0 49 48,gm0 50 11 49 false,gm0 51 7 49 false,G0 52 (.bin .neq .other (.t 50) (.t 51)) true 49 false,oI0 53 49 52])
 (.cond (.t 53) (S0 (R0 [4] [tI0 4 false])
 .ret) .skip))
 (S0 (.seq (.draw [1,2,6,7,8,9,10,11,58] [] [qD 54 (.load true 3 (.t 8)) 0,qD 55 (.load true 3 (.t 2)) 1,eD 56 (.call 14 [(.t 55)]) 2 [0],eD 57 (.call 18 [(.t 54),(.t 56)]) 3 [],qD 58 (.un .not (.t 57)) 4])
 (.cond (.t 58) (S0 (R0 [4] [tI0 4 false])
 .ret) .skip))
 (S0 (.seq (R0 [1,2,6,7,8,9,10,11,63] [mI0 59 9,mI0 60 1,C1 61 15 60,C2 62 17 59 61,nI0 63 62])
 (.cond (.t 63) (S0 (R0 [4] [tI0 4 false])
 .ret) .skip))
 (S0 (R0 [1,2,6,7,8,9,10,11,12] [kI0 12 1])
 (S0 (R0 [1,2,6,7,9,10,11,12] [LI0 64 8,mI0 65 12,C2 66 19 64 65,mI0 12 66])
 (S0 (R0 [1,2,6,7,10,11,12] [mI0 67 9,mI0 68 12,C2 69 20 67 68,mI0 12 69])
 (S0 (.seq (R0 [1,2,6,7,10,82] [mI0 70 12,cI0 71 .lss 70 0,mI0 72 71,gm0 73 10 72 false,gm0 74 6 72 false,G0 75 (.call 17 [(.t 73),(.t 74)]) false 72 false,G0 76 (.un .not (.t 75)) true 72 false,oI0 77 72 76,mI0 78 77,gm0 79 11 78 false,gm0 80 7 78 false,G0 81 (.bin .neq .other (.t 79) (.t 80)) true 78 false,oI0 82 78 81])
 (.cond (.t 82) (S0 (R0 [4] [tI0 4 false])
 .ret) .skip))
 (S0 (R0 [1,2,6,7,10,13] [kI0 13 1])
 (S0 (R0 [1,2,6,7,10,13] [mI0 83 10,mI0 84 13,C2 85 20 83 84,mI0 13 85])
 (S0 (R0 [1,2,6,7,10,13,14] [kI0 14 1])
 (S0 (R0 [1,2,6,7,10,13,14] [mI0 86 10,mI0 87 14,C2 88 21 86 87,mI0 14 88])
 (S0 (.seq (R0 [1,2,6,7,10,13,14,90] [mI0 89 14,cI0 90 .lss 89 0])
 (.cond (.t 90) (S0 (R0 [4] [tI0 4 false])
 .ret) .skip))
 (S0 (.seq (R0 [1,2,6,7,10,13,93] [mI0 91 14,mI0 92 13,bI0 93 .neq 91 92])
 (.cond (.t 93) (S0 (R0 [4] [tI0 4 false])
 .ret) .skip))
 (S0 (R0 [6,7,10,13,15,16] [LI0 95 2,C1 96 14 95,mI0 97 1,C1 98 15 97,C2 99 16 96 98,mI0 94 99,eI0 100 94 0,eI0 101 94 1,mI0 15 100,mI0 16 101])
 (S0 (.seq (R0 [10,13,110] [mI0 102 15,mI0 103 6,C2 104 17 102 103,nI0 105 104,mI0 106 105,gm0 107 16 106 false,gm0 108 7 106 false,G0 109 (.bin .neq .other (.t 107) (.t 108)) true 106 false,oI0 110 106 109])
 (.cond (.t 110) (S0 (R0 [4] [tI0 4 false])
 .ret) .skip))
 (S0 (R0 [10,13,14] [kI0 14 1])
 (S0 (R0 [13,14] [mI0 111 10,mI0 112 14,C2 113 21 111 112,mI0 14 113])
 (S0 (.seq (R0 [13,14,115] [mI0 114 14,cI0 115 .lss 114 0])
 (.cond (.t 115) (S0 (R0 [4] [tI0 4 false])
 .ret) .skip))
 (S0 (.seq (R0 [118] [mI0 116 14,mI0 117 13,bI0 118 .neq 116 117])
 (.cond (.t 118) (S0 (R0 [4] [tI0 4 false])
 .ret) .skip))
 (S0 (R0 [4] [tI0 4 true])
 .ret))))))))))))))))))))))))))))))⟩
theorem cf3:cF Tryz.prog Tryz.f3=some if3:=by kernel_rfl
end Go.Proofs
namespace Go.Proofs.YtgkbfiilhocioaaGreat
open Go.ChangeShapes Go.WideShapes Go.ChangeAt Go.RowKit Go.Ab Go.Joins Go.Lie Go.Proofs
theorem own:ownKnob Tryz.prog.godebug=none:=by kernel_rfl
theorem laidOut:laidOutB Tryz.prog=true:=by kernel_rfl
theorem zR4:Tryz.prog.cellsOf 22=1:=by kernel_rfl
theorem cell2:Tryz.prog.cellsOf 2=1:=by kernel_rfl
theorem zR2:Tryz.prog.cellsOf 43=1:=by kernel_rfl
theorem zR3:Tryz.prog.cellsOf 25=3:=by kernel_rfl
variable{H:Type}{enc:TypeId×Value->H}{W w0:World}{j:Inj}{h:AHeap}
def LII(v:PV)(xs:L4):Prop:=FII v xs/\xs.length<=9223372036854775807/\∀x∈xs,x.length<=9223372036854775807
def LIII(v:PV)(xs:L5):Prop:=FIII v xs/\xs.length<=9223372036854775807/\∀q∈xs,q.length<=9223372036854775807/\∀x∈q,x.length<=9223372036854775807
theorem layI:Lay1 enc Tryz.prog W 43 (λv (xs:L3)=>FI v xs/\xs.length<=9223372036854775807):=zOr (e:=2) Tryz.underlying43 cell2 Tryz.underlying2
theorem layII:Lay1 enc Tryz.prog W 22 LII:=by
 intro w0 j h held fuel v x m hx;obtain⟨j',h',pv,a,g1,g2,g3,g4,g5,g6,g7,g8⟩:=zDL Tryz.underlying22 zR2 layI w0 j h held fuel v x m hx;exact⟨j',h',pv,a,g1,g2,g3,g4,g5,g6,g7.imp λ_ _ k=>k.1,g8,g7.all λ_ _ k=>k.2⟩
theorem zRq:Lay1 enc Tryz.prog W 23 LIII:=by
 intro w0 j h held fuel v x m hx;obtain⟨j',h',pv,a,g1,g2,g3,g4,g5,g6,g7,g8⟩:=zDL Tryz.underlying23 zR4 layII w0 j h held fuel v x m hx;exact⟨j',h',pv,a,g1,g2,g3,g4,g5,g6,g7.imp λ_ _ k=>k.1,g8,g7.all λ_ _ k=>k.2⟩
set_option maxRecDepth 100000 in
theorem zRp{b0:Nat}{v:Value}{d:DataW H}{q:List MemPlace}(m:MR W.heap.size w0 j h W)(hv:Value.okWide Tryz.prog W .any b0 25 v)(ht:DataW.Trod enc Tryz.prog W 0 (λ_=>true) true 25 v d q):
  ∃(j':Inj) (h':AHeap) (p:Int) (vP vB:PV) (Ws:L4) (Bs:L5),MR W.heap.size w0 j' h' W/\j.le j'/\Ext h h'/\VI j' (er idz (.agg [.int .i64 p,vP,vB])) v/\VOK (zlt h') h' 0 (.agg [.int .i64 p,vP,vB])/\IsR vP vB Ws Bs/\MxR Ws Bs:=by
 obtain⟨v0,v1,v2,y0,y1,y2,n,rfl,rfl,rfl,t0,t1,t2⟩:=open_agg3 Tryz.underlying25 (by kernel_rfl) zR3 hv ht;obtain⟨a,ha,_,_⟩:=DataW.trod_int Tryz.underlying2 t0;simp only[List.cons.injEq,and_true]at ha;subst ha;obtain⟨j1,h1,vP,Ws,m1,l1,e1,i1,o1,_,p1,p2,p3⟩:=layII w0 j h true n v1 _ m t1;obtain⟨j2,h2,vB,Bs,m2,l2,e2,i2,o2,_,q1,q2,q3⟩:=zRq w0 j1 h1 true n v2 _ m1 t2;exact⟨j2,h2,a,vP,vB,Ws,Bs,m2,l1.trans l2,e1.trans e2,⟨_,⟨_,_,rfl,rfl,_,_,rfl,VI.mono l2 _ _ i1,_,_,rfl,i2,rfl⟩,rfl⟩,⟨trivial,e2.vok o1,o2,trivial⟩,⟨p1,q1⟩,⟨p2,p3,q2,q3⟩⟩
end Go.Proofs.YtgkbfiilhocioaaGreat
namespace Go.Proofs
open Go.Ab Go.Lie
section
variable{h:AHeap}{K:AV->AHeap->Prop}
theorem zHo{v:PV}{xs:L3}{k:Int}(hI:FI v xs)(hW:Wh v)(hw:HWF h)(hv:VOK (zlt h) h 0 v)(hb:xs.length<=4294967296)(dh:0<=k)(eK:k<=4611686018427387904)
  (hk:∀h',Upd h (mkI k v xs) h'->K (.int .i64 (k+xs.length)) h'):ZI Tryz.prog 100 [er idz v,.int .i64 k] h K:=by
 refine QP mix Tryz.func100 cf100 rfl ?_;dsimp only[if100,mI0,kI0,xI0,bI0,cI0,sI0,vI0,R0,S0];by_cases ai:xs=[]
 .subst ai;have hlen:aLen (er idz v)=some (.int .i64 ((0:Nat):Int)):=by
   obtain⟨w,a,rfl⟩:=hI;obtain⟨rfl,_⟩|⟨o,off,cap,rfl,_⟩:=hv.1<;>rfl
  simp only[nm_eq,nm_eq,abQ,↓reduceIte,dS,qc,qy,qV,dD,dC,dA,dz,dy,dx,dM,dL,dK,dJ,dI,dH,dG,dF,dw,du,qA,ze,zU,zV,zM,dt,dR,dQ,dO,dN,qi,qj,qU,zm,qC,zf,zg,recOf,zh,zR,zT,zi,qK,dE,bB,bh,if_true,if_false,ite_true,ite_false,bA,bu,dr,dq,reduceCtorEq,decide_true,decide_false,eo,eh,zq,zb,zn,zY,zo,zX,qX,zZ,zw,z8,bt,bp,qg,qR,qd,qP,qf,qO,qz,qQ,qh,bo,bn,eg,ef,ee,true_and,and_true,ec,dZ,bm,bj,dY,dX,bG,bF,eq_self,bg,be,bc,a8,aZ];refine zBE (λm vs h'=>vs=[er idz v,.int .i64 k,.int .i64 0]/\h'=h) 0 ⟨rfl,rfl⟩ ?_
  rintro m vs h' ⟨rfl,rfl⟩
  simp only[nm_eq,nm_eq,abQ,↓reduceIte,dS,qc,qy,qV,dD,dC,dA,dz,dy,dx,dM,dL,dK,dJ,dI,dH,dG,dF,dw,du,qA,ze,zU,zV,zM,dt,dR,dQ,dO,dN,qi,qj,qU,zm,qC,zf,zg,recOf,zh,zR,zT,zi,qK,dE,bB,bh,if_true,if_false,ite_true,ite_false,bA,bu,dr,dq,reduceCtorEq,decide_true,decide_false,eo,eh,zq,zb,zn,zY,zo,zX,qX,zZ,zw,z8,bt,bp,qg,qR,qd,qP,qf,qO,qz,qQ,qh,bo,bn,eg,ef,ee,true_and,and_true,ec,dZ,bm,bj,dY,dX,bG,bF,eq_self,bg,be,bc,a8,aZ,hlen,Int.lt_irrefl]
  have:=hk h' (Upd.refl hw)
  simpa using this
 .obtain⟨w,a,rfl⟩:=hI;obtain⟨m6,_,_⟩:=hW.resolve_left (zAn ai);obtain⟨o,cap,rfl,ho,hz⟩:=hv.whole m6 (zAn ai);have cn:h.obj o=some ⟨true,ints xs⟩:=by rw[ho,Qj];congr 2;simp only[pis,ints,List.map_map];rfl
  simp only[nm_eq,nm_eq,abQ,↓reduceIte,dS,qc,qy,qV,dD,dC,dA,dz,dy,dx,dM,dL,dK,dJ,dI,dH,dG,dF,dw,du,qA,ze,zU,zV,zM,dt,dR,dQ,dO,dN,qi,qj,qU,zm,qC,zf,zg,recOf,zh,zR,zT,zi,qK,dE,bB,bh,if_true,if_false,ite_true,ite_false,bA,bu,dr,dq,reduceCtorEq,decide_true,decide_false,eo,eh,zq,zb,zn,zY,zo,zX,qX,zZ,zw,z8,bt,bp,qg,qR,qd,qP,qf,qO,qz,qQ,qh,bo,bn,eg,ef,ee,true_and,and_true,ec,dZ,bm,bj,dY,dX,bG,bF,eq_self,bg,be,bc,a8,aZ,er];refine zBE (λm vs h'=>∃i:Nat,i<=xs.length/\m=xs.length-i/\vs=[.sl o 0 xs.length cap,.int .i64 (k+i),.int .i64 i]/\h'=h.set o (ints ((seqI k xs.length).take i++xs.drop i))) xs.length ?_ ?_
  .exact⟨0,by omega,by omega,(by(simp only[nm_eq,nm_eq,abQ,↓reduceIte,dS,qc,qy,qV,dD,dC,dA,dz,dy,dx,dM,dL,dK,dJ,dI,dH,dG,dF,dw,du,qA,ze,zU,zV,zM,dt,dR,dQ,dO,dN,qi,qj,qU,zm,qC,zf,zg,recOf,zh,zR,zT,zi,qK,dE,bB,bh,if_true,if_false,ite_true,ite_false,bA,bu,dr,dq,reduceCtorEq,decide_true,decide_false,eo,eh,zq,zb,zn,zY,zo,zX,qX,zZ,zw,z8,bt,bp,qg,qR,qd,qP,qf,qO,qz,qQ,qh,bo,bn,eg,ef,ee,true_and,and_true,ec,dZ,bm,bj,dY,dX,bG,bF,eq_self,bg,be,bc,a8,aZ,List.cons.injEq,AV.int.injEq,AV.sl.injEq,and_self])<;>omega),by simp[set_self cn]⟩
  .rintro m vs h' ⟨i,hi,rfl,rfl,rfl⟩
   simp only[nm_eq,nm_eq,abQ,↓reduceIte,dS,qc,qy,qV,dD,dC,dA,dz,dy,dx,dM,dL,dK,dJ,dI,dH,dG,dF,dw,du,qA,ze,zU,zV,zM,dt,dR,dQ,dO,dN,qi,qj,qU,zm,qC,zf,zg,recOf,zh,zR,zT,zi,qK,dE,bB,bh,if_true,if_false,ite_true,ite_false,bA,bu,dr,dq,reduceCtorEq,decide_true,decide_false,eo,eh,zq,zb,zn,zY,zo,zX,qX,zZ,zw,z8,bt,bp,qg,qR,qd,qP,qf,qO,qz,qQ,qh,bo,bn,eg,ef,ee,true_and,and_true,ec,dZ,bm,bj,dY,dX,bG,bF,eq_self,bg,be,bc,a8,aZ];split
   .have ag:i<xs.length:=by omega
    simp only[nm_eq,nm_eq,abQ,↓reduceIte,dS,qc,qy,qV,dD,dC,dA,dz,dy,dx,dM,dL,dK,dJ,dI,dH,dG,dF,dw,du,qA,ze,zU,zV,zM,dt,dR,dQ,dO,dN,qi,qj,qU,zm,qC,zf,zg,recOf,zh,zR,zT,zi,qK,dE,bB,bh,if_true,if_false,ite_true,ite_false,bA,bu,dr,dq,reduceCtorEq,decide_true,decide_false,eo,eh,zq,zb,zn,zY,zo,zX,qX,zZ,zw,z8,bt,bp,qg,qR,qd,qP,qf,qO,qz,qQ,qh,bo,bn,eg,ef,ee,true_and,and_true,ec,dZ,bm,bj,dY,dX,bG,bF,eq_self,bg,be,bc,a8,aZ,zCs ag,wrapS ag (by omega:xs.length<=4611686018427387904),wrap64 (n:=k+(i:Int)+1) (by omega) (by omega)];have zj:i<(seqI k xs.length).length:=by rw[QH];exact ag
    rw[zEv (zCX _ _) (by rw[zEI];simp[QH];omega) rfl,zR];refine⟨_,by omega,i+1,by omega,rfl,(by(simp only[nm_eq,nm_eq,abQ,↓reduceIte,dS,qc,qy,qV,dD,dC,dA,dz,dy,dx,dM,dL,dK,dJ,dI,dH,dG,dF,dw,du,qA,ze,zU,zV,zM,dt,dR,dQ,dO,dN,qi,qj,qU,zm,qC,zf,zg,recOf,zh,zR,zT,zi,qK,dE,bB,bh,if_true,if_false,ite_true,ite_false,bA,bu,dr,dq,reduceCtorEq,decide_true,decide_false,eo,eh,zq,zb,zn,zY,zo,zX,qX,zZ,zw,z8,bt,bp,qg,qR,qd,qP,qf,qO,qz,qQ,qh,bo,bn,eg,ef,ee,true_and,and_true,ec,dZ,bm,bj,dY,dX,bG,bF,eq_self,bg,be,bc,a8,aZ,List.cons.injEq,AV.int.injEq,AV.sl.injEq,and_self])<;>omega),?_⟩;rw[set_set,ints_set,<-zQe _ _ ag zj,zHD]
   .have aI:i=xs.length:=by omega
    subst aI;rw[List.take_of_length_le (by rw[QH];exact vH _),List.drop_length,List.append_nil];have ag:=hw.lt ho;refine hk _ ⟨vH _,hw.set ag _,λx hx hn=>zCW (λe=>?_) _,λx ms hx=>?_⟩
    .subst e;rw[mkI,if_neg ai]at hn;simp[aof]at hn
    .rw[mkI,if_neg ai]at hx;simp only[List.lookup_cons,List.lookup_nil,aof]at hx;split at hx
     .rename_i tm;cases hx;have tm:x=o:=by simpa using tm
      subst tm;refine⟨?_,zOT _,zAn λe=>?_,_,cn,by rw[zEI,zK,QH]⟩
      .rw[zCX,Qj];congr 2;simp only[pis,ints,List.map_map];rfl
      .have:=QH xs.length k
       rw[e]at this;exact ai (List.eq_nil_of_length_eq_zero this.symm)
     .cases hx
theorem zA5{v:PV}{xs:L4}{k:Int}(hI:FII v xs)(hW:Wh v)(cV:(ead v).Nodup)(hw:HWF h)(hv:VOK (zlt h) h 0 v)(hb:xs.length<=4294967296)(dk:∀x∈xs,x.length<=4294967296)(dh:0<=k)(eK:k+totL List.length xs<=4611686018427387904)
  (hk:∀h',Upd h (mkF mkI List.length k v xs) h'->K (.int .i64 (k+totL List.length xs)) h'):ZI Tryz.prog 20 [er idz v,.int .i64 k] h K:=by
 refine QP mix Tryz.func20 cf20 rfl ?_;dsimp only[if20,mI0,kI0,lI0,xI0,bI0,cI0,sI0,C2,R0,S0];obtain⟨w,a,rows,rfl,hr⟩:=hI;by_cases ai:rows=[]
 .have hx:=hr.nil_iff.1 ai;subst ai;subst hx;have hlen:aLen a=some (.int .i64 ((0:Nat):Int)):=by
   obtain⟨rfl,_⟩|⟨o,off,cap,rfl,_⟩:=hv.1<;>rfl
  simp only[nm_eq,nm_eq,abQ,↓reduceIte,dS,qc,qy,qV,dD,dC,dA,dz,dy,dx,dM,dL,dK,dJ,dI,dH,dG,dF,dw,du,qA,ze,zU,zV,zM,dt,dR,dQ,dO,dN,qi,qj,qU,zm,qC,zf,zg,recOf,zh,zR,zT,zi,qK,dE,bB,bh,if_true,if_false,ite_true,ite_false,bA,bu,dr,dq,reduceCtorEq,decide_true,decide_false,eo,eh,zq,zb,zn,zY,zo,zX,qX,zZ,zw,z8,bt,bp,qg,qR,qd,qP,qf,qO,qz,qQ,qh,bo,bn,eg,ef,ee,true_and,and_true,ec,dZ,bm,bj,dY,dX,bG,bF,eq_self,bg,be,bc,a8,aZ,er];refine zBE (λm vs h'=>vs=[a,.int .i64 k,.int .i64 0]/\h'=h) 0 ⟨rfl,rfl⟩ ?_
  rintro m vs h' ⟨rfl,rfl⟩
  simp only[nm_eq,nm_eq,abQ,↓reduceIte,dS,qc,qy,qV,dD,dC,dA,dz,dy,dx,dM,dL,dK,dJ,dI,dH,dG,dF,dw,du,qA,ze,zU,zV,zM,dt,dR,dQ,dO,dN,qi,qj,qU,zm,qC,zf,zg,recOf,zh,zR,zT,zi,qK,dE,bB,bh,if_true,if_false,ite_true,ite_false,bA,bu,dr,dq,reduceCtorEq,decide_true,decide_false,eo,eh,zq,zb,zn,zY,zo,zX,qX,zZ,zw,z8,bt,bp,qg,qR,qd,qP,qf,qO,qz,qQ,qh,bo,bn,eg,ef,ee,true_and,and_true,ec,dZ,bm,bj,dY,dX,bG,bF,eq_self,bg,be,bc,a8,aZ,hlen,Int.lt_irrefl]
  have:=hk h' (Upd.refl hw)
  simpa [totL]using this
 .obtain⟨m6,_,j5⟩:=hW.resolve_left ai;obtain⟨o,cap,rfl,ho,hz⟩:=hv.whole m6 ai;rw[zBh ai]at cV;obtain⟨n1,n2⟩:=List.nodup_cons.1 cV;simp only[nm_eq,nm_eq,abQ,↓reduceIte,dS,qc,qy,qV,dD,dC,dA,dz,dy,dx,dM,dL,dK,dJ,dI,dH,dG,dF,dw,du,qA,ze,zU,zV,zM,dt,dR,dQ,dO,dN,qi,qj,qU,zm,qC,zf,zg,recOf,zh,zR,zT,zi,qK,dE,bB,bh,if_true,if_false,ite_true,ite_false,bA,bu,dr,dq,reduceCtorEq,decide_true,decide_false,eo,eh,zq,zb,zn,zY,zo,zX,qX,zZ,zw,z8,bt,bp,qg,qR,qd,qP,qf,qO,qz,qQ,qh,bo,bn,eg,ef,ee,true_and,and_true,ec,dZ,bm,bj,dY,dX,bG,bF,eq_self,bg,be,bc,a8,aZ,er];refine zBE (λm vs h'=>∃i:Nat,i<=xs.length/\m=xs.length-i/\vs=[.sl o 0 xs.length cap,.int .i64 (k+totL List.length (xs.take i)),.int .i64 i]/\Upd h (mkS mkI List.length k (rows.take i) (xs.take i)) h') xs.length ?_ ?_
  .exact⟨0,by omega,by omega,by rw[List.take_zero,zEP];exact(by(simp only[nm_eq,nm_eq,abQ,↓reduceIte,dS,qc,qy,qV,dD,dC,dA,dz,dy,dx,dM,dL,dK,dJ,dI,dH,dG,dF,dw,du,qA,ze,zU,zV,zM,dt,dR,dQ,dO,dN,qi,qj,qU,zm,qC,zf,zg,recOf,zh,zR,zT,zi,qK,dE,bB,bh,if_true,if_false,ite_true,ite_false,bA,bu,dr,dq,reduceCtorEq,decide_true,decide_false,eo,eh,zq,zb,zn,zY,zo,zX,qX,zZ,zw,z8,bt,bp,qg,qR,qd,qP,qf,qO,qz,qQ,qh,bo,bn,eg,ef,ee,true_and,and_true,ec,dZ,bm,bj,dY,dX,bG,bF,eq_self,bg,be,bc,a8,aZ,List.cons.injEq,AV.int.injEq,AV.sl.injEq,and_self])<;>omega),by simp only[List.take_zero,zKI];exact Upd.refl hw⟩
  .rintro m vs h' ⟨i,hi,rfl,rfl,u⟩
   simp only[nm_eq,nm_eq,abQ,↓reduceIte,dS,qc,qy,qV,dD,dC,dA,dz,dy,dx,dM,dL,dK,dJ,dI,dH,dG,dF,dw,du,qA,ze,zU,zV,zM,dt,dR,dQ,dO,dN,qi,qj,qU,zm,qC,zf,zg,recOf,zh,zR,zT,zi,qK,dE,bB,bh,if_true,if_false,ite_true,ite_false,bA,bu,dr,dq,reduceCtorEq,decide_true,decide_false,eo,eh,zq,zb,zn,zY,zo,zX,qX,zZ,zw,z8,bt,bp,qg,qR,qd,qP,qf,qO,qz,qQ,qh,bo,bn,eg,ef,ee,true_and,and_true,ec,dZ,bm,bj,dY,dX,bG,bF,eq_self,bg,be,bc,a8,aZ];split
   .have ag:i<xs.length:=by omega
    obtain⟨v,e7,bX,n0,nZ,tB,nY⟩:=mkT_I.step hr j5 n2 hv.2 ag u;have gn:h'.rd1 o i=some (er idz v):=by
     rw[Qv (by rw[u.same o hz (ZU.2 λhm=>n1 (zGe (mkT_I.keysS (hr.take i) (Qn.2 λc hc=>Qn.1 j5 c (List.mem_of_mem_take hc)) o hm)))];exact ho)];rw[zAf,e7];rfl
    have ht:=zC4 (len:=List.length) ag;have fY:=zFt List.length xs (i+1);have iE:=dk _ (List.getElem_mem ag);simp only[nm_eq,nm_eq,abQ,↓reduceIte,dS,qc,qy,qV,dD,dC,dA,dz,dy,dx,dM,dL,dK,dJ,dI,dH,dG,dF,dw,du,qA,ze,zU,zV,zM,dt,dR,dQ,dO,dN,qi,qj,qU,zm,qC,zf,zg,recOf,zh,zR,zT,zi,qK,dE,bB,bh,if_true,if_false,ite_true,ite_false,bA,bu,dr,dq,reduceCtorEq,decide_true,decide_false,eo,eh,zq,zb,zn,zY,zo,zX,qX,zZ,zw,z8,bt,bp,qg,qR,qd,qP,qf,qO,qz,qQ,qh,bo,bn,eg,ef,ee,true_and,and_true,ec,dZ,bm,bj,dY,dX,bG,bF,eq_self,bg,be,bc,a8,aZ,zCs ag,gn,wrapS ag (by omega:xs.length<=4611686018427387904)];refine zHo bX n0 u.wf tB iE (by omega) (by omega) λcD u'=>?_;simp only[nm_eq,nm_eq,abQ,↓reduceIte,dS,qc,qy,qV,dD,dC,dA,dz,dy,dx,dM,dL,dK,dJ,dI,dH,dG,dF,dw,du,qA,ze,zU,zV,zM,dt,dR,dQ,dO,dN,qi,qj,qU,zm,qC,zf,zg,recOf,zh,zR,zT,zi,qK,dE,bB,bh,if_true,if_false,ite_true,ite_false,bA,bu,dr,dq,reduceCtorEq,decide_true,decide_false,eo,eh,zq,zb,zn,zY,zo,zX,qX,zZ,zw,z8,bt,bp,qg,qR,qd,qP,qf,qO,qz,qQ,qh,bo,bn,eg,ef,ee,true_and,and_true,ec,dZ,bm,bj,dY,dX,bG,bF,eq_self,bg,be,bc,a8,aZ,wrapS ag (by omega:xs.length<=4611686018427387904)];exact⟨_,by omega,i+1,by omega,rfl,(by(simp only[nm_eq,nm_eq,abQ,↓reduceIte,dS,qc,qy,qV,dD,dC,dA,dz,dy,dx,dM,dL,dK,dJ,dI,dH,dG,dF,dw,du,qA,ze,zU,zV,zM,dt,dR,dQ,dO,dN,qi,qj,qU,zm,qC,zf,zg,recOf,zh,zR,zT,zi,qK,dE,bB,bh,if_true,if_false,ite_true,ite_false,bA,bu,dr,dq,reduceCtorEq,decide_true,decide_false,eo,eh,zq,zb,zn,zY,zo,zX,qX,zZ,zw,z8,bt,bp,qg,qR,qd,qP,qf,qO,qz,qQ,qh,bo,bn,eg,ef,ee,true_and,and_true,ec,dZ,bm,bj,dY,dX,bG,bF,eq_self,bg,be,bc,a8,aZ,List.cons.injEq,AV.int.injEq,AV.sl.injEq,and_self])<;>omega),nY _ u'⟩
   .have aI:i=xs.length:=by omega
    subst aI;rw[List.take_length,List.take_of_length_le (by rw[hr.1];exact vH _)]at u;rw[List.take_length];exact hk _ u
theorem zF8{v:PV}{xs:L5}{k:Int}(hI:FIII v xs)(hW:Wh v)(cV:(ead v).Nodup)(hw:HWF h)(hv:VOK (zlt h) h 0 v)(hb:xs.length<=4294967296)(dk:∀x∈xs,x.length<=4294967296/\∀y∈x,y.length<=4294967296)(dh:0<=k)(eK:k+totL (totL List.length) xs<=4611686018427387904)
  (hk:∀h',Upd h (mkF (mkF mkI List.length) (totL List.length) k v xs) h'->K (.int .i64 (k+totL (totL List.length) xs)) h'):ZI Tryz.prog 99 [er idz v,.int .i64 k] h K:=by
 refine QP mix Tryz.func99 cf99 rfl ?_;dsimp only[if99,mI0,kI0,lI0,xI0,bI0,cI0,sI0,C2,R0,S0];obtain⟨w,a,rows,rfl,hr⟩:=hI;by_cases ai:rows=[]
 .have hx:=hr.nil_iff.1 ai;subst ai;subst hx;have hlen:aLen a=some (.int .i64 ((0:Nat):Int)):=by
   obtain⟨rfl,_⟩|⟨o,off,cap,rfl,_⟩:=hv.1<;>rfl
  simp only[nm_eq,nm_eq,abQ,↓reduceIte,dS,qc,qy,qV,dD,dC,dA,dz,dy,dx,dM,dL,dK,dJ,dI,dH,dG,dF,dw,du,qA,ze,zU,zV,zM,dt,dR,dQ,dO,dN,qi,qj,qU,zm,qC,zf,zg,recOf,zh,zR,zT,zi,qK,dE,bB,bh,if_true,if_false,ite_true,ite_false,bA,bu,dr,dq,reduceCtorEq,decide_true,decide_false,eo,eh,zq,zb,zn,zY,zo,zX,qX,zZ,zw,z8,bt,bp,qg,qR,qd,qP,qf,qO,qz,qQ,qh,bo,bn,eg,ef,ee,true_and,and_true,ec,dZ,bm,bj,dY,dX,bG,bF,eq_self,bg,be,bc,a8,aZ,er];refine zBE (λm vs h'=>vs=[a,.int .i64 k,.int .i64 0]/\h'=h) 0 ⟨rfl,rfl⟩ ?_
  rintro m vs h' ⟨rfl,rfl⟩
  simp only[nm_eq,nm_eq,abQ,↓reduceIte,dS,qc,qy,qV,dD,dC,dA,dz,dy,dx,dM,dL,dK,dJ,dI,dH,dG,dF,dw,du,qA,ze,zU,zV,zM,dt,dR,dQ,dO,dN,qi,qj,qU,zm,qC,zf,zg,recOf,zh,zR,zT,zi,qK,dE,bB,bh,if_true,if_false,ite_true,ite_false,bA,bu,dr,dq,reduceCtorEq,decide_true,decide_false,eo,eh,zq,zb,zn,zY,zo,zX,qX,zZ,zw,z8,bt,bp,qg,qR,qd,qP,qf,qO,qz,qQ,qh,bo,bn,eg,ef,ee,true_and,and_true,ec,dZ,bm,bj,dY,dX,bG,bF,eq_self,bg,be,bc,a8,aZ,hlen,Int.lt_irrefl]
  have:=hk h' (Upd.refl hw)
  simpa [totL]using this
 .obtain⟨m6,_,j5⟩:=hW.resolve_left ai;obtain⟨o,cap,rfl,ho,hz⟩:=hv.whole m6 ai;rw[zBh ai]at cV;obtain⟨n1,n2⟩:=List.nodup_cons.1 cV;simp only[nm_eq,nm_eq,abQ,↓reduceIte,dS,qc,qy,qV,dD,dC,dA,dz,dy,dx,dM,dL,dK,dJ,dI,dH,dG,dF,dw,du,qA,ze,zU,zV,zM,dt,dR,dQ,dO,dN,qi,qj,qU,zm,qC,zf,zg,recOf,zh,zR,zT,zi,qK,dE,bB,bh,if_true,if_false,ite_true,ite_false,bA,bu,dr,dq,reduceCtorEq,decide_true,decide_false,eo,eh,zq,zb,zn,zY,zo,zX,qX,zZ,zw,z8,bt,bp,qg,qR,qd,qP,qf,qO,qz,qQ,qh,bo,bn,eg,ef,ee,true_and,and_true,ec,dZ,bm,bj,dY,dX,bG,bF,eq_self,bg,be,bc,a8,aZ,er];refine zBE (λm vs h'=>∃i:Nat,i<=xs.length/\m=xs.length-i/\vs=[.sl o 0 xs.length cap,.int .i64 (k+totL (totL List.length) (xs.take i)),.int .i64 i]/\Upd h (mkS (mkF mkI List.length) (totL List.length) k (rows.take i) (xs.take i)) h') xs.length ?_ ?_
  .exact⟨0,by omega,by omega,by rw[List.take_zero,zEP];exact(by(simp only[nm_eq,nm_eq,abQ,↓reduceIte,dS,qc,qy,qV,dD,dC,dA,dz,dy,dx,dM,dL,dK,dJ,dI,dH,dG,dF,dw,du,qA,ze,zU,zV,zM,dt,dR,dQ,dO,dN,qi,qj,qU,zm,qC,zf,zg,recOf,zh,zR,zT,zi,qK,dE,bB,bh,if_true,if_false,ite_true,ite_false,bA,bu,dr,dq,reduceCtorEq,decide_true,decide_false,eo,eh,zq,zb,zn,zY,zo,zX,qX,zZ,zw,z8,bt,bp,qg,qR,qd,qP,qf,qO,qz,qQ,qh,bo,bn,eg,ef,ee,true_and,and_true,ec,dZ,bm,bj,dY,dX,bG,bF,eq_self,bg,be,bc,a8,aZ,List.cons.injEq,AV.int.injEq,AV.sl.injEq,and_self])<;>omega),by simp only[List.take_zero,zKI];exact Upd.refl hw⟩
  .rintro m vs h' ⟨i,hi,rfl,rfl,u⟩
   simp only[nm_eq,nm_eq,abQ,↓reduceIte,dS,qc,qy,qV,dD,dC,dA,dz,dy,dx,dM,dL,dK,dJ,dI,dH,dG,dF,dw,du,qA,ze,zU,zV,zM,dt,dR,dQ,dO,dN,qi,qj,qU,zm,qC,zf,zg,recOf,zh,zR,zT,zi,qK,dE,bB,bh,if_true,if_false,ite_true,ite_false,bA,bu,dr,dq,reduceCtorEq,decide_true,decide_false,eo,eh,zq,zb,zn,zY,zo,zX,qX,zZ,zw,z8,bt,bp,qg,qR,qd,qP,qf,qO,qz,qQ,qh,bo,bn,eg,ef,ee,true_and,and_true,ec,dZ,bm,bj,dY,dX,bG,bF,eq_self,bg,be,bc,a8,aZ];split
   .have ag:i<xs.length:=by omega
    obtain⟨v,e7,bX,n0,nZ,tB,nY⟩:=mkT_I.F.step hr j5 n2 hv.2 ag u;have gn:h'.rd1 o i=some (er idz v):=by
     rw[Qv (by rw[u.same o hz (ZU.2 λhm=>n1 (zGe (mkT_I.F.keysS (hr.take i) (Qn.2 λc hc=>Qn.1 j5 c (List.mem_of_mem_take hc)) o hm)))];exact ho)];rw[zAf,e7];rfl
    have ht:=zC4 (len:=totL List.length) ag;have fY:=zFt (totL List.length) xs (i+1);have iE:=dk _ (List.getElem_mem ag);simp only[nm_eq,nm_eq,abQ,↓reduceIte,dS,qc,qy,qV,dD,dC,dA,dz,dy,dx,dM,dL,dK,dJ,dI,dH,dG,dF,dw,du,qA,ze,zU,zV,zM,dt,dR,dQ,dO,dN,qi,qj,qU,zm,qC,zf,zg,recOf,zh,zR,zT,zi,qK,dE,bB,bh,if_true,if_false,ite_true,ite_false,bA,bu,dr,dq,reduceCtorEq,decide_true,decide_false,eo,eh,zq,zb,zn,zY,zo,zX,qX,zZ,zw,z8,bt,bp,qg,qR,qd,qP,qf,qO,qz,qQ,qh,bo,bn,eg,ef,ee,true_and,and_true,ec,dZ,bm,bj,dY,dX,bG,bF,eq_self,bg,be,bc,a8,aZ,zCs ag,gn,wrapS ag (by omega:xs.length<=4611686018427387904)];refine zA5 bX n0 nZ u.wf tB iE.1 iE.2 (by omega) (by omega) λcD u'=>?_;simp only[nm_eq,nm_eq,abQ,↓reduceIte,dS,qc,qy,qV,dD,dC,dA,dz,dy,dx,dM,dL,dK,dJ,dI,dH,dG,dF,dw,du,qA,ze,zU,zV,zM,dt,dR,dQ,dO,dN,qi,qj,qU,zm,qC,zf,zg,recOf,zh,zR,zT,zi,qK,dE,bB,bh,if_true,if_false,ite_true,ite_false,bA,bu,dr,dq,reduceCtorEq,decide_true,decide_false,eo,eh,zq,zb,zn,zY,zo,zX,qX,zZ,zw,z8,bt,bp,qg,qR,qd,qP,qf,qO,qz,qQ,qh,bo,bn,eg,ef,ee,true_and,and_true,ec,dZ,bm,bj,dY,dX,bG,bF,eq_self,bg,be,bc,a8,aZ,wrapS ag (by omega:xs.length<=4611686018427387904)];exact⟨_,by omega,i+1,by omega,rfl,(by(simp only[nm_eq,nm_eq,abQ,↓reduceIte,dS,qc,qy,qV,dD,dC,dA,dz,dy,dx,dM,dL,dK,dJ,dI,dH,dG,dF,dw,du,qA,ze,zU,zV,zM,dt,dR,dQ,dO,dN,qi,qj,qU,zm,qC,zf,zg,recOf,zh,zR,zT,zi,qK,dE,bB,bh,if_true,if_false,ite_true,ite_false,bA,bu,dr,dq,reduceCtorEq,decide_true,decide_false,eo,eh,zq,zb,zn,zY,zo,zX,qX,zZ,zw,z8,bt,bp,qg,qR,qd,qP,qf,qO,qz,qQ,qh,bo,bn,eg,ef,ee,true_and,and_true,ec,dZ,bm,bj,dY,dX,bG,bF,eq_self,bg,be,bc,a8,aZ,List.cons.injEq,AV.int.injEq,AV.sl.injEq,and_self])<;>omega),nY _ u'⟩
   .have aI:i=xs.length:=by omega
    subst aI;rw[List.take_length,List.take_of_length_le (by rw[hr.1];exact vH _)]at u;rw[List.take_length];exact hk _ u
def mkR(k:Int)(vP vB:PV)(W:L4)(B:L5):List (Nat×List PV):=
 mkF mkI List.length k vP W++mkF (mkF mkI List.length) (totL List.length) (k+totL List.length W) vB B
def totR(W:L4)(B:L5):Nat:=totL List.length W+totL (totL List.length) B
theorem zGs{p k:Int}{vP vB:PV}{W:L4}{B:L5}(hR:IsR vP vB W B)(hW:Wh (.agg [.int .i64 p,vP,vB]))(cV:(ead (.agg [.int .i64 p,vP,vB])).Nodup)(hw:HWF h)(hv:VOK (zlt h) h 0 (.agg [.int .i64 p,vP,vB]))(sz:SzR W B)(dh:0<=k)(eK:k+totR W B<=4611686018427387904)
  (hk:∀h',Upd h (mkR k vP vB W B) h'->K (.int .i64 (k+totR W B)) h'):ZI Tryz.prog 19 [er idz (.agg [.int .i64 p,vP,vB]),.int .i64 k] h K:=by
 refine QP mix Tryz.func19 cf19 rfl ?_;dsimp only[if19,mI0,kI0,lI0,fI0,C2,R0,S0];simp only[er,ers];unfold totR at hk eK;obtain⟨_,ry,rD,_⟩:=hv;obtain⟨_,wP,wB,_⟩:=hW;have oP:(er idz vP).one=true:=by rw[zIA ry];exact hR.P.one
 have oB:(er idz vB).one=true:=by rw[zIA rD];exact hR.B.one
 have cP:=zBj oP;have cB:=zBj oB;simp only[ead,eads,List.nil_append,List.append_nil,List.nodup_append]at cV;obtain⟨dP,dB,dd⟩:=cV;obtain⟨hh,he,eJ,hn,qq⟩:=box1 hw [.int .i64 p,er idz vP,er idz vB];have fg:∀o,zlt h o->zlt hh o/\hh.obj o=h.obj o:=λo ho=>⟨Nat.lt_of_lt_of_le ho eJ.next,eJ.obj o ho⟩
 have q:=qq _ (Ext.refl eJ.wf);have kP:=(mkT_I.F).keys (k:=k) hR.P wP;have kB:=(mkT_I.F.F).keys (k:=k+totL List.length W) hR.B wB;simp only[nm_eq,nm_eq,abQ,↓reduceIte,dS,qc,qy,qV,dD,dC,dA,dz,dy,dx,dM,dL,dK,dJ,dI,dH,dG,dF,dw,du,qA,ze,zU,zV,zM,dt,dR,dQ,dO,dN,qi,qj,qU,zm,qC,zf,zg,recOf,zh,zR,zT,zi,qK,dE,bB,bh,if_true,if_false,ite_true,ite_false,bA,bu,dr,dq,reduceCtorEq,decide_true,decide_false,eo,eh,zq,zb,zn,zY,zo,zX,qX,zZ,zw,z8,bt,bp,qg,qR,qd,qP,qf,qO,qz,qQ,qh,bo,bn,eg,ef,ee,true_and,and_true,ec,dZ,bm,bj,dY,dX,bG,bF,eq_self,bg,be,bc,a8,aZ,he,oP,oB,cP,cB,Qv q];refine zA5 hR.P wP dP eJ.wf (ry.mono fg (vH _)) (by have:=sz.Wl;omega) (λx hx=>by have:=sz.w x hx;omega) dh (by omega) λh1 u1=>?_;have qB:h1.obj h.next=some ⟨true,[.int .i64 p,er idz vP,er idz vB]⟩:=by
  rw[u1.same _ (by omega) (ZU.2 λhm=>by have:h.next<h.next:=ead_z ry _ (kP _ hm);omega)];exact q
 have tw:VOK (zlt h1) h1 0 vB:=by
  have h2:=zE4 u1 (λo ho=>ho) (rD.mono fg (vH _));rw[zHE λo ho hm=>dd o (kP o ho) o hm rfl]at h2;exact h2.mono (λo ho=>⟨Nat.lt_of_lt_of_le ho u1.next,rfl⟩) (vH _)
 have bM:¬(k+(totL List.length W:Int)<0):=by omega
 simp only[nm_eq,nm_eq,abQ,↓reduceIte,dS,qc,qy,qV,dD,dC,dA,dz,dy,dx,dM,dL,dK,dJ,dI,dH,dG,dF,dw,du,qA,ze,zU,zV,zM,dt,dR,dQ,dO,dN,qi,qj,qU,zm,qC,zf,zg,recOf,zh,zR,zT,zi,qK,dE,bB,bh,if_true,if_false,ite_true,ite_false,bA,bu,dr,dq,reduceCtorEq,decide_true,decide_false,eo,eh,zq,zb,zn,zY,zo,zX,qX,zZ,zw,z8,bt,bp,qg,qR,qd,qP,qf,qO,qz,qQ,qh,bo,bn,eg,ef,ee,true_and,and_true,ec,dZ,bm,bj,dY,dX,bG,bF,eq_self,bg,be,bc,a8,aZ,Qv qB,bM];refine zF8 hR.B wB dB u1.wf tw (by have:=sz.Bl;omega) (λx hx=>⟨by have:=sz.b x hx;omega,λy hy=>by have:=sz.c x hx y hy;omega⟩) (by omega) (by omega) λh2 u2=>?_;have u3:Upd hh (mkR k vP vB W B) h2:=u1.trans u2 (λo ho hm=>dd o (kP o ho) o (kB o hm) rfl) λo ho=>by have:o<h.next:=ead_z rD o (kB o ho);omega
 have u4:=eJ.upd.trans u3 (λo ho=>by cases ho) λo ho=>by
  unfold mkR at ho;rw[List.map_append,List.mem_append]at ho;exact ho.elim (λhm=>ead_z ry o (kP o hm)) λhm=>ead_z rD o (kB o hm)
 have e:k+(totL List.length W:Int)+(totL (totL List.length) B:Int)=k+((totL List.length W+totL (totL List.length) B:Nat):Int):=by omega
 rw[e];simp only[nm_eq,nm_eq,abQ,↓reduceIte,dS,qc,qy,qV,dD,dC,dA,dz,dy,dx,dM,dL,dK,dJ,dI,dH,dG,dF,dw,du,qA,ze,zU,zV,zM,dt,dR,dQ,dO,dN,qi,qj,qU,zm,qC,zf,zg,recOf,zh,zR,zT,zi,qK,dE,bB,bh,if_true,if_false,ite_true,ite_false,bA,bu,dr,dq,reduceCtorEq,decide_true,decide_false,eo,eh,zq,zb,zn,zY,zo,zX,qX,zZ,zw,z8,bt,bp,qg,qR,qd,qP,qf,qO,qz,qQ,qh,bo,bn,eg,ef,ee,true_and,and_true,ec,dZ,bm,bj,dY,dX,bG,bF,eq_self,bg,be,bc,a8,aZ];exact hk _ (by simpa using u4)
end
section
variable{U:PHeap}{K:PV->PHeap->Prop}{p:Int}{W:L4}{B:L5}{vP vB:PV}{lo hi:Nat}
theorem zNG{v:PV}{xs:L4}{k:Int}(hI:FII v xs)(ho:Own lo hi v):∀o∈(mkF mkI List.length k v xs).map Prod.fst,lo<=o/\o<hi:=λo hm=>ho.lt o (mkT_I.F.keys hI ho.wh o hm)
theorem zCv{v:PV}{xs:L4}{k:Int}(hI:FII v xs)(ho:Own lo hi v)(hb:xs.length<=4294967296)(dk:∀x∈xs,x.length<=4294967296)(dh:0<=k)(eK:k+totL List.length xs<=4611686018427387904):
  zA1 Tryz.prog 20 [v,.int .i64 k] U (mkF mkI List.length k v xs) .i64 (k+totL List.length xs):=
 zA1.of (hI.bel 0) (mkT_I.F.keys hI ho.wh) λh hw hv=>zA5 hI ho.wh ho.nd hw hv hb dk dh eK λh' u=>⟨rfl,u⟩
theorem zHn{k:Int}(hR:IsR vP vB W B)(hW:Wh (.agg [.int .i64 p,vP,vB])):∀o∈(mkR k vP vB W B).map Prod.fst,o∈ead (.agg [.int .i64 p,vP,vB]):=by
 obtain⟨_,wP,wB,_⟩:=hW;intro o ho;unfold mkR at ho;rw[List.map_append,List.mem_append]at ho;simp only[ead,eads,List.nil_append,List.append_nil,List.mem_append];exact ho.imp (mkT_I.F.keys hR.P wP o) (mkT_I.F.F.keys hR.B wB o)
theorem keysR{k:Int}(hR:IsR vP vB W B)(ho:Own lo hi (.agg [.int .i64 p,vP,vB])):∀o∈(mkR k vP vB W B).map Prod.fst,lo<=o/\o<hi:=λo hm=>ho.lt o (zHn hR ho.wh o hm)
theorem zGr{k:Int}(hR:IsR vP vB W B)(ho:Own lo hi (.agg [.int .i64 p,vP,vB]))(sz:SzR W B)(dh:0<=k)(eK:k+totR W B<=4611686018427387904):
  zA1 Tryz.prog 19 [.agg [.int .i64 p,vP,vB],.int .i64 k] U (mkR k vP vB W B) .i64 (k+totR W B):=
 zA1.of ⟨trivial,hR.P.bel 0,hR.B.bel 0,trivial⟩ (zHn hR ho.wh) λh hw hv=>zGs hR ho.wh ho.nd hw hv sz dh eK λh' u=>⟨rfl,u⟩
theorem zGu{v:PV}{xs:L3}{k:Int}(hI:FI v (seqI k xs.length))(hb:xs.length<=4294967296)(dh:0<=k)(eK:k<=4611686018427387904)(hk:K (.int .i64 (k+xs.length)) U):zA Tryz.prog 101 [v,.int .i64 k] U K:=by
 obtain⟨w,a,rfl⟩:=hI;have hl:=QH xs.length k;have hg:=zHD xs.length k;generalize seqI k xs.length=ys at *
 refine zB mix Tryz.func101 ?_
 conv=>arg 2;cbv
 refine zC rfl ?_;simp only[Z3,seval,-ae];refine zF (λm vs h'=>∃i:Nat,i<=ys.length/\m=ys.length-i/\vs=[.fz w a ys.length (pis ys),.int .i64 (k+(i:Int)),.int .i64 i]/\U=h') ys.length ?_ ?_
 .exact⟨0,by omega,by omega,by rw[show k+((0:Nat):Int)=k by omega];rfl,rfl⟩
 rintro m vs h' ⟨i,hi,rfl,rfl,rfl⟩
 simp only[Z3,seval,-ae];refine iteI (λag=>?_) λaG=>?_
 .simp only[Z3,seval,-ae,ag,gi ag,hg i ag,zQ,wrapS ag (by omega:ys.length<=4611686018427387904),wrap64 (n:=k+(i:Int)+1) (by omega) (by omega)];refine⟨_,by omega,i+1,by omega,rfl,?_⟩
  have:k+(i:Int)+1=k+((i+1:Nat):Int):=by omega
  rw[this]
 .have aI:i=xs.length:=by omega
  subst aI;exact hk
theorem zCM{v:PV}{xs:L4}{k:Int}(hI:FII v (sqL sqI List.length k xs))(hb:xs.length<=4294967296)(dk:∀x∈xs,x.length<=4294967296)(dh:0<=k)(eK:k+totL List.length xs<=4611686018427387904)(hk:K (.int .i64 (k+totL List.length xs)) U):zA Tryz.prog 21 [v,.int .i64 k] U K:=by
 obtain⟨w,a,rows,rfl,hr⟩:=hI;have hl:=zA8 sqI List.length xs k;have hg:∀(i:Nat) (hi:i<xs.length) (h2:i<(sqL sqI List.length k xs).length),(sqL sqI List.length k xs)[i]=sqI (k+totL List.length (xs.take i)) xs[i]:=λi hi _=>zKB sqI List.length xs k i hi;generalize sqL sqI List.length k xs=ys at *
 refine zB mix Tryz.func21 ?_
 conv=>arg 2;cbv
 refine zC rfl ?_;simp only[Z3,seval,-ae];refine zF (λm vs h'=>∃i:Nat,i<=ys.length/\m=ys.length-i/\vs=[.fz w a ys.length rows,.int .i64 (k+totL List.length (xs.take i)),.int .i64 i]/\U=h') ys.length ?_ ?_
 .exact⟨0,by omega,by omega,by rw[List.take_zero,zEP,show k+((0:Nat):Int)=k by omega];rfl,rfl⟩
 rintro m vs h' ⟨i,hi,rfl,rfl,rfl⟩
 simp only[Z3,seval,-ae];refine iteI (λag=>?_) λaG=>?_
 .have iL:i<xs.length:=by omega
  obtain⟨w4,a4,cE⟩:=hr.rowI ag;have ht:=zC4 (len:=List.length) iL;have fY:=zFt List.length xs (i+1);have kJ:=hg i iL ag;simp only[Z3,seval,-ae,ag,cE];have iE:=dk _ (List.getElem_mem iL);refine zGu (xs:=xs[i]) ⟨w4,a4,by rw[kJ,sqI]⟩ iE (by omega) (by omega) ?_;have hn:¬(k+(totL List.length (xs.take i):Int)+(xs[i].length:Int)<0):=by omega
  simp only[Z3,seval,-ae,hn,wrapS ag (by omega:ys.length<=4611686018427387904)];refine⟨_,by omega,i+1,by omega,rfl,?_⟩
  have:k+(totL List.length (xs.take i):Int)+(xs[i].length:Int)=k+(totL List.length (xs.take (i+1)):Int):=by omega
  rw[this]
 .have aI:i=xs.length:=by omega
  subst aI;rw[List.take_length];exact hk
theorem zKf{v:PV}{xs:L3}(hI:FI v xs)(hb:xs.length<=1048576)(hk:∀v t,FI v xs->Own U.top t v->U.top<=t->K v (U.up t)):zA Tryz.prog 90 [v] U K:=
 zA.fzT (λK'=>zD4 hI hb) (zN _ _) (Owns.pis _ _ _) λo cap t h1 h2=>hk _ t ⟨_,_,rfl⟩ h1 h2
theorem zB1{v:PV}{xs:L4}(hI:FII v xs)(sz:SzL xs)(hk:∀v t,FII v xs->Own U.top t v->U.top<=t->K v (U.up t)):zA Tryz.prog 15 [v] U K:=by
 obtain⟨w,a,rs,rfl,hr⟩:=hI;have hb:=sz.l;refine zA.gh ?_;refine zB mix Tryz.func15 ?_
 conv=>arg 2;cbv
 refine zC rfl ?_;simp only[Z3,seval,-ae,mk24 (n:=xs.length) (by omega),mkL (n:=xs.length) (by omega)];refine zF (λm vs h'=>∃i:Nat,i<=xs.length/\m=xs.length-i/\vs=[.fz w a xs.length rs,.sl U.next 0 xs.length (.known xs.length),.int .i64 i]/\∃rows t,rows.length=i/\All2 FI rows (xs.take i)/\Owns U.top t rows/\U.top<=t/\h'=(U.new (rows++List.replicate (xs.length-i) (.fz true .nils 0 []))).up t) xs.length ?_ ?_
 .exact⟨0,by omega,by omega,rfl,[],U.top,rfl,by simpa using All2.nil _,Owns.nil _ _,vH _,by simp[PHeap.up,PHeap.new]⟩
 rintro m vs h' ⟨i,hi,rfl,rfl,rows,t,aT,fI,iI,kj,rfl⟩
 simp only[Z3,seval,-ae];refine iteI (λag=>?_) λaG=>?_
 .obtain⟨w4,a4,cE⟩:=hr.rowI ag;simp only[Z3,seval,-ae,ag,cE];refine zKf ⟨_,_,rfl⟩ (sz.r _ (List.getElem_mem ag)) λr t2 ck cn cg=>?_;have hlen:i+1<=(rows++List.replicate (xs.length-i) (PV.fz true .nils 0 [])).length:=by simp;omega
  simp only[Z3,seval,-ae,ag,hlen,ck.cells,ck.one,wrapS ag (by omega:xs.length<=4611686018427387904)];refine⟨_,by omega,i+1,by omega,rfl,rfl,rows++[r],t2,by simp[aT],?_,iI.snoc cn kj cg,Nat.le_trans kj cg,?_⟩
  .rw[List.take_succ_eq_append_getElem ag];exact fI.snoc ck
  .rw[zCY aT ag];rfl
 .have aI:i=xs.length:=by omega
  subst aI;rw[List.take_length]at fI;rw[Nat.sub_self,List.replicate_zero,List.append_nil];exact Gh.own ((zD U _).up kj) (by simp only[Z3,seval,-ae]) (vH _) (fI.bI 0) (by simp[capOK]) iI λo t h1 h2=>hk _ t ⟨_,_,_,rfl,fI⟩ h1 h2
theorem zG8{v:PV}{xs:L5}(hI:FIII v xs)(sz:SzM xs)(hk:∀v t,FIII v xs->Own U.top t v->U.top<=t->K v (U.up t)):zA Tryz.prog 89 [v] U K:=by
 obtain⟨w,a,rs,rfl,hr⟩:=hI;have hb:=sz.l;refine zA.gh ?_;refine zB mix Tryz.func89 ?_
 conv=>arg 2;cbv
 refine zC rfl ?_;simp only[Z3,seval,-ae,mk24 (n:=xs.length) (by omega),mkL (n:=xs.length) (by omega)];refine zF (λm vs h'=>∃i:Nat,i<=xs.length/\m=xs.length-i/\vs=[.fz w a xs.length rs,.sl U.next 0 xs.length (.known xs.length),.int .i64 i]/\∃rows t,rows.length=i/\All2 FII rows (xs.take i)/\Owns U.top t rows/\U.top<=t/\h'=(U.new (rows++List.replicate (xs.length-i) (.fz true .nils 0 []))).up t) xs.length ?_ ?_
 .exact⟨0,by omega,by omega,rfl,[],U.top,rfl,by simpa using All2.nil _,Owns.nil _ _,vH _,by simp[PHeap.up,PHeap.new]⟩
 rintro m vs h' ⟨i,hi,rfl,rfl,rows,t,aT,fI,iI,kj,rfl⟩
 simp only[Z3,seval,-ae];refine iteI (λag=>?_) λaG=>?_
 .obtain⟨w4,a4,rk,cE,e9⟩:=hr.rowL ag;simp only[Z3,seval,-ae,ag,cE];refine zB1 ⟨_,_,_,rfl,e9⟩ (sz.r _ (List.getElem_mem ag)) λr t2 ck cn cg=>?_;have hlen:i+1<=(rows++List.replicate (xs.length-i) (PV.fz true .nils 0 [])).length:=by simp;omega
  simp only[Z3,seval,-ae,ag,hlen,ck.cells,ck.one,wrapS ag (by omega:xs.length<=4611686018427387904)];refine⟨_,by omega,i+1,by omega,rfl,rfl,rows++[r],t2,by simp[aT],?_,iI.snoc cn kj cg,Nat.le_trans kj cg,?_⟩
  .rw[List.take_succ_eq_append_getElem ag];exact fI.snoc ck
  .rw[zCY aT ag];rfl
 .have aI:i=xs.length:=by omega
  subst aI;rw[List.take_length]at fI;rw[Nat.sub_self,List.replicate_zero,List.append_nil];exact Gh.own ((zD U _).up kj) (by simp only[Z3,seval,-ae]) (vH _) (fI.bL 0) (by simp[capOK]) iI λo t h1 h2=>hk _ t ⟨_,_,_,rfl,fI⟩ h1 h2
theorem zIk(hR:IsR vP vB W B)(sz:SzR W B)(hk:∀vP vB t,IsR vP vB W B->Own U.top t (.agg [.int .i64 p,vP,vB])->U.top<=t->K (.agg [.int .i64 p,vP,vB]) (U.up t)):zA Tryz.prog 14 [.agg [.int .i64 p,vP,vB]] U K:=by
 have h1:=hR.P.one;have h2:=hR.B.one;refine zA.gh ?_;refine zB mix Tryz.func14 ?_
 conv=>arg 2;cbv
 refine zC rfl ?_;simp only[Z3,seval,-ae,h1,h2];refine zB1 hR.P sz.L λv1 t1 e7 yR gX=>?_;simp only[Z3,seval,-ae,e7.cells,e7.one];refine zG8 hR.B sz.M λv2 t2 bX yQ jX=>?_;simp only[Z3,seval,-ae,bX.cells,bX.one,e7.one];have tV:=(((Owns.nil U.top U.top).snoc (Own.int _ _ .i64 p) (vH _) (vH _)).snoc yR (vH _) gX).snoc yQ gX jX;exact Gh.fin0T (t:=t2) (v:=.agg [.int .i64 p,v1,v2]) (Keep.up (((zD U _).new _).new _) (Nat.le_trans gX jX)) (vH _) ⟨trivial,e7.bel _,bX.bel _,trivial⟩ λ_=>hk v1 v2 t2 ⟨e7,bX⟩ tV.agg (Nat.le_trans gX jX)
end
end Go.Proofs
