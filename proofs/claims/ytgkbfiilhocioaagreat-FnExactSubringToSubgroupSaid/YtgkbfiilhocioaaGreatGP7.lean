/- . -/
import Derived.Test.YtgkbfiilhocioaaGreatGP6
open Nat renaming le_refl→vH
open Int renaming reduceNatCast'->ae
set_option maxRecDepth 100000
set_option linter.unusedSimpArgs false
set_option linter.unusedVariables false
namespace Go.Proofs
open Go.Ab Go.Lie
variable{U:PHeap}{K:PV->PHeap->Prop}{p:Int}{n:Nat}{W:L4}{vP vB:PV}{s:Nat}
theorem zA.fzITx{P:Program}{f:FuncId}{args:List PV}{D:L3->Prop}(c:∀K':PV->PHeap->Prop,(∀z,D z->ResI U K' z)->zA P f args U K')(k:∀z v t,D z->FI v z->Own U.top t v->U.top<=t->K v (U.up t)):zA P f args U K:=
 zA.gh (c _ λz hz=>⟨λh0=>by subst h0;exact Gh.ret (k _ _ U.top hz ⟨true,.nils,rfl⟩ (Own.empty _ _ _ _ _) (vH _)),λcap hc=>Gh.own (zD U _) (by simp[PHeap.new]) (vH _) (zN _ _) hc.ok (Owns.pis _ _ _) λo t h1 h2=>k _ _ t hz ⟨true,_,rfl⟩ h1 h2⟩)
theorem zCy{l:Nat}{w:Bool}{av:AV}{k:Int}{x:L3}(hs:PtrR U s p vP vB)(hP:FII vP W)(o:OkW p n W)(jq:ipow p n<=729)(hx:El p n x)(hl:l=x.length)
  (hk:∀z,DivL p n W k x z->ResI U K z):zA Tryz.prog 292 [.ptr s 0,.fz w av l (pis x),.int .i64 k] U K:=by
 have aX:=o.le;have cZ:=o.pr;have aV:=hx.1;have iq:U.rd1 s 0=some (.int .i64 p):=by rw[zG hs.obj];rfl
 subst hl;refine zB mix Tryz.func292 ?_
 conv=>arg 2;cbv
 refine zC rfl ?_;simp only[Z3,seval,-ae];refine zAr rfl (by omega) ?_;by_cases hz:isZ x
 .simp only[Z3,seval,-ae,hz,decide_true];have hd:DivL p n W k x x:=⟨hx,λ_=>rfl,λ_=>by
   refine Eqv.of_eq λj=>?_;rw[Zu hz,Int.mul_zero]⟩
  refine Qa rfl (by omega) ⟨λh0=>?_,λcap hc=>?_⟩
  .simp only[Z3,seval,-ae];exact(hk x hd).1 h0
  .simp only[Z3,seval,-ae];exact(hk x hd).2 cap hc
 .have hn:0<n:=by
   rcases Nat.eq_zero_or_pos n with h|h
   .exact absurd (by rw[List.eq_nil_of_length_eq_zero (aV.trans h)];intro y hy;cases hy) hz
   .exact h
  have y6:2<=ipow p n:=by
   obtain⟨n',rfl⟩:∃n',n=n'+1:=⟨n-1,by omega⟩
   have h1:∀k:Nat,1<=ipow p k:=λk=>by
    induction k with
    |zero=>simp[ipow]
    |succ k ih=>
     have:=Int.mul_le_mul_of_nonneg_left (show(1:Int)<=p by have:=cZ.1;omega) (show 0<=ipow p k by omega)
     rw[ipow];omega
   have:=Int.mul_le_mul_of_nonneg_left (show(2:Int)<=p from cZ.1) (show 0<=ipow p n' by have:=h1 n';omega)
   have:=h1 n'
   rw[ipow];omega
  simp only[Z3,seval,-ae,hz,decide_false,iq,aV];refine zBx cZ aX ?_;simp only[Z3,seval,-ae];refine zCb (by omega) (by omega) ?_;simp only[Z3,seval,-ae];refine zJk (Int.emod_nonneg _ (by omega)) (Int.emod_lt_of_pos _ (by omega)) (by omega) λy yb h1 h2 h3=>?_;simp only[Z3,seval,-ae];have hd:DivL p n W k x (lmul p W y x):=DivL.mk' o hx hz (m:=ipow p n) (by
   rw[zCK];exact zAd o λj hj=>hx.beyond hj) λhc=>by
    obtain⟨z,w',tf⟩:=zBM hc hn;rw[<-zCK]at tf;have em:=Int.mul_ediv_add_emod k (ipow p n);obtain⟨t,ht⟩:=h3 ⟨z,w'-k / ipow p n*z,by grind⟩;exact⟨t+k / ipow p n*y,by grind⟩
  refine zB2 hs hP o hx aV.symm (by omega) ⟨λh0=>?_,λcap hc=>?_⟩
  .simp only[Z3,seval,-ae];exact(hk _ hd).1 h0
  .simp only[Z3,seval,-ae];exact(hk _ hd).2 cap hc
end Go.Proofs
namespace Go.Ab
theorem zJ6{Z:Nat->Prop}{h:AHeap}{n:Nat}:∀xs:L3,VOKs Z h n (pis xs)
 |[]=>trivial
 |x::xs=>⟨trivial,zJ6 xs⟩
theorem zA.lendT{P:Program}{f:FuncId}{args:List PV}{U:PHeap}{K:PV->PHeap->Prop}{s:Nat}{cs:List PV}(hs:U.obj s=some cs)(hb:Bels 0 cs)
  (c:∀o t,U.top<=t->zA P f (sbs s o cs args) ((U.kill s).up t) λv σ'=>∃t' w a l xs,σ'=(U.kill s).up t'/\t<=t'/\v=.fz w a l (pis xs)/\xs≠[]/\(∀x∈ead v,t<=x)/\K v (U.up t')):zA P f args U K:=by
 intro ι Z h r va;obtain⟨r',fS,ho,hz⟩:=r.freeze hs hb;have r2:Rel ι (λo=>Z o\/o=ι s) ((U.kill s).up h.next) h:=⟨r'.hwf,r'.zlt,vH _,r'.wf,r'.obj,r'.inj⟩
 have eZ:∀o,Z o->(Z o\/o=ι s)/\h.obj o=h.obj o:=λo ho=>⟨.inl ho,rfl⟩
 have:=c (ι s) h.next r.top ι _ h r2 (VOKs.sbs (.inr rfl) ho (fS.mono eZ (vH _)) (va.mono eZ (vH _)))
 rw[Qi rfl]at this;refine this.mono ?_
 rintro v h' ⟨pv,σ',ι',Z',q1,q2,q3,q4,t',w,a,l,xs,rfl,ht,rfl,ai,hx,hk⟩
 have fg:∀o,Z o->(Z o\/Z' o/\h.next<=o)/\h'.obj o=h.obj o:=λo ho=>⟨.inl ho,(q2.z o (.inl ho)).2⟩
 have ag:∀t ds,U.obj t=some ds->ι t<h.next:=λt ds ht=>r.hwf.lt (r.obj _ _ ht).1;have ob:∀t ds,U.obj t=some ds->h'.obj (ι t)=h.obj (ι t):=by
  intro t ds ht;by_cases e:t=s
  .subst e;exact(q2.z _ (.inr rfl)).2
  .have fY:=r.none_lt ht;have cH:(U.kill s).obj t=some ds:=by simp only[PHeap.kill];rw[if_neg e];exact ht
   obtain⟨p1,_,_⟩:=q1.obj t ds cH;obtain⟨g1,g2,_⟩:=r2.obj t ds cH;rw[q2.inj t fY,q2.ers g2]at p1;rw[p1,g1]
 refine⟨.fz w a l (pis xs),U.up t',ι,λo=>Z o\/Z' o/\h.next<=o,⟨q1.hwf,?_,q1.top,r.wf,λt ds ht=>⟨by rw[ob t ds ht];exact(r.obj t ds ht).1,(r.obj t ds ht).2.1.mono fg (vH _),?_⟩,r.inj⟩,⟨vH _,q2.hnext,λ_ _=>rfl,fg,λ_ _ h=>h,λt ds ht hd=>absurd (r.none_lt hd) (by omega)⟩,⟨?_,zJ6 xs⟩,q4,hk⟩
 .rintro o (ho|⟨ho,_⟩)
  .exact Nat.lt_of_lt_of_le (r.zlt o ho) q2.hnext
  .exact q1.zlt o ho
 .rintro(hz|⟨_,hz⟩)
  .exact(r.obj t ds ht).2.2 hz
  .have:=ag t ds ht;omega
 .rcases q3.1 with e|⟨o,off,cap,rfl,g1,g2,g3,g4⟩
  .exact .inl e
  .refine .inr ⟨o,off,cap,rfl,.inr ⟨g1,hx o ?_⟩,g2,g3,g4⟩;rw[zBh (zAn ai)];exact List.mem_cons_self ..
theorem PAcc.first{b e n:Nat}{h:PHeap}{v:PV}{cs:List PV}(a:PAcc b e h v n cs)(h0:n≠0):QA e h v n=some cs:=by
 rcases a with ⟨rfl,rfl,rfl⟩|⟨s,cap,rfl,h1,h2,h3,h4,h5⟩
 .exact absurd rfl h0
 .rw[Qq,if_neg h0,if_pos (vH _),ZT h2,if_pos (by omega),List.drop_zero,List.take_of_length_le (by omega)]
theorem PAcc.lenc{b e n:Nat}{h:PHeap}{v:PV}{cs:List PV}(a:PAcc b e h v n cs):cs.length=n*e:=by
 rcases a with ⟨rfl,rfl,rfl⟩|⟨s,cap,rfl,h1,h2,h3,h4,h5⟩
 .simp
 .exact h3
theorem Own.ge{lo hi:Nat}{v:PV}(h:Own lo hi v):∀x∈ead v,lo<=x:=λx hx=>(h.lt x hx).1
theorem Owns.cons{lo t hi:Nat}{cs:List PV}{c:PV}(h:Owns lo t cs)(g:Own t hi c)(hl:lo<=t)(ht:t<=hi):Owns lo hi (c::cs):=by
 refine⟨⟨g.wh,h.wh⟩,?_,λo ho=>?_⟩
 .show(ead c++eads cs).Nodup
  rw[List.nodup_append];refine⟨g.nd,h.nd,λa ha b hb e=>?_⟩
  have:=g.lt a ha
  have:=h.lt b hb
  omega
 .rcases List.mem_append.1 (show o∈ead c++eads cs from ho)with ho|ho
  .have:=g.lt o ho;omega
  .have:=h.lt o ho;omega
end Go.Ab
namespace Go.Proofs
open Go.Ab Go.Lie
variable{p:Int}{n:Nat}{W:L4}{B:L5}{c k:Nat}{f g:Vec}
def Lw(p:Int)(n:Nat)(W:L4)(B:L5)(k:Nat)(f:Vec):Prop:=∃u,Low p n W B k u/\Gen p n W u f
structure Rg(p:Int)(n:Nat)(W:L4)(B:L5)(c:Nat):Prop where
 o:OkW p n W
 q:OkB p n B
 nf:Zl p W B n
 cls:Cls p n W B c
theorem zHq:∀{m:Nat} {u:L4},Low p n W B m u->∀k,k<=m->∃v,Low p n W B k v
 |0,u,h,k,hk=>by
  have:k=0:=by omega
  subst this;exact⟨u,h⟩
 |m+1,u,h,k,hk=>by
  by_cases e:k=m+1
  .subst e;exact⟨u,h⟩
  .cases h with
   |succ h hc=>exact zHq h k (by omega)
theorem Rg.low(r:Rg p n W B c)(k:Nat):∃u,Low p n W B k u:=by
 rcases Nat.le_total k c with x|x
 .exact zHq r.cls.1 k x
 .obtain⟨u,⟨h,_⟩|h⟩:=zKV r.o r.q r.cls k
  .exact⟨u,h⟩
  .exact⟨[],by omega⟩
theorem Rg.sub(r:Rg p n W B c)(k:Nat):IsSub p n W (Lw p n W B k):=by
 obtain⟨u,hu⟩:=r.low k;have hs:=zO (p:=p) (n:=n) (W:=W) u;have e:∀{f:Vec},Lw p n W B k f->Gen p n W u f:=λ{f} ⟨v,hv,hg⟩=>by rw[hu.unique r.o hv];exact hg
 exact⟨⟨u,hu,hs.zero⟩,λf g a b=>⟨u,hu,hs.add _ _ (e a) (e b)⟩,λk f a=>⟨u,hu,hs.mul _ _ (e a)⟩,λf g a b=>⟨u,hu,hs.eqv _ _ a (e b)⟩⟩
theorem Rg.all(r:Rg p n W B c){x:L3}(hx:El p n x):Lw p n W B 0 (at_ x):=⟨_,.zero,zGa r.o hx⟩
theorem Rg.brk(r:Rg p n W B c)(hf:Lw p n W B k f)(g:Vec):Lw p n W B (k+1) (brv B n f g):=by
 obtain⟨u,hu,hg⟩:=hf;obtain⟨v,hv⟩:=r.low (k+1);cases hv with
 |succ h hc=>
  rw[h.unique r.o hu]at hc;exact⟨v,.succ hu hc,zQg r.o r.q r.nf hc hg g⟩
theorem Rg.brk2(r:Rg p n W B c)(hg:Lw p n W B k g)(f:Vec):Lw p n W B (k+1) (brv B n f g):=
 (r.sub _).eqv _ _ (Eqv.of_eq λt=>zl f g t) ((r.sub _).mul (-1) _ (r.brk hg f))
theorem Rg.top(r:Rg p n W B c)(hk:c<=k)(hf:Lw p n W B k f):Eqv p n W f λ_=>0:=by
 obtain⟨u,hu,hg⟩:=hf;obtain⟨v,⟨hv,h0⟩|h⟩:=zKV r.o r.q r.cls k
 .rw[hu.unique r.o hv,h0 hk]at hg;exact zQr hg
 .omega
theorem Rg.down(r:Rg p n W B c):∀{k:Nat} {f:Vec},Lw p n W B (k+1) f->Lw p n W B k f
 |0,f,⟨u,hu,hg⟩=>⟨_,.zero,Z8 (λv hv=>zGa r.o ((hu.els r.o).1 v hv)) hg⟩
 |k+1,f,⟨u,hu,hg⟩=>by
  cases hu with
  |succ h hc=>
   rename_i w;refine zH7 (r.sub (k+1)) (λv hv=>?_) ((hc.gen f).2 hg);obtain⟨x,hx,hv⟩:=List.mem_flatMap.1 hv;obtain⟨e,he,rfl⟩:=List.mem_map.1 hv;exact(r.sub _).eqv _ _ (QO r.o r.q x e) (r.brk (r.down ⟨w,h,qF hx⟩) (at_ e))
theorem Rg.le(r:Rg p n W B c){j k:Nat}(h:j<=k){f:Vec}(hf:Lw p n W B k f):Lw p n W B j f:=by
 induction k with
 |zero=>
   have:j=0:=by omega
   subst this;exact hf
 |succ k ih=>
  by_cases e:j=k+1
  .subst e;exact hf
  .exact ih (by omega) (r.down hf)
theorem Rg.zero(r:Rg p n W B c)(hk:c<=k){z:L3}(hz:El p n z)(hf:Lw p n W B k (at_ z)):isZ z:=QF r.o hz (r.top hk hf)
theorem Rg.bL(r:Rg p n W B c){x y:L3}(hf:Lw p n W B k (at_ x)):Lw p n W B (k+1) (at_ (br p W B n x y)):=(r.sub _).eqv _ _ (QO r.o r.q x y) (r.brk hf _)
theorem Rg.bR(r:Rg p n W B c){x y:L3}(hf:Lw p n W B k (at_ y)):Lw p n W B (k+1) (at_ (br p W B n x y)):=(r.sub _).eqv _ _ (QO r.o r.q x y) (r.brk2 hf _)
theorem Rg.addL(r:Rg p n W B c){x y:L3}(hx:El p n x)(hy:El p n y)(h1:Lw p n W B k (at_ x))(h2:Lw p n W B k (at_ y)):Lw p n W B k (at_ (ladd p W x y)):=(r.sub _).eqv _ _ (Zd r.o hx hy) ((r.sub _).add _ _ h1 h2)
theorem Rg.mulL(r:Rg p n W B c){x:L3}(hx:El p n x)(m:Int)(h1:Lw p n W B k (at_ x)):Lw p n W B k (at_ (lmul p W m x)):=(r.sub _).eqv _ _ (Zj r.o hx m) ((r.sub _).mul m _ h1)
def Zo(p:Int)(W:L4)(B:L5)(n:Nat)(x y:L3):L3:=ladd p W (br p W B n x (br p W B n x y)) (br p W B n y (lmul p W (-1) (br p W B n x y)))
theorem QG(o:OkW p n W)(q:OkB p n B){x y:L3}:El p n (Zo p W B n x y):=zH o (br_el o q) (br_el o q)
theorem Rg.thd(r:Rg p n W B c){x y:L3}(hf:Lw p n W B k (at_ (br p W B n x y))):Lw p n W B (k+1) (at_ (Zo p W B n x y)):=
 r.addL (br_el r.o r.q) (br_el r.o r.q) (r.bR hf) (r.bR (r.mulL (br_el r.o r.q) (-1) hf))
theorem zGG{p:Int}(hp:isP p)(h:p≠2):Cop p 2/\Cop p (-2):=by
 rcases hp with rfl|rfl|rfl|rfl
 .exact absurd rfl h
 .exact⟨⟨2,1,by decide⟩,⟨1,-1,by decide⟩⟩
 .exact⟨⟨3,1,by decide⟩,⟨2,-1,by decide⟩⟩
 .exact⟨⟨4,1,by decide⟩,⟨3,-1,by decide⟩⟩
theorem zFd{p:Int}(hp:isP p)(h:p≠2)(h3:p≠3):Cop p 12/\Cop p (-12):=by
 rcases hp with rfl|rfl|rfl|rfl
 .exact absurd rfl h
 .exact absurd rfl h3
 .exact⟨⟨3,7,by decide⟩,⟨2,-5,by decide⟩⟩
 .exact⟨⟨3,5,by decide⟩,⟨4,-7,by decide⟩⟩
theorem Rg.two(r:Rg p n W B c)(hp:isP p)(hc:(c:Int)<p){z:L3}(hz:El p n z)(h:Lw p n W B 1 (at_ z)):isZ z\/(Cop p 2/\Cop p (-2)):=by
 by_cases h2:p=2
 .exact .inl (r.zero (by omega) hz h)
 .exact .inr (zGG hp h2)
theorem Rg.twelve(r:Rg p n W B c)(hp:isP p)(hc:(c:Int)<p){z:L3}(hz:El p n z)(h:Lw p n W B 2 (at_ z)):isZ z\/(Cop p 12/\Cop p (-12)):=by
 by_cases h2:p=2
 .exact .inl (r.zero (by omega) hz h)
 .by_cases h3:p=3
  .exact .inl (r.zero (by omega) hz h)
  .exact .inr (zFd hp h2 h3)
noncomputable def dv(p:Int)(n:Nat)(W:L4)(k:Int)(x:L3):L3:=Classical.epsilon (DivL p n W k x)
theorem dv_eq(o:OkW p n W){k:Int}{x z:L3}(hx:El p n x)(h:DivL p n W k x z)(hk:isZ x\/Cop p k):z=dv p n W k x:=
 h.unique o hx (Classical.epsilon_spec ⟨z,h⟩) hk
theorem zR1(o:OkW p n W){k:Int}{x:L3}(hx:El p n x):∃z,DivL p n W k x z:=by
 by_cases hz:isZ x
 .exact⟨x,hx,λ_=>rfl,λ_=>Eqv.of_eq λj=>by rw[Zu hz,Int.mul_zero]⟩
 .by_cases hc:Cop p k
  .have hn:0<n:=by
    rcases Nat.eq_zero_or_pos n with h|h
    .exact absurd (by rw[List.eq_nil_of_length_eq_zero (hx.1.trans h)];intro y hy;cases hy) hz
    .exact h
   obtain⟨y,w,hy⟩:=zBM hc hn;exact⟨_,DivL.mk' o hx hz (y:=y) (zAd o λj hj=>hx.beyond hj) λ_=>⟨w,hy⟩⟩
  .exact⟨x,hx,λh=>absurd h hz,λh=>absurd h hc⟩
theorem Qk(o:OkW p n W){k:Int}{x:L3}(hx:El p n x):DivL p n W k x (dv p n W k x):=Classical.epsilon_spec (zR1 o hx)
theorem dv_el(o:OkW p n W){k:Int}{x:L3}(hx:El p n x):El p n (dv p n W k x):=(Qk o hx).el
theorem zFc(o:OkW p n W){S:Vec->Prop}(hs:IsSub p n W S){k:Int}{x z:L3}(h:DivL p n W k x z)(hk:isZ x\/Cop p k)(hx:S (at_ x)):S (at_ z):=by
 rcases hk with hz|hc
 .rw[h.nil hz];exact hx
 .rcases Nat.eq_zero_or_pos n with hn|hn
  .refine hs.eqv _ _ (Eqv.of_eq λj=>?_) hs.zero;exact h.el.beyond (by omega)
  .obtain⟨a,w,ha⟩:=zBM (p:=p) hc hn;have k1:=(zAd o (f:=at_ z) (λj hj=>h.el.beyond hj)).mul w;have k2:=(Eqv.refl (p:=p) (n:=n) (W:=W) (at_ z)).add k1;refine hs.eqv _ _ ?_ (hs.mul a _ hx);refine(((Eqv.of_eq λj=>?_).trans k2.symm).trans (Eqv.of_eq λj=>?_)).trans ((h.eqv hc).mul a)
   .omega
   .grind
noncomputable def bch(p:Int)(n:Nat)(W:L4)(B:L5)(x y:L3):L3:=
 ladd p W (ladd p W (ladd p W x y) (dv p n W 2 (br p W B n x y))) (dv p n W 12 (Zo p W B n x y))
theorem zAS(o:OkW p n W)(q:OkB p n B){x y:L3}(hx:El p n x)(hy:El p n y):El p n (bch p n W B x y):=
 zH o (zH o (zH o hx hy) (dv_el o (br_el o q))) (dv_el o (QG o q))
noncomputable def fold(p:Int)(n:Nat)(W:L4)(B:L5)(xs:L4):L3:=xs.foldl (bch p n W B) (List.replicate n 0)
theorem zGc(xs:L4){i:Nat}(hi:i<xs.length):fold p n W B (xs.take (i+1))=bch p n W B (fold p n W B (xs.take i)) xs[i]:=by
 unfold fold;rw[List.take_succ_eq_append_getElem hi,List.foldl_append];rfl
theorem zBK(o:OkW p n W)(q:OkB p n B):∀{xs:L4},Els p n xs->El p n (fold p n W B xs):=by
 have:∀(xs:L4) (a:L3),Els p n xs->El p n a->El p n (xs.foldl (bch p n W B) a):=by
  intro xs
  induction xs with
  |nil=>exactλa _ ha=>ha
  |cons x xs ih=>exactλa hx ha=>ih _ (λy hy=>hx y (by simp[hy])) (zAS o q ha (hx x (by simp)))
 exactλ{xs} h=>this xs _ h (zAE o.pr)
theorem Rg.brD(r:Rg p n W B c){x y:L3}(hx:El p n x):Lw p n W B 1 (at_ (br p W B n x y)):=r.bL (r.all hx)
theorem Rg.of_lie(hl:isLie p W B)(hz:isLz p W.length W B):∃c,Rg p W.length W B c/\(c:Int)<p:=by
 obtain⟨c,hc,hp⟩:=hz;exact⟨c,⟨hl.1.w,hl.1.b,hl.2,hc⟩,hp⟩
variable{U:PHeap}{K:PV->PHeap->Prop}{vP vB vx vy:PV}{s:Nat}{x y:L3}
structure Lz(p:Int)(n:Nat)(W:L4)(B:L5)(c:Nat):Prop where
 r:Rg p n W B c
 hp:isP p
 hc:(c:Int)<p
 pow:ipow p n<=729
theorem Lz.of(hl:isLie p W B)(hz:isLz p W.length W B):∃c,Lz p W.length W B c:=by
 obtain⟨c,r,hc⟩:=Rg.of_lie hl hz;exact⟨c,r,hl.1.1,hc,hl.1.2.2.2.1⟩
theorem Lz.d2(z:Lz p n W B c)(hx:El p n x):isZ (br p W B n x y)\/Cop p 2:=(z.r.two z.hp z.hc (br_el z.r.o z.r.q) (z.r.brD hx)).imp id (·.1)
theorem Lz.d12(z:Lz p n W B c)(hx:El p n x):isZ (Zo p W B n x y)\/Cop p 12:=(z.r.twelve z.hp z.hc (QG z.r.o z.r.q) (z.r.thd (z.r.brD hx))).imp id (·.1)
theorem zLg(z:Lz p n W B c)(hs:PtrR U s p vP vB)(hR:IsR vP vB W B)(hx:El p n x)(hy:El p n y)(aW:FI vx x)(fA:FI vy y)
  (hk:∀a v1 v2 v3 t,FI v1 (ladd p W x y)->FI v2 (dv p n W 2 (br p W B n x y))->FI v3 (dv p n W 12 (Zo p W B n x y))->Own U.top t (.fz true a 3 [v1,v2,v3])->U.top<=t->K (.fz true a 3 [v1,v2,v3]) (U.up t)):
  zA Tryz.prog 220 [.ptr s 0,vx,vy] U K:=by
 have o:=z.r.o;have q:=z.r.q;have aV:=hx.1;have e6:=hy.1;obtain⟨wx,ax,rfl⟩:=aW;obtain⟨wy,ay,rfl⟩:=fA;refine zA.gh ?_;have bel:=br_el o q (a:=x) (b:=y);refine zB mix Tryz.func220 ?_
 conv=>arg 2;cbv
 refine zC rfl ?_;simp only[Z3,seval,-ae];refine ZY hs hR o q hx hy rfl rfl λv1=>?_;simp only[Z3,seval,-ae];refine ZY hs hR o q hx bel rfl bel.1.symm λv2=>?_;simp only[Z3,seval,-ae];refine Qf hs hR.P o bel bel.1.symm (by decide) λv3=>?_;have m1:El p n (lmul p W (-1) (br p W B n x y)):=zH o bel bel;simp only[Z3,seval,-ae];refine ZY hs hR o q hy m1 rfl m1.1.symm λv4=>?_;simp only[Z3,seval,-ae];have e2:El p n (br p W B n x (br p W B n x y)):=br_el o q;have e4:El p n (br p W B n y (lmul p W (-1) (br p W B n x y))):=br_el o q;refine zAA hs hR.P o e2 e4 e2.1.symm e4.1.symm λv5=>?_;simp only[Z3,seval,-ae];refine zA.fzIT (λK'=>zDb hs hR.P o hx hy rfl rfl) λw1 t1 f1 o1 gX=>?_;have gZ:PtrR (U.up t1) s p vP vB:=⟨hs.obj,hs.lt⟩;simp only[Z3,seval,-ae];refine zA.fzITx (λK'=>zCy gZ hR.P o z.pow bel bel.1.symm) λz2 w2 t2 d2 f2 o2 jX=>?_;have gY:PtrR (U.up t2) s p vP vB:=⟨hs.obj,hs.lt⟩;simp only[Z3,seval,-ae];have te:=QG o q (x:=x) (y:=y);refine zA.fzITx (λK'=>zCy gY hR.P o z.pow (x:=Zo p W B n x y) te te.1.symm) λz3 w3 t3 d3 f3 o3 rH=>?_;rw[dv_eq o bel d2 (z.d2 hx)]at f2;rw[dv_eq o te d3 (z.d12 hx)]at f3;simp only[zCF]at o2 jX o3 rH;simp only[Z3,seval,-ae,f1.cells,f1.one,f2.cells,f2.one,f3.cells,f3.one];have tV:=(((Owns.nil U.top U.top).snoc o1 (vH _) gX).snoc o2 gX jX).snoc o3 (Nat.le_trans gX jX) rH;exact Gh.own (cs:=[w1,w2,w3]) ((Keep.refl U).new _ |>.up (by simp only[zEV];omega)) (by simp only[Z3,seval,-ae]) (vH _) ⟨f1.bel 0,f2.bel 0,f3.bel 0,trivial⟩ (by simp[capOK]) (tV.mono (vH _) (vH _)) λo4 t4 h1 h2=>hk _ w1 w2 w3 t4 f1 f2 f3 h1 h2
theorem zJz(z:Lz p n W B c)(hs:PtrR U s p vP vB)(hR:IsR vP vB W B)(hx:El p n x)(hy:El p n y)(aW:FI vx x)(fA:FI vy y)
  (hk:∀a v1 v2 v3,FI v1 (ladd p W x y)->FI v2 (dv p n W 2 (br p W B n x y))->FI v3 (dv p n W 12 (Zo p W B n x y))->K (.fz true a 3 [v1,v2,v3]) U):
  zA Tryz.prog 220 [.ptr s 0,vx,vy] U K:=
 zA.gh (zLg z hs hR hx hy aW fA λa v1 v2 v3 t f1 f2 f3 _ ht=>Gh.fin0 ((Keep.refl U).up ht) trivial (hk a v1 v2 v3 f1 f2 f3))
theorem zIW(z:Lz p n W B c)(hs:PtrR U s p vP vB)(hR:IsR vP vB W B)(hx:El p n x)(hy:El p n y)(aW:FI vx x)(fA:FI vy y)(hk:ResI U K (bch p n W B x y)):
  zA Tryz.prog 131 [.ptr s 0,vx,vy] U K:=by
 have o:=z.r.o;have q:=z.r.q;refine zB mix Tryz.func131 ?_
 conv=>arg 2;cbv
 refine zC rfl ?_;simp only[Z3,seval,-ae];refine zJz z hs hR hx hy aW fA λa v1 v2 v3 f1 f2 f3=>?_;obtain⟨w1,a1,rfl⟩:=f1;obtain⟨w2,a2,rfl⟩:=f2;obtain⟨w3,a3,rfl⟩:=f3;have e1:El p n (ladd p W x y):=zH o hx hy;have e2:=dv_el o (k:=2) (br_el o q (a:=x) (b:=y));have e3:=dv_el o (k:=12) (QG o q (x:=x) (y:=y));have e4:El p n (ladd p W (ladd p W x y) (dv p n W 2 (br p W B n x y))):=zH o e1 e2;have c0:(0:Int)<((3:Nat):Int):=by decide
 have c1:(1:Int)<((3:Nat):Int):=by decide
 have c2:(2:Int)<((3:Nat):Int):=by decide
 simp only[Z3,seval,-ae,c0,c1,c2];refine zAA hs hR.P o e1 e2 rfl rfl λv4=>?_;simp only[Z3,seval,-ae];refine zDb hs hR.P o e4 e3 e4.1.symm rfl ⟨λh0=>?_,λcap hc=>?_⟩
 .simp only[Z3,seval,-ae];exact hk.1 h0
 .simp only[Z3,seval,-ae];exact hk.2 cap hc
theorem zJU(z:Lz p n W B c)(hR:IsR vP vB W B)(hx:El p n x)(hy:El p n y)(aW:FI vx x)(fA:FI vy y)
  (hk:∀a v1 v2 v3,FI v1 (ladd p W x y)->FI v2 (dv p n W 2 (br p W B n x y))->FI v3 (dv p n W 12 (Zo p W B n x y))->K (.fz true a 3 [v1,v2,v3]) U):
  zA Tryz.prog 221 [.agg [.int .i64 p,vP,vB],vx,vy] U K:=by
 have o:=z.r.o;have q:=z.r.q;have aV:=hx.1;have e6:=hy.1;have h1:=hR.P.one;have h2:=hR.B.one;obtain⟨wx,ax,rfl⟩:=aW;obtain⟨wy,ay,rfl⟩:=fA;refine zA.gh ?_;have bel:=br_el o q (a:=x) (b:=y);refine zB mix Tryz.func221 ?_
 conv=>arg 2;cbv
 refine zC rfl ?_;simp only[Z3,seval,-ae,h1,h2];refine qw hR o q hx hy rfl rfl λv1=>?_;simp only[Z3,seval,-ae];refine qw hR o q hx bel rfl bel.1.symm λv2=>?_;simp only[Z3,seval,-ae];refine qw hR o q hy bel rfl bel.1.symm λv3=>?_;simp only[Z3,seval,-ae];have e2:El p n (br p W B n x (br p W B n x y)):=br_el o q;have e3:El p n (br p W B n y (br p W B n x y)):=br_el o q;refine ZG hR o e2 e3 e2.1.symm e3.1.symm (by decide) (by decide) λv4=>?_;have te:=QG o q (x:=x) (y:=y);have yG:=third o q z.r.nf (x:=x) (y:=y) bel;rw[<-yG];simp only[Z3,seval,-ae];refine ZG hR o hx hy rfl rfl (by decide) (by decide) λv5=>?_;simp only[Z3,seval,-ae];refine zFN hR o z.pow bel bel.1.symm λw6 v6 z2 d2=>?_;simp only[Z3,seval,-ae];refine zFN hR o z.pow (x:=Zo p W B n x y) te te.1.symm λw7 v7 z3 d3=>?_;have cM:=dv_eq o bel d2 (z.d2 hx);have yx:=dv_eq o te d3 (z.d12 hx);subst cM;subst yx;simp only[Z3,seval,-ae];exact Gh.finF (s:=U.next+1) (cs:=[.fz true v5 n (pis (ladd p W x y)),.fz w6 v6 n (pis (dv p n W 2 (br p W B n x y))),.fz w7 v7 n (pis (dv p n W 12 (Zo p W B n x y)))]) (((zD U _).new _)) (by simp only[Z3,seval,-ae]) (by omega) ⟨trivial,trivial,trivial,trivial⟩ (by simp[capOK]) λo4=>hk _ _ _ _ ⟨true,v5,by rw[show(ladd p W x y).length=n from(zH o hx hy).1]⟩ ⟨w6,v6,by rw[d2.el.1]⟩ ⟨w7,v7,by rw[d3.el.1]⟩
theorem zGR(z:Lz p n W B c)(hR:IsR vP vB W B)(hx:El p n x)(hy:El p n y)(aW:FI vx x)(fA:FI vy y)(hk:∀v,FI v (bch p n W B x y)->K v U):
  zA Tryz.prog 132 [.agg [.int .i64 p,vP,vB],vx,vy] U K:=by
 have o:=z.r.o;have q:=z.r.q;have h1:=hR.P.one;have h2:=hR.B.one;refine zA.gh ?_;refine zB mix Tryz.func132 ?_
 conv=>arg 2;cbv
 refine zC rfl ?_;simp only[Z3,seval,-ae,h1,h2];refine zJU z hR hx hy aW fA λa v1 v2 v3 f1 f2 f3=>?_;obtain⟨w1,a1,rfl⟩:=f1;obtain⟨w2,a2,rfl⟩:=f2;obtain⟨w3,a3,rfl⟩:=f3;have e1:El p n (ladd p W x y):=zH o hx hy;have e2:=dv_el o (k:=2) (br_el o q (a:=x) (b:=y));have e3:=dv_el o (k:=12) (QG o q (x:=x) (y:=y));have e4:El p n (ladd p W (ladd p W x y) (dv p n W 2 (br p W B n x y))):=zH o e1 e2;have c0:(0:Int)<((3:Nat):Int):=by decide
 have c1:(1:Int)<((3:Nat):Int):=by decide
 have c2:(2:Int)<((3:Nat):Int):=by decide
 simp only[Z3,seval,-ae,c0,c1,c2];refine ZG hR o e1 e2 rfl rfl (by decide) (by decide) λv4=>?_;simp only[Z3,seval,-ae];refine ZG hR o (a:=ladd p W (ladd p W x y) (dv p n W 2 (br p W B n x y))) e4 e3 e4.1.symm rfl (by decide) (by decide) λv5=>?_;simp only[Z3,seval,-ae];exact Gh.fin0 (zD U _) trivial (hk _ ⟨true,v5,by rw[(zAS o q hx hy).1];rfl⟩)
theorem zNB(o:OkW p n W)(hR:IsR vP vB W B)(hx:El p n x)(aW:FI vx x)(hk:∀v,FI v (lmul p W (-1) x)->K v U):
  zA Tryz.prog 275 [.agg [.int .i64 p,vP,vB],vx] U K:=by
 have h1:=hR.P.one;have h2:=hR.B.one;have aV:=hx.1;obtain⟨wx,ax,rfl⟩:=aW;refine zA.gh ?_;refine zB mix Tryz.func275 ?_
 conv=>arg 2;cbv
 refine zC rfl ?_;simp only[Z3,seval,-ae,h1,h2];refine ZG hR o hx hx rfl rfl (by decide) (by decide) λv5=>?_;simp only[Z3,seval,-ae];exact Gh.fin0 (zD U _) trivial (hk _ ⟨true,v5,by rw[show(lmul p W (-1) x).length=n from(zH o hx hx).1]⟩)
variable{vL:PV}{xs:L4}
theorem zLh(z:Lz p n W B c)(hs:PtrR U s p vP vB)(hR:IsR vP vB W B)(hL:FII vL xs)(hx:Els p n xs)(hb:xs.length<=1048576)(hk:ResI U K (fold p n W B xs)):zA Tryz.prog 192 [.ptr s 0,vL] U K:=by
 have o:=z.r.o;have q:=z.r.q;have aX:=o.le;have fa:=o.len;have aM:=hR;obtain⟨wl,al,rl,rfl,aT⟩:=hL;obtain⟨⟨w1,a1,rP,rfl,hP⟩,hB⟩:=hR;refine zA.gh ?_;have ai:¬s=U.next:=Nat.ne_of_lt hs.lt;refine zB mix Tryz.func192 ?_
 conv=>arg 2;cbv
 refine zC rfl ?_;simp only[Z3,seval,-ae,zG hs.obj,ai,List.length_replicate,Zg,mk8 (n:=W.length) (by omega),mkL (n:=W.length) (by omega)];refine zF (λm vs h'=>∃i v,i<=xs.length/\m=xs.length-i/\vs=[.ptr s 0,v,.fz wl al xs.length rl,.int .i64 xs.length,.int .i64 (i:Nat)]/\Keep U h'/\PAcc U.next 1 h' v n (pis (fold p n W B (xs.take i)))) xs.length ?_ ?_
 .refine⟨0,_,by omega,by omega,rfl,zD U _,.inr ?_⟩;rw[fa];exact PSl.new U.next 1 (h:=U) (n:=n) (cs:=pis (List.replicate n 0)) (by rw[zK];simp) (vH _)
 .rintro m vs h' ⟨i,v,hi,rfl,rfl,ar,ha⟩
  simp only[Z3,seval,-ae];refine iteI (λag=>?_) λaG=>?_
  .obtain⟨w4,a4,cE⟩:=aT.rowI ag;have bD:=zBK o q (xs:=xs.take i) λy hy=>hx y (List.mem_of_mem_take hy);have nT:=hx _ (List.getElem_mem ag);have e:∀{v':PV} {H:PHeap},Keep U H->PAcc U.next 1 H v' n (pis (bch p n W B (fold p n W B (xs.take i)) xs[i]))->∃n',n'<xs.length-i/\∃i' v,i'<=xs.length/\n'=xs.length-i'/\[PV.ptr s 0,v',.fz wl al xs.length rl,.int .i64 xs.length,.int .i64 ((i+1:Nat):Int)]=[.ptr s 0,v,.fz wl al xs.length rl,.int .i64 xs.length,.int .i64 (i':Nat)]/\Keep U H/\PAcc U.next 1 H v n (pis (fold p n W B (xs.take i'))):=λ{v' H} k1 k2=>by
    refine⟨_,by omega,i+1,v',by omega,rfl,rfl,k1,?_⟩;rw[zGc xs ag];exact k2
   have bl:=(zAS o q bD nT).1;simp only[Z3,seval,-ae,ag,cE];rcases ha with ⟨rfl,h0,h1⟩|⟨s',cap,rfl,hc,q2,q3,q4,q5⟩
   .refine zIW z (hs.keep ar) aM bD nT ⟨true,.nils,by rw[h1,show(fold p n W B (xs.take i)).length=0 by rw[bD.1];exact h0]⟩ ⟨_,_,rfl⟩ ⟨λh2=>?_,λcap hc=>?_⟩
    .simp only[Z3,seval,-ae,wrapS ag (by omega:xs.length<=4611686018427387904)];exact e ar (.inl ⟨rfl,h0,by rw[h2];rfl⟩)
    .simp only[Z3,seval,-ae,wrapS ag (by omega:xs.length<=4611686018427387904)];refine e (ar.new _) (.inr ⟨_,cap,by rw[bl],by rw[<-bl];exact hc,by simp only[Z3,seval,-ae],by rw[zK,bl,Nat.mul_one],ar.next,by simp[PHeap.new]⟩)
   .refine zA.frz (s:=s') (cs:=pis (fold p n W B (xs.take i))) q2 (zN _ _) λo1=>?_;have mI:=hc.ok;simp only[sbs,sb,mI,and_self,if_true];have cI:Keep U (h'.kill s'):=ar.kill q4;refine zIW z (hs.keep cI) aM bD nT ⟨true,_,by rw[bD.1]⟩ ⟨_,_,rfl⟩ ⟨λh2=>?_,λcap hc=>?_⟩
    .simp only[Z3,seval,-ae,wrapS ag (by omega:xs.length<=4611686018427387904)];exact e cI (.inl ⟨rfl,by rw[<-bl,h2];rfl,by rw[h2];rfl⟩)
    .simp only[Z3,seval,-ae,wrapS ag (by omega:xs.length<=4611686018427387904)];refine e (cI.new _) (.inr ⟨_,cap,by rw[bl];rfl,by rw[<-bl];exact hc,by simp only[Z3,seval,-ae],by rw[zK,bl,Nat.mul_one],cI.next,by simp[PHeap.new]⟩)
  .have aI:i=xs.length:=by omega
   subst aI;rw[List.take_length]at ha;exact ha.res ar (zBK o q hx).1.symm hk
theorem zLH(z:Lz p n W B c)(hR:IsR vP vB W B)(hL:FII vL xs)(hx:Els p n xs)(hb:xs.length<=1048576)(hk:∀v,FI v (fold p n W B xs)->K v U):zA Tryz.prog 274 [.agg [.int .i64 p,vP,vB],vL] U K:=by
 have o:=z.r.o;have q:=z.r.q;have aX:=o.le;have fa:=o.len;have h1:=hR.P.one;have h2:=hR.B.one;obtain⟨wl,al,rl,rfl,aT⟩:=hL;refine zA.gh ?_;refine zB mix Tryz.func274 ?_
 conv=>arg 2;cbv
 refine zC rfl ?_;simp only[Z3,seval,-ae,h1,h2];refine zCl hR fa (by omega) λv0=>?_;simp only[Z3,seval,-ae];refine zF (λm vs h'=>∃i v,i<=xs.length/\m=xs.length-i/\vs=[.fz wl al xs.length rl,.ptr U.next 0,v,.int .i64 (i:Nat)]/\h'=U.new [.int .i64 p,vP,vB]/\FI v (fold p n W B (xs.take i))) xs.length ?_ ?_
 .exact⟨0,_,by omega,by omega,rfl,rfl,⟨true,v0,by rw[List.take_zero,show fold p n W B []=List.replicate n 0 from rfl,List.length_replicate];rfl⟩⟩
 .rintro m vs h' ⟨i,v,hi,rfl,rfl,rfl,hv⟩
  simp only[Z3,seval,-ae];refine iteI (λag=>?_) λaG=>?_
  .obtain⟨w4,a4,cE⟩:=aT.rowI ag;have bD:=zBK o q (xs:=xs.take i) λy hy=>hx y (List.mem_of_mem_take hy);have nT:=hx _ (List.getElem_mem ag);simp only[Z3,seval,-ae,ag,cE];refine zGR z hR bD nT hv ⟨_,_,rfl⟩ λv' dj=>?_;simp only[Z3,seval,-ae,wrapS ag (by omega:xs.length<=4611686018427387904)];exact⟨_,by omega,i+1,v',by omega,rfl,rfl,by rw[zGc xs ag];exact dj⟩
  .have aI:i=xs.length:=by omega
   subst aI;rw[List.take_length]at hv;exact Gh.fin0 (zD U _) (hv.bel _) (hk v hv)
theorem rows3{v1 v2 v3:PV}{x1 x2 x3:L3}{w:Bool}{a:AV}(h1:FI v1 x1)(h2:FI v2 x2)(h3:FI v3 x3):FII (.fz w a 3 [v1,v2,v3]) [x1,x2,x3]:=⟨w,a,_,rfl,by simpa using (((All2.nil _).snoc h1).snoc h2).snoc h3⟩
theorem zFI(o:OkW p n W)(hx:El p n x):El p n (lmul p W (-1) x):=zH o hx hx
theorem els3{x1 x2 x3:L3}(h1:El p n x1)(h2:El p n x2)(h3:El p n x3):Els p n [x1,x2,x3]:=λy hy=>by simp at hy;rcases hy with rfl|rfl|rfl<;>assumption
theorem zB3(o:OkW p n W)(hs:PtrR U s p vP vB)(hP:FII vP W)(hx:El p n x)(aW:FI vx x){k:Int}(jz:-1000000000<=k/\k<=1000000000)(hk:∀v,FI v (lmul p W k x)->K v U):zA Tryz.prog 191 [.ptr s 0,.int .i64 k,vx] U K:=by
 obtain⟨wx,ax,rfl⟩:=aW;exact Qf hs hP o hx rfl jz λv=>hk _ ⟨_,_,by rw[show(lmul p W k x).length=n from(zH o hx hx).1]⟩
noncomputable def conj(p:Int)(n:Nat)(W:L4)(B:L5)(x y:L3):L3:=fold p n W B [lmul p W (-1) y,x,y]
theorem zLI(z:Lz p n W B c)(hR:IsR vP vB W B)(hx:El p n x)(hy:El p n y)(aW:FI vx x)(fA:FI vy y)(hk:∀v,FI v (conj p n W B x y)->K v U):
  zA Tryz.prog 186 [.agg [.int .i64 p,vP,vB],vx,vy] U K:=by
 have o:=z.r.o;have q:=z.r.q;have h1:=hR.P.one;have h2:=hR.B.one;refine zA.gh ?_;refine zB mix Tryz.func186 ?_
 conv=>arg 2;cbv
 refine zC rfl ?_;simp only[Z3,seval,-ae,h1,h2];refine zNB o hR hy fA λv1 f1=>?_;simp only[Z3,seval,-ae,f1.one,f1.cells,aW.one,aW.cells,fA.one,fA.cells];refine zA.frz (s:=U.next+1) (cs:=[v1,vx,vy]) (by simp only[Z3,seval,-ae]) ⟨f1.bel 0,aW.bel 0,fA.bel 0,trivial⟩ λo1=>?_;simp only[sbs,sb,capOK,and_self,if_true,decide_true,vH,hR.P.sb,hR.B.sb];refine zLH z hR (rows3 f1 aW fA) (els3 (zFI o hy) hx hy) (by simp) λv hv=>?_;simp only[Z3,seval,-ae];exact Gh.fin0 (((zD U _).new _).kill (by omega)) (hv.bel _) (hk v hv)
theorem zIS(f:Vec)(t:Nat):brv B n f f t=0:=by
 have:=zl (B:=B) (n:=n) f f t
 omega
variable{m:Nat}
theorem zPw(sz:SzR W B):totR W B<=1153000000000000000:=by
 have h1:=zCE (m:=1048576) (len:=List.length) sz.w;have h2:∀q∈B,totL List.length q<=1099511627776:=λq hq=>by
  have h3:=zCE (m:=1048576) (len:=List.length) (sz.c q hq);have h4:=sz.b q hq;omega
 have h3:=zCE (m:=1099511627776) (len:=totL List.length) h2;have h4:=sz.Wl;have h5:=sz.Bl;unfold totR;omega
theorem zG7(sz:SzL xs):totL List.length xs<=1099511627776:=by
 have h3:=zCE (m:=1048576) (len:=List.length) sz.r;have h4:=sz.l;omega
def adj(p:Int)(n:Nat)(W:L4)(B:L5)(y x:L3):Nat->L3
 |0=>x
 |j+1=>br p W B n (adj p n W B y x j) y
def fact:Nat->Int
 |0=>1
 |j+1=>fact j*(j+1:Nat)
noncomputable def cterm(p:Int)(n:Nat)(W:L4)(B:L5)(y x:L3)(j:Nat):L3:=dv p n W (fact j) (adj p n W B y x j)
theorem zSA(o:OkW p n W)(q:OkB p n B)(hx:El p n x):∀j,El p n (adj p n W B y x j)
 |0=>hx
 |j+1=>br_el o q
end Go.Proofs
namespace Go.Grp
end Go.Grp
namespace Go.Proofs
open Go.Ab Go.Lie Go.Grp
variable{U h h':PHeap}{K:PV->PHeap->Prop}{O:L3}{P:L4}{C:L5}{vO vP vC vx vL v c x:PV}{xs:L4}{b m t:Nat}{cs ds:List PV}
theorem _root_.Go.Ab.Keep.keepOf2{U T h:PHeap}{rr:List PV}(k:Keep (T.new rr) h)(kp:Keep U T):Keep U h:=(kp.new rr).trans k
def PT(b:Nat)(h:PHeap)(v:PV)(m:Nat)(cs:List PV):Prop:=
 (v=.fz true .nils 0 []/\m=0/\cs=[])\/∃s off cap row,v=.sl s off m cap/\(cap=.grown 1\/∃c,cap=.known c/\m<=c/\off+c<=row.length)/\h.obj s=some row/\(row.drop off).take m=cs/\off+m<=row.length/\b<=s/\s<h.next
theorem PT.len(a:PT b h v m cs):cs.length=m:=by
 rcases a with ⟨_,rfl,rfl⟩|⟨s,off,cap,row,rfl,h1,h2,h3,h4,h5,h6⟩
 .rfl
 .rw[<-h3,List.length_take,List.length_drop];omega
theorem PT.of(a:PSl b 1 h v m cs):PT b h v m cs:=by
 obtain⟨s,cap,rfl,h1,h2,h3,h4,h5⟩:=a;refine .inr ⟨s,0,cap,cs,rfl,?_,h2,by rw[List.drop_zero,List.take_of_length_le (by omega)],by omega,h4,h5⟩;rcases h1 with rfl|rfl
 .exact .inl rfl
 .exact .inr ⟨m,rfl,vH _,by omega⟩
theorem PT.set(a:PT b h v m cs)(ht:t<b)(ds:List PV):PT b (h.set t ds) v m cs:=by
 rcases a with a|⟨s,off,cap,row,rfl,h1,h2,h3,h4,h5,h6⟩
 .exact .inl a
 .exact .inr ⟨s,off,cap,row,rfl,h1,by rw[zI,if_neg (by omega)];exact h2,h3,h4,h5,h6⟩
theorem PT.pLen(a:PT b h v m cs):pLen v=some (.int .i64 m):=by
 rcases a with ⟨rfl,rfl,_⟩|⟨s,off,cap,row,rfl,_⟩<;>rfl
theorem PT.unsnoc(a:PT b h v (m+1) (cs++[c])):∃s off cap v',v=.sl s off (m+1) cap/\h.rd1 s (off+m)=some c/\Z9 1 v none (some (.int .i64 m)) none=some v'/\PT b h v' m cs:=by
 have hl:=a.len;rcases a with ⟨_,e,_⟩|⟨s,off,cap,row,rfl,h1,h2,h3,h4,h5,h6⟩
 .cases e
 have hlen:cs.length=m:=by simpa using hl
 have e4:row[off+m]? = some c:=by
  have e:((row.drop off).take (m+1))[m]? = some c:=by
   rw[h3,List.getElem?_append_right (by omega),hlen,Nat.sub_self];rfl
  rw[List.getElem?_take_of_lt (by omega),List.getElem?_drop]at e;exact e
 have e3:(row.drop off).take m=cs:=by
  have e:((row.drop off).take (m+1)).take m=cs:=by rw[h3,List.take_append_of_le_length (by omega),List.take_of_length_le (by omega)]
  rw[List.take_take,Nat.min_eq_left (by omega)]at e;exact e
 have hz:(m:Int)<=((m+1:Nat):Int):=by omega
 rcases h1 with rfl|⟨k,rfl,eK,cI⟩
 .refine⟨s,off,_,.sl s off m (.grown 1),rfl,by rw[zG h2];exact e4,?_,.inr ⟨s,off,_,row,rfl,.inl rfl,h2,e3,by omega,h5,h6⟩⟩;simp only[Z3,seval,-ae,hz];rfl
 .have y5:(m:Int)<=(k:Int):=by omega
  refine⟨s,off,_,.sl s off m (.known k),rfl,by rw[zG h2];exact e4,?_,.inr ⟨s,off,_,row,rfl,.inr ⟨k,rfl,by omega,cI⟩,h2,e3,by omega,h5,h6⟩⟩;simp only[Z3,seval,-ae,hz,y5];rw[if_pos (show m<=k by omega)];simp
theorem PT.push{σb:PHeap}{bytes:Nat}{K:PV×PHeap->Prop}(eJ:x.one=true)(hk:Keep σb h)(a:PT σb.next h v m cs)
  (h1:(m+1)*bytes<=140737488355328) (h2:m+1<=4611686018427387904) (k:∀v' h',Keep σb h'->PT σb.next h' v' (m+1) (cs++[x])->K (v',h')):optK (ZZ 1 bytes (h.new [x]) v (.sl h.next 0 1 (.known 1))) K:=by
 have hl:=a.len;rcases a with ⟨rfl,rfl,rfl⟩|⟨s,off,cap,row,rfl,q1,q2,q3,q4,q5,q6⟩
 .exact PAcc.push hk (PAcc.nil _ _ _) h1 h2 λv' h' k1 k2=>k v' h' k1 (.of k2)
 rw[zAF];have hp:QA 1 (h.new [x]) (.sl h.next 0 1 (.known 1)) 1=some [x]:=by simp[Qq,zAb]
 have c8:(h.new [x]).obj s=some row:=by simp only[PHeap.new];rw[if_neg (by omega)];exact q2
 have hn:=hk.next;simp only[plen,Option.bind_some];rw[if_neg (by omega),hp];simp only[Option.bind_some];rcases q1 with rfl|⟨c,rfl,c1,c2⟩
 .rw[zAi,if_pos ⟨h1,h2,rfl⟩,c8];simp only[Option.bind_some];rw[if_pos (by omega),Nat.mul_one,q3];refine Zp rfl (k _ _ (((hk.new _).kill (by omega)).new _) (.inr ⟨(h.new [x]).next,0,_,cs++[x],rfl,.inl rfl,by simp[PHeap.new,PHeap.kill],?_,by simp[hl],by simp[PHeap.new];omega,by simp[PHeap.new,PHeap.kill]⟩));rw[List.drop_zero,List.take_of_length_le (by simp[hl])]
 .rw[zAh];by_cases hc:m+1<=c
  .rw[if_pos hc,Nat.mul_one,QB c8,if_pos ⟨by simp;omega,by simp[eJ]⟩];simp only[Option.map_some,List.length_singleton];refine Zp rfl (k _ _ ((hk.new _).set q5 _) (.inr ⟨s,off,_,_,rfl,.inr ⟨c,rfl,hc,?_⟩,by rw[zI,if_pos rfl],?_,?_,q5,Nat.lt_succ_of_lt q6⟩))
   .simp;omega
   .have e1:(row.take (off+m)).length=off+m:=by simp;omega
    rw[List.append_assoc,List.drop_append_of_le_length (by omega),List.take_append,show((row.take (off+m)).drop off).length=m by simp;omega];have e2:(row.take (off+m)).drop off=cs:=by
     rw[<-q3,List.drop_take];congr 1;omega
    rw[e2,List.take_of_length_le (by omega),show m+1-m=1 by omega];simp
   .simp;omega
  .rw[if_neg hc,if_pos ⟨h1,h2⟩,ZT c8,if_pos (by omega),Nat.mul_one,q3];simp only[Option.map_some];refine Zp rfl (k _ _ ((hk.new _).new _) (.inr ⟨(h.new [x]).next,0,_,cs++[x],rfl,.inl rfl,by simp[PHeap.new],?_,by simp[hl],by simp[PHeap.new];omega,by simp[PHeap.new]⟩));rw[List.drop_zero,List.take_of_length_le (by simp[hl])]
theorem zNF(hL:FII vL xs)(sz:SzL xs)(hk:∀v h' rows,Keep U h'->PT U.next h' v xs.length rows->All2 FI rows xs->K v h'):zA Tryz.prog 180 [vL] U K:=by
 have hb:=sz.l;obtain⟨wl,al,rl,rfl,aT⟩:=hL;refine zB mix Tryz.func180 ?_
 conv=>arg 2;cbv
 refine zC rfl ?_;simp only[Z3,seval,-ae];refine zF (λm vs h'=>∃i v rows,i<=xs.length/\m=xs.length-i/\vs=[.fz wl al xs.length rl,v,.int .i64 (i:Nat)]/\Keep U h'/\PSl U.next 1 h' v i rows/\All2 FI rows (xs.take i)) xs.length ?_ ?_
 .exact⟨0,_,[],by omega,by omega,rfl,zD U _,PSl.new U.next 1 rfl (vH _),by simpa using All2.nil _⟩
 .rintro m vs h' ⟨i,v,rows,hi,rfl,rfl,ar,ha,ah⟩
  simp only[Z3,seval,-ae];refine iteI (λag=>?_) λaG=>?_
  .obtain⟨w4,a4,cE⟩:=aT.rowI ag;simp only[Z3,seval,-ae,ag,cE];refine zA.fz (e:=1) (λK'=>QR rfl (by have:=sz.r _ (List.getElem_mem ag);omega)) (zN _ _) λo cap=>?_;simp only[Z3,seval,-ae];refine PSl.push (bytes:=24) (σb:=U) ar ha (by omega) (by omega) λv2 h2 k2 a2=>?_;simp only[Z3,seval,-ae,wrapS ag (by omega:xs.length<=4611686018427387904)];refine⟨_,by omega,i+1,v2,_,by omega,rfl,rfl,k2,a2,?_⟩;rw[List.take_succ_eq_append_getElem ag];exact ah.snoc ⟨_,_,rfl⟩
  .have aI:i=xs.length:=by omega
   subst aI;rw[List.take_length]at ah;exact hk _ _ rows ar (.of ha) ah
theorem zFP{x:L3}{vx:PV}(g:LG O P C)(hR:IsPr vO vP vC O P C)(hx:gS O x)(aW:FI vx x){k:Int}(dh:-1000<=k/\k<0)(hk:∀v,FI v (Grp.pw (gm O P C) (zv O) (ginv (gS O) (gm O P C) (zv O) x) (-k).toNat)->K v U):
  zA Tryz.prog 182 [.agg [vO,vP,vC],vx,.int .i64 k] U K:=by
 have h0:=hR.O.one;have h1:=hR.P.one;have h2:=hR.C.one;have M:=g.F.g.toMon;have eK:k<0:=dh.2;have ng:IntKind.i64.wrap (0-k)=-k:=by rw[wrap64 (by omega) (by omega)];omega
 refine zA.gh ?_;refine zB mix Tryz.func182 ?_
 conv=>arg 2;cbv
 refine zC rfl ?_;simp only[Z3,seval,-ae,h0,h1,h2,eK];refine zGT g.s g.co hR hx aW λv hv=>?_;simp only[Z3,seval,-ae,h0,h1,h2,ng];refine zDM g.s (d:=O.length) (i:=0) (by omega) (zBf g.s (by omega)) M hR (g.F.g.inv_in hx).1 hv (by omega) λv hv=>?_;simp only[Z3,seval,-ae];exact Gh.fin0 (zD U _) (hv.bel _) (hk v hv)
end Go.Proofs
namespace Go.Proofs
open Go.Ab Go.Lie
variable{U:PHeap}{K:PV->PHeap->Prop}{n:Nat}{p:Int}
theorem u64_and{n:Nat}(hn:n<=6):pbin .and .other (.int .u64 n) (.int .u64 4294967295)=some (.int .u64 n):=by
 have hc:n=0\/n=1\/n=2\/n=3\/n=4\/n=5\/n=6:=by omega
 rcases hc with rfl|rfl|rfl|rfl|rfl|rfl|rfl<;>rfl
theorem zPv{n:Nat}(hn:n<=6):pbin .shr .other (.int .u64 n) (.int .u64 32)=some (.int .u64 0):=by
 have hc:n=0\/n=1\/n=2\/n=3\/n=4\/n=5\/n=6:=by omega
 rcases hc with rfl|rfl|rfl|rfl|rfl|rfl|rfl<;>rfl
theorem zG6{n:Nat}(hn:n<=6):IntKind.u64.wrap (n:Int)=n:=by
 have hc:n=0\/n=1\/n=2\/n=3\/n=4\/n=5\/n=6:=by omega
 rcases hc with rfl|rfl|rfl|rfl|rfl|rfl|rfl<;>rfl
theorem zPh(hn:n<=6)(hk:K (.tup [.int .u64 0,.int .u64 n]) U):zA Tryz.prog 318 [.int .u64 1,.int .u64 n] U K:=by
 have a1:pbin .and .other (.int .u64 1) (.int .u64 4294967295)=some (.int .u64 1):=rfl;have a0:pbin .and .other (.int .u64 0) (.int .u64 4294967295)=some (.int .u64 0):=rfl;have s1:pbin .shr .other (.int .u64 1) (.int .u64 32)=some (.int .u64 0):=rfl;have s0:pbin .shr .other (.int .u64 0) (.int .u64 32)=some (.int .u64 0):=rfl;have w0:IntKind.u64.wrap 0=0:=rfl;refine zB mix Tryz.func318 ?_
 conv=>arg 2;cbv
 refine zC rfl ?_;simp only[Z3,seval,-ae,a1,a0,s1,s0,u64_and hn,zPv hn,zG6 hn,w0,Int.one_mul,Int.zero_mul,Int.mul_zero,Int.add_zero];exact hk
theorem zSD(hn:n<=6)(hk:K (.tup [.int .u64 0,.int .u64 n]) U):zA Tryz.prog 278 [.int .u64 1,.int .u64 n] U K:=by
 refine zB mix Tryz.func278 ?_
 conv=>arg 2;cbv
 refine zC rfl ?_;simp only[Z3,seval,-ae];refine zPh hn ?_;simp only[Z3,seval,-ae];exact hk
def fillR(p:Int)(n d:Nat):L3:=List.replicate d p++List.replicate (n-d) 0
theorem zDS{d:Nat}(hd:d<=n):(fillR p n d).length=n:=by simp[fillR];omega
theorem zHd{h:PHeap}{o d m len:Nat}{c1:Cap}{x:PV}{cs:List PV}(hx:plen x=some m)(hm:min m len≠0)(hf:QA 1 h x (min m len)=some cs){h':PHeap}(hw:h.wr o d cs=some h'):pcopy 1 h (.sl o d len c1) x=some (.int .i64 (min m len:Nat),h'):=by
 unfold pcopy;rw[show plen (.sl o d len c1)=some len from rfl,hx];simp only[Option.bind_some];rw[if_neg hm];simp only[hf,Option.bind_some,hw,Option.map_some]
theorem zNQ{d m:Nat}(hd:d+m<=n)(hm:m<=d):(pis (fillR p n d)).take d++(pis (fillR p n d)).take m++(pis (fillR p n d)).drop (d+m)=pis (fillR p n (d+m)):=by
 unfold fillR pis;simp only[<-List.map_take,<-List.map_drop,<-List.map_append];congr 1;refine List.ext_getElem (by simp;omega) λi h1 h2=>?_;simp only[List.getElem_append,List.getElem_take,List.getElem_drop,List.getElem_replicate,List.length_append,List.length_take,List.length_replicate]
 repeat' split
 all_goals first|rfl|(exfalso;simp at *;omega)|omega
theorem zNo{w:Bool}{a:AV}{l:Nat}(hl:l=1)(hn:n<=6)(hk:∀v,FI v (List.replicate n p)->K v U):zA Tryz.prog 190 [.fz w a l (pis [p]),.int .i64 n] U K:=by
 subst hl;have c1:IntKind.u64.wrap ((1:Nat):Int)=1:=rfl;have bM:¬(n:Int)<0:=by omega
 have uU:¬(n:Int) > 9223372036854775807:=by omega
 refine zA.gh ?_;refine zB mix Tryz.func190 ?_
 conv=>arg 2;cbv
 refine zC rfl ?_;simp only[Z3,seval,-ae,bM,c1,zG6 hn];refine zSD hn ?_;have xQ:IntKind.i64.wrap (n:Int)=n:=wrap64 (by omega) (by omega);simp only[Z3,seval,-ae,uU,xQ,mk8 (n:=n) (by omega),mkL (n:=n) (by omega)];have fin:∀{h:PHeap},h=U.new (pis (List.replicate n p))->Gh U K (.sl U.next 0 n (.known n)) h:=λ{h} e=>by
  subst e;exact Gh.finF (cs:=pis (List.replicate n p)) (zD U _) (by simp only[Z3,seval,-ae]) (vH _) (zN _ _) (by simp[capOK]) λo=>hk _ ⟨true,.sl o 0 n (.known n),by simp⟩
 rcases Nat.eq_zero_or_pos n with rfl|aD
 .have hc:pcopy 1 (U.new []) (PV.sl U.next 0 0 (Cap.known 0)) (PV.fz w a 1 (pis [p]))=some (.int .i64 0,U.new []):=rfl;simp only[Z3,seval,-ae,hc];refine zF (λm us h'=>m=0/\us=[.sl U.next 0 0 (.known 0),.int .i64 0]/\h'=U.new []) 0 ⟨rfl,rfl,rfl⟩ ?_
  rintro m us h' ⟨rfl,rfl,rfl⟩
  simp only[Z3,seval,-ae];exact fin rfl
 have hc:pcopy 1 (U.new (List.replicate n (PV.int IntKind.i64 0))) (PV.sl U.next 0 n (Cap.known n)) (PV.fz w a 1 (pis [p]))=some (.int .i64 1,U.new (pis (fillR p n 1))):=by
  refine(zHd (m:=1) (len:=n) rfl (by rw[Nat.min_eq_left aD];decide) (cs:=pis [p]) (by rw[Nat.min_eq_left aD];rfl) (h':=U.new (pis (fillR p n 1))) ?_).trans (by rw[Nat.min_eq_left aD];rfl);have ho:(U.new (List.replicate n (PV.int IntKind.i64 0))).obj U.next=some (List.replicate n (PV.int IntKind.i64 0)):=by simp only[Z3,seval,-ae]
  rw[QB ho,if_pos ⟨by rw[List.length_replicate];show 0+1<=n;omega,rfl⟩];congr 1;simp only[PHeap.set,PHeap.new,PHeap.mk.injEq,true_and];funext t;split
  .simp[fillR,pis,aD]
  .rfl
 simp only[Z3,seval,-ae,hc];refine zF (λm us h'=>∃d:Nat,m=n-d/\us=[.sl U.next 0 n (.known n),.int .i64 d]/\1<=d/\d<=n/\h'=U.new (pis (fillR p n d))) (n-1) ⟨1,rfl,rfl,by omega,aD,rfl⟩ ?_
 rintro m us h' ⟨d,rfl,rfl,uN,dW,rfl⟩
 simp only[Z3,seval,-ae];refine iteI (λag=>?_) λaG=>?_;rotate_left
 .refine fin ?_;rw[show d=n by omega];simp[fillR]
 have aF:d<n:=by omega
 have B5:Z9 1 (.sl U.next 0 n (.known n)) (some (.int .i64 d)) none none=some (.sl U.next d (n-d) (.known (n-d))):=by
  have h1:(0:Int)<=(d:Int)/\(d:Int)<=(n:Int):=by omega
  have h2:¬n=d:=by omega
  have h3:d<=n:=by omega
  simp[Z9,qN,Qb,h1,h2,h3]
 have wC:Z9 1 (.sl U.next 0 n (.known n)) none (some (.int .i64 d)) none=some (.sl U.next 0 d (.known n)):=by
  have h1:(0:Int)<=(d:Int)/\(d:Int)<=(n:Int):=by omega
  have h2:d<=n:=by omega
  have h3:¬n=0:=by omega
  simp[Z9,qN,Qb,h1,h2,h3]
 have ho:(U.new (pis (fillR p n d))).obj U.next=some (pis (fillR p n d)):=by simp only[Z3,seval,-ae]
 have mH:pcopy 1 (U.new (pis (fillR p n d))) (.sl U.next d (n-d) (.known (n-d))) (.sl U.next 0 d (.known n))=some (.int .i64 (min d (n-d):Nat),U.new (pis (fillR p n (d+min d (n-d))))):=by
  refine zHd (m:=d) (len:=n-d) rfl (by rw[Nat.min_def];split<;>omega) (cs:=(pis (fillR p n d)).take (min d (n-d))) ?_ ?_
  .rw[Qq,if_neg (by omega),if_pos (by omega),ZT ho,if_pos (by rw[zK,zDS (by omega)];omega)];simp
  .rw[QB ho,if_pos ⟨by rw[List.length_take,zK,zDS (by omega)];omega,by simp[List.all_eq_true,pis];intro x hx;obtain⟨y,_,rfl⟩:=List.mem_map.1 (List.mem_of_mem_take hx);rfl⟩];congr 1;have e:=zNQ (p:=p) (n:=n) (d:=d) (m:=min d (n-d)) (by omega) (by omega);have hl:((pis (fillR p n d)).take (min d (n-d))).length=min d (n-d):=by rw[List.length_take,zK,zDS (by omega)];omega
   rw[hl,e];simp only[PHeap.set,PHeap.new,PHeap.mk.injEq,true_and];funext t;split<;>rfl
 have ew:IntKind.i64.wrap ((d:Int)+((min d (n-d):Nat):Int))=((d+min d (n-d):Nat):Int):=by rw[wrap64 (by omega) (by omega)];omega
 have px:d<=n:=by omega
 have cV:¬n=d:=by omega
 have ud:¬n=0:=by omega
 simp only[Z3,seval,-ae,px,cV,ud,mH,ew,Nat.sub_zero,Option.isNone_none,Option.isSome_none,Option.isNone_some,Option.isSome_some,Bool.false_eq_true,and_false,false_and,if_false];have oT:1<=min d (n-d)/\min d (n-d)<=n-d:=by rw[Nat.min_def];split<;>omega
 exact⟨_,by omega,d+min d (n-d),rfl,rfl,by omega,by omega,rfl⟩
variable{c m k s:Nat}{W:L4}{B:L5}{vP vB vx:PV}{x v:L3}
theorem lmix0{k:Int}{a b:L3}(h:b.length=a.length):lmix k a 0 b=lmix k a 0 a:=by
 unfold lmix;refine List.ext_getElem (by simp[h]) λi h1 h2=>?_;simp
theorem zNT(hx:El p n x)(hp:isP p)(i:Nat):0<=at_ x i/\at_ x i<=1000000:=by
 have:=hp.bd
 rcases Nat.lt_or_ge i x.length with h|h
 .have:=hx.2 _ (List.getElem_mem h);rw[at_eq h];omega
 .rw[at_ge h];omega
theorem pisA{i:Nat}(h:i<x.length):(pis x)[i]? = some (.int .i64 (at_ x i)):=by rw[zQ,gi h,at_eq h];rfl
noncomputable def ptG(p:Int)(n:Nat)(W:L4)(B:L5)(e:L3):Nat->L3
 |0=>List.replicate n 0
 |i+1=>bch p n W B (ptG p n W B e i) (lmul p W (at_ e i) (unitL n i))
theorem zDC(o:OkW p n W)(q:OkB p n B)(e:L3):∀{i:Nat},i<=n->El p n (ptG p n W B e i)
 |0,_=>zAE o.pr
 |i+1,hi=>zAS o q (zDC o q e (by omega)) (zH o (zW o.pr (by omega)) (zW o.pr (by omega)))
noncomputable def stG(p:Int)(n:Nat)(W:L4)(B:L5)(x:L3):Nat->L3×L3
 |0=>(List.replicate n 0,x)
 |i+1=>((stG p n W B x i).1.set i (at_ (stG p n W B x i).2 i),bch p n W B (lmul p W (-at_ (stG p n W B x i).2 i) (unitL n i)) (stG p n W B x i).2)
theorem Qg:∀i,(stG p n W B x i).1.length=n
 |0=>List.length_replicate ..
 |i+1=>by rw[stG,List.length_set];exact Qg i
theorem zAm(o:OkW p n W)(q:OkB p n B)(hx:El p n x):∀{i:Nat},i<=n->El p n (stG p n W B x i).2
 |0,_=>hx
 |i+1,hi=>zAS o q (zH o (zW o.pr (by omega)) (zW o.pr (by omega))) (zAm o q hx (by omega))
noncomputable def vcG(p:Int)(n:Nat)(W:L4)(B:L5)(x:L3):L3:=(stG p n W B x n).1
theorem zA6(z:Lz p n W B c)(hs:PtrR U s p vP vB)(hR:IsR vP vB W B)(hx:El p n x)(aW:FI vx x)(hk:∀cap,full 1 cap n->K (.sl U.next 0 n cap) (U.new (pis (vcG p n W B x)))):zA Tryz.prog 95 [.ptr s 0,vx] U K:=by
 have o:=z.r.o;have q:=z.r.q;have aX:=o.le;have aV:=hx.1;obtain⟨wx,ax,rfl⟩:=aW;refine zA.gh ?_;have ai:¬s=U.next:=Nat.ne_of_lt hs.lt;refine zB mix Tryz.func95 ?_
 conv=>arg 2;cbv
 refine zC rfl ?_;simp only[Z3,seval,-ae,aV,List.length_replicate,Zg,mk8 (n:=n) (by omega),mkL (n:=n) (by omega)];refine zF (λm vs h'=>∃i v,i<=n/\m=n-i/\vs=[.ptr s 0,v,.int .i64 n,.sl U.next 0 n (.known n),.int .i64 n,.int .i64 (i:Nat)]/\h'=U.new (pis (stG p n W B x i).1)/\FI v (stG p n W B x i).2) n ?_ ?_
 .exact⟨0,.fz wx ax n (pis x),by omega,by omega,rfl,rfl,⟨_,_,by rw[show(stG p n W B x 0).2=x from rfl,aV]⟩⟩
 .rintro m vs h' ⟨i,v,hi,rfl,rfl,rfl,hv⟩
  simp only[Z3,seval,-ae];refine iteI (λag=>?_) λaG=>?_
  .have bD:=zAm (B:=B) o q hx hi;have hu:=zW (n:=n) o.pr ag;have hb:=zNT bD z.hp i;have kA:=Qg (p:=p) (n:=n) (W:=W) (B:=B) (x:=x) i;have iL:i<(stG p n W B x i).2.length:=by rw[bD.1];exact ag
   have jv:i<(stG p n W B x i).1.length:=by omega
   obtain⟨w0,a0,rfl⟩:=hv;have eQ:(pis (stG p n W B x i).1).take i++[.int .i64 (at_ (stG p n W B x i).2 i)]++(pis (stG p n W B x i).1).drop (i+1)=pis (stG p n W B x (i+1)).1:=qM jv;have fE:at_ (stG p n W B x (i+1)).1 i=at_ (stG p n W B x i).2 i:=by rw[stG,at_eq (by rw[List.length_set];exact jv)];simp
   have iY:i<(stG p n W B x (i+1)).1.length:=by rw[Qg];exact ag
   have ne:=zH o (k:=-at_ (stG p n W B x i).2 i) (m:=0) hu hu;have bM:IntKind.i64.wrap (0-at_ (stG p n W B x i).2 i)=-at_ (stG p n W B x i).2 i:=by rw[wrap64 (by omega) (by omega)];omega
   have gY:PtrR (U.new (pis (stG p n W B x (i+1)).1)) s p vP vB:=hs.new _;simp only[Z3,seval,-ae,ag,pisA iL,iL,jv,Nat.succ_le_of_lt jv,zK,eQ,pisA iY,fE,bM];refine ZM (by omega) ag λa1=>?_;simp only[Z3,seval,-ae,pisA iY,fE];refine zB3 o gY hR.P hu ⟨true,a1,by rw[hu.1]⟩ (k:=-at_ (stG p n W B x i).2 i) (by omega) λv1 f1=>?_;simp only[Z3,seval,-ae];refine zA.fzI (λK'=>zIW z gY hR ne bD f1 ⟨_,_,rfl⟩) λa2=>?_;simp only[Z3,seval,-ae,wrapS ag (by omega:n<=4611686018427387904)];exact⟨_,by omega,i+1,_,by omega,rfl,rfl,rfl,⟨_,_,rfl⟩⟩
  .have aI:i=n:=by omega
   subst aI;exact Gh.finS (zD U _) (by simp only[Z3,seval,-ae];rfl) (vH _) (zN _ _) (hk _ (.inr rfl))
theorem zBe(z:Lz p n W B c)(hR:IsR vP vB W B)(hx:El p n x)(aW:FI vx x)(hk:∀v,FI v (vcG p n W B x)->K v U):zA Tryz.prog 86 [.agg [.int .i64 p,vP,vB],vx] U K:=by
 have o:=z.r.o;have q:=z.r.q;have aX:=o.le;have fa:=o.len;have aV:=hx.1;have h1:=hR.P.one;have h2:=hR.B.one;obtain⟨wx,ax,rfl⟩:=aW;refine zA.gh ?_;refine zB mix Tryz.func86 ?_
 conv=>arg 2;cbv
 refine zC rfl ?_;simp only[Z3,seval,-ae,h1,h2,aV];refine zEF hR fa (by omega) λcap hc=>?_;simp only[Z3,seval,-ae];refine zF (λm vs h'=>∃i v,i<=n/\m=n-i/\vs=[.fz wx ax n (pis x),.ptr U.next 0,.sl (U.next+1) 0 n cap,v,.int .i64 (i:Nat)]/\h'=(U.new [.int .i64 p,vP,vB]).new (pis (stG p n W B x i).1)/\FI v (stG p n W B x i).2) n ?_ ?_
 .exact⟨0,.fz wx ax n (pis x),by omega,by omega,rfl,rfl,⟨_,_,by rw[show(stG p n W B x 0).2=x from rfl,aV]⟩⟩
 .rintro m vs h' ⟨i,v,hi,rfl,rfl,rfl,hv⟩
  simp only[Z3,seval,-ae];refine iteI (λag=>?_) λaG=>?_
  .have bD:=zAm (B:=B) o q hx hi;have hu:=zW (n:=n) o.pr ag;have hb:=zNT bD z.hp i;have kA:=Qg (p:=p) (n:=n) (W:=W) (B:=B) (x:=x) i;have iL:i<(stG p n W B x i).2.length:=by rw[bD.1];exact ag
   have jv:i<(stG p n W B x i).1.length:=by omega
   obtain⟨w0,a0,rfl⟩:=hv;have eQ:(pis (stG p n W B x i).1).take i++[.int .i64 (at_ (stG p n W B x i).2 i)]++(pis (stG p n W B x i).1).drop (i+1)=pis (stG p n W B x (i+1)).1:=qM jv;have fE:at_ (stG p n W B x (i+1)).1 i=at_ (stG p n W B x i).2 i:=by rw[stG,at_eq (by rw[List.length_set];exact jv)];simp
   have iY:i<(stG p n W B x (i+1)).1.length:=by rw[Qg];exact ag
   have ne:=zH o (k:=-at_ (stG p n W B x i).2 i) (m:=0) hu hu;have bM:IntKind.i64.wrap (0-at_ (stG p n W B x i).2 i)=-at_ (stG p n W B x i).2 i:=by rw[wrap64 (by omega) (by omega)];omega
   simp only[Z3,seval,-ae,ag,pisA iL,iL,jv,Nat.succ_le_of_lt jv,zK,eQ,pisA iY,fE,bM];refine Zn hR fa (by omega) ag λa1=>?_;simp only[Z3,seval,-ae,pisA iY,fE];refine ZG hR o hu bD hu.1.symm rfl (k:=-at_ (stG p n W B x i).2 i) (m:=0) (by omega) (by decide) λv1=>?_;rw[lmix0 (bD.1.trans hu.1.symm)];simp only[Z3,seval,-ae];refine zGR z hR ne bD ⟨true,v1,by rw[ne.1]⟩ ⟨_,_,rfl⟩ λv' dj=>?_;simp only[Z3,seval,-ae,wrapS ag (by omega:n<=4611686018427387904)];exact⟨_,by omega,i+1,v',by omega,rfl,rfl,rfl,dj⟩
  .have aI:i=n:=by omega
   subst aI;exact Gh.finF (s:=U.next+1) ((zD U _).new _) (by simp only[Z3,seval,-ae];rfl) (by omega) (zN _ _) hc.ok λo1=>hk _ ⟨true,.sl o1 0 i cap,by rw[show(vcG p i W B x).length=i from Qg i];rfl⟩
structure LS where
 s:Nat
 cap:Cap
 cs:List PV
def LS.pv(q:LS):PV:=.sl q.s 0 q.cs.length q.cap
def LS.ok(h:PHeap)(b:Nat)(q:LS):Prop:=full 1 q.cap q.cs.length/\h.obj q.s=some q.cs/\b<=q.s/\q.s<h.next
def LS.pvo:Option LS->PV
 |none=>.fz true .nils 0 []
 |some q=>q.pv
def LS.slots:List (Option LS)->List Nat
 |[]=>[]
 |none::ls=>LS.slots ls
 |some q::ls=>q.s::LS.slots ls
theorem LS.slots_app:∀(a b:List (Option LS)),LS.slots (a++b)=LS.slots a++LS.slots b
 |[],b=>rfl
 |none::a,b=>by simp only[List.cons_append,LS.slots,LS.slots_app a b]
 |some q::a,b=>by simp only[List.cons_append,LS.slots,LS.slots_app a b]
theorem LS.mem_slots{s:Nat}:∀{ls:List (Option LS)},s∈LS.slots ls↔∃q,some q∈ls/\q.s=s
 |[]=>by simp[LS.slots]
 |none::ls=>by simp[LS.slots,LS.mem_slots (ls:=ls)]
 |some q::ls=>by
  simp only[LS.slots,List.mem_cons,LS.mem_slots (ls:=ls)];constructor
  .rintro(rfl|⟨q',h1,h2⟩)
   .exact⟨q,.inl rfl,rfl⟩
   .exact⟨q',.inr h1,h2⟩
  .rintro⟨q',h1|h1,h2⟩
   .cases h1;exact .inl h2.symm
   .exact .inr ⟨q',h1,h2⟩
theorem LS.ok.move{h h2:PHeap}{b:Nat}{q:LS}(a:q.ok h b)(ho:h2.obj q.s=h.obj q.s)(hn:h.next<=h2.next):q.ok h2 b:=⟨a.1,by rw[ho];exact a.2.1,a.2.2.1,Nat.lt_of_lt_of_le a.2.2.2 hn⟩
theorem zBr{b e m:Nat}{h h2:PHeap}{v:PV}{cs:List PV}(a:PAcc b e h v m cs)(ho:∀s off l c,v=.sl s off l c->h2.obj s=h.obj s)(hn:h.next<=h2.next):PAcc b e h2 v m cs:=by
 rcases a with a|⟨s,cap,rfl,h1,gr,h3,h4,h5⟩
 .exact .inl a
 .exact .inr ⟨s,cap,rfl,h1,by rw[ho s 0 _ cap rfl];exact gr,h3,h4,Nat.lt_of_lt_of_le h5 hn⟩
theorem zAc{b e m:Nat}{h:PHeap}{v:PV}{cs:List PV}(a:PAcc b e h v m cs){s off l:Nat}{c:Cap}(hv:v=.sl s off l c):s<h.next:=by
 rcases a with ⟨rfl,_⟩|⟨s',cap,rfl,h1,gr,h3,h4,h5⟩
 .cases hv
 .cases hv;exact h5
structure TI(U h:PHeap)(p0 sO:Nat)(vO vP vC:PV)(cO pc:List PV)(ls:List (Option LS)):Prop where
 keep:Keep U h
 obj:h.obj p0=some [vO,vP,vC]
 p0b:U.next<=p0/\p0<h.next
 oO:h.obj sO=some cO
 sOb:U.next<=sO/\sO<h.next
 pO:p0≠sO
 accP:PAcc U.next 1 h vP pc.length pc
 accC:PAcc U.next 1 h vC ls.length (ls.map LS.pvo)
 ok:∀q,some q∈ls->q.ok h U.next
 nd:(LS.slots ls).Nodup
 neP:∀s,s∈LS.slots ls\/s=p0\/s=sO->∀off l c,vP≠.sl s off l c
 neC:∀s,s∈LS.slots ls\/s=p0\/s=sO->∀off l c,vC≠.sl s off l c
 neL:p0∉LS.slots ls/\sO∉LS.slots ls
 nePC:∀s off l c,vP=.sl s off l c->∀off l c,vC≠.sl s off l c
variable{h:PHeap}{p0 sO:Nat}{vO vP vC:PV}{cO pc:List PV}{ls:List (Option LS)}
theorem TI.lt(a:TI U h p0 sO vO vP vC cO pc ls){s:Nat}(hs:s∈LS.slots ls):U.next<=s/\s<h.next:=by
 obtain⟨q,hq,rfl⟩:=LS.mem_slots.1 hs
 have:=a.ok q hq
 exact⟨this.2.2.1,this.2.2.2⟩
theorem TI.keepI{h2:PHeap}(a:TI U h p0 sO vO vP vC cO pc ls)(k:Keep h h2):TI U h2 p0 sO vO vP vC cO pc ls:=
  ⟨a.keep.trans k,by rw[k.obj _ a.p0b.2];exact a.obj,⟨a.p0b.1,Nat.lt_of_lt_of_le a.p0b.2 k.next⟩,by rw[k.obj _ a.sOb.2];exact a.oO,⟨a.sOb.1,Nat.lt_of_lt_of_le a.sOb.2 k.next⟩,a.pO,a.accP.keep k,a.accC.keep k,
   λq hq=>(a.ok q hq).move (k.obj _ (a.ok q hq).2.2.2) k.next,a.nd,a.neP,a.neC,a.neL,a.nePC⟩
theorem TI.pushP{K:PV×PHeap->Prop}{row:PV}(a:TI U h p0 sO vO vP vC cO pc ls)(aH:vO.one=true/\vC.one=true)(hb:pc.length<=1000)
  (k:∀v' h2,v'.one=true->v'.cells=[v']->h2.wr p0 1 [v']=some (h2.set p0 [vO,v',vC])->TI U (h2.set p0 [vO,v',vC]) p0 sO vO v' vC cO (pc++[row]) ls->h.next<h2.next->K (v',h2)):
  optK (ZZ 1 24 (h.new [row]) vP (.sl h.next 0 1 (.known 1))) K:=by
 refine PAcc.pushS (σb:=U) (bytes:=24) a.keep a.accP rfl (by omega) (by omega) λv' h2 k2 a2 o2 n2 l2=>?_;have hp:=a.p0b;have hs:=a.sOb;have iV:h2.obj p0=some [vO,vP,vC]:=by rw[o2 _ hp.2 (a.neP _ (.inr (.inl rfl)))];exact a.obj
 refine k v' h2 a2.one a2.cells (by rw[QB iV,if_pos ⟨by simp,by simp[a2.one]⟩];rfl) ⟨k2.set hp.1 _,by rw[zI,if_pos rfl],⟨hp.1,by show p0<h2.next;omega⟩,?_,⟨hs.1,by show sO<h2.next;omega⟩,a.pO,?_,?_,λq hq=>?_,a.nd,λs hs=>?_,a.neC,a.neL,λs off l c e=>?_⟩ l2
 .rw[zI,if_neg (Ne.symm a.pO),o2 _ hs.2 (a.neP _ (.inr (.inr rfl)))];exact a.oO
 .have a3:PAcc U.next 1 (h2.set p0 [vO,v',vC]) v' (pc.length+1) (pc++[row]):=zBr a2.acc (λs off l c e=>by rw[zI,if_neg λe2=>n2 p0 hp.2 off l c (by rw[e,e2])]) (vH _);simpa using a3
 .refine zBr a.accC (λs off l c e=>?_) (Nat.le_of_lt l2);have ko:s≠p0:=λe2=>a.neC p0 (.inr (.inl rfl)) off l c (by rw[e,e2]);rw[zI,if_neg ko,o2 s (zAc a.accC e) λc5 l' c' e'=>a.nePC s c5 l' c' e' off l c e]
 .have cG:=a.ok q hq;have hm:q.s∈LS.slots ls:=LS.mem_slots.2 ⟨q,hq,rfl⟩;refine cG.move ?_ (Nat.le_of_lt l2);rw[zI,if_neg λe=>a.neL.1 (by rw[<-e];exact hm),o2 _ cG.2.2.2 (a.neP _ (.inl hm))]
 .have:s<h.next:=by
   rcases hs with hs|rfl|rfl
   .exact(a.lt hs).2
   .exact hp.2
   .omega
  exact n2 s this
 .intro c5 l' c' e';exact n2 s (zAc a.accC e') off l c e
theorem TI.pushC{K:PV×PHeap->Prop}{o:Option LS}(a:TI U h p0 sO vO vP vC cO pc ls)(aH:vO.one=true/\vP.one=true)(hb:ls.length<=1000)
  (ho:∀q,o=some q->q.ok h U.next/\q.s∉LS.slots ls/\q.s≠p0/\q.s≠sO/\(∀off l c,vP≠.sl q.s off l c)/\∀off l c,vC≠.sl q.s off l c)
  (k:∀v' h2,v'.one=true->v'.cells=[v']->h2.wr p0 2 [v']=some (h2.set p0 [vO,vP,v'])->TI U (h2.set p0 [vO,vP,v']) p0 sO vO vP v' cO pc (ls++[o])->h.next<h2.next->K (v',h2)):
  optK (ZZ 1 24 (h.new [LS.pvo o]) vC (.sl h.next 0 1 (.known 1))) K:=by
 refine PAcc.pushS (σb:=U) (bytes:=24) a.keep a.accC rfl (by omega) (by omega) λv' h2 k2 a2 o2 n2 l2=>?_;have hp:=a.p0b;have hs:=a.sOb;have iV:h2.obj p0=some [vO,vP,vC]:=by rw[o2 _ hp.2 (a.neC _ (.inr (.inl rfl)))];exact a.obj
 have mo:∀s,s∈LS.slots (ls++[o])->s∈LS.slots ls\/∃q,o=some q/\q.s=s:=λs hs=>by
  rw[LS.slots_app,List.mem_append]at hs;refine hs.imp id λhs=>?_;obtain⟨q,hq,e⟩:=LS.mem_slots.1 hs;exact⟨q,(List.mem_singleton.1 hq).symm,e⟩
 refine k v' h2 a2.one a2.cells (by rw[QB iV,if_pos ⟨by simp,by simp[a2.one]⟩];rfl) ⟨k2.set hp.1 _,by rw[zI,if_pos rfl],⟨hp.1,by show p0<h2.next;omega⟩,?_,⟨hs.1,by show sO<h2.next;omega⟩,a.pO,?_,?_,λq hq=>?_,?_,λs hs=>?_,λs hs=>?_,⟨λhm=>?_,λhm=>?_⟩,λs off l c e=>?_⟩ l2
 .rw[zI,if_neg (Ne.symm a.pO),o2 _ hs.2 (a.neC _ (.inr (.inr rfl)))];exact a.oO
 .refine zBr a.accP (λs off l c e=>?_) (Nat.le_of_lt l2);have ko:s≠p0:=λe2=>a.neP p0 (.inr (.inl rfl)) off l c (by rw[e,e2]);rw[zI,if_neg ko,o2 s (zAc a.accP e) (a.nePC s off l c e)]
 .have a3:PAcc U.next 1 (h2.set p0 [vO,vP,v']) v' (ls.length+1) (ls.map LS.pvo++[LS.pvo o]):=zBr a2.acc (λs off l c e=>by rw[zI,if_neg λe2=>n2 p0 hp.2 off l c (by rw[e,e2])]) (vH _);simpa using a3
 .rcases List.mem_append.1 hq with hq|hq
  .have cG:=a.ok q hq;have hm:q.s∈LS.slots ls:=LS.mem_slots.2 ⟨q,hq,rfl⟩;refine cG.move ?_ (Nat.le_of_lt l2);rw[zI,if_neg λe=>a.neL.1 (by rw[<-e];exact hm),o2 _ cG.2.2.2 (a.neC _ (.inl hm))]
  .obtain⟨h1,h3,h4,h5,h6,h7⟩:=ho q (List.mem_singleton.1 hq).symm;refine h1.move ?_ (Nat.le_of_lt l2);rw[zI,if_neg h4,o2 _ h1.2.2.2 h7]
 .rw[LS.slots_app,List.nodup_append];refine⟨a.nd,?_,λx hx y hy e=>?_⟩
  .cases o<;>simp[LS.slots]
  .cases o with
   |none=>cases hy
   |some q=>
    simp only[LS.slots,List.mem_singleton]at hy;exact(ho q rfl).2.1 (by rw[<-hy,<-e];exact hx)
 .rcases hs with hs|hs
  .rcases mo s hs with hs|⟨q,e,rfl⟩
   .exact a.neP s (.inl hs)
   .exact(ho q e).2.2.2.2.1
  .exact a.neP s (.inr hs)
 .have:s<h.next:=by
   rcases hs with hs|rfl|rfl
   .rcases mo s hs with hs|⟨q,e,rfl⟩
    .exact(a.lt hs).2
    .exact(ho q e).1.2.2.2
   .exact hp.2
   .omega
  exact n2 s this
 .rcases mo _ hm with hm|⟨q,e,e2⟩
  .exact a.neL.1 hm
  .exact(ho q e).2.2.1 e2
 .rcases mo _ hm with hm|⟨q,e,e2⟩
  .exact a.neL.2 hm
  .exact(ho q e).2.2.2.1 e2
 .exact n2 s (zAc a.accP e)
end Go.Proofs
namespace Go.Proofs
open Go.Ab Go.Lie
variable{U h:PHeap}{K:PV->PHeap->Prop}{n:Nat}{p0 sO:Nat}{vO vP vC:PV}{cO pc:List PV}{ls:List (Option LS)}{O:L3}
theorem TI.res{X Y:List PV}(a:TI (U.new X) h p0 sO vO vP vC cO pc ls):TI U (h.set U.next Y) p0 sO vO vP vC cO pc ls:=by
 have hn:(U.new X).next=U.next+1:=rfl;have hp:=a.p0b;have hs:=a.sOb;refine⟨((zD U X).trans a.keep).set (vH _) _,by rw[zI,if_neg (by omega)];exact a.obj,⟨by omega,hp.2⟩,by rw[zI,if_neg (by omega)];exact a.oO,⟨by omega,hs.2⟩,a.pO,?_,?_,λq hq=>?_,a.nd,a.neP,a.neC,a.neL,a.nePC⟩
 .rcases a.accP with g|⟨s,cap,e,h1,h2,h3,h4,h5⟩
  .exact .inl g
  .exact .inr ⟨s,cap,e,h1,by rw[zI,if_neg (by omega)];exact h2,h3,by omega,h5⟩
 .rcases a.accC with g|⟨s,cap,e,h1,h2,h3,h4,h5⟩
  .exact .inl g
  .exact .inr ⟨s,cap,e,h1,by rw[zI,if_neg (by omega)];exact h2,h3,by omega,h5⟩
 .obtain⟨h1,h2,h3,h4⟩:=a.ok q hq;exact⟨h1,by rw[zI,if_neg (by omega)];exact h2,by omega,h4⟩
def zDf(n:Nat)(ls:List (Option LS)):Prop:=∀j (h:j<ls.length),(j+1=n->ls[j]=none)/\(j+1<n->∃q,ls[j]=some q/\q.cs.length=n-1-j)
theorem zDf.snoc{o:Option LS}(h:zDf n ls)(h1:ls.length+1=n->o=none)(h2:ls.length+1<n->∃q,o=some q/\q.cs.length=n-1-ls.length):zDf n (ls++[o]):=by
 intro j hj;rw[List.length_append,List.length_singleton]at hj;rcases Nat.lt_or_ge j ls.length with x|x
 .rw[List.getElem_append_left x];exact h j x
 .have e:j=ls.length:=by omega
  subst e;rw[List.getElem_append_right (vH _)];simp only[Nat.sub_self,List.getElem_cons_zero];exact⟨h1,h2⟩
theorem zC3(hv:FI vO [])(hk:∀h,Keep U h->K (.agg [.fz true .nils 0 [],.fz true .nils 0 [],.fz true .nils 0 []]) h)
  (cI:∀h cap,full 1 cap 0->Keep U h->h.obj (U.next+1)=some []->U.next+1<h.next->K (.agg [.sl (U.next+1) 0 0 cap,.fz true .nils 0 [],.fz true .nils 0 []]) h):zA Tryz.prog 189 [vO] U K:=by
 obtain⟨w,a,rfl⟩:=hv;refine zB mix Tryz.func189 ?_
 conv=>arg 2;cbv
 refine zC rfl ?_;simp only[Z3,seval,-ae];refine Qa rfl (by simp) ⟨λh0=>?_,λcap hc=>?_⟩
 .simp only[Z3,seval,-ae];refine zF (λm us h'=>m=0/\us=[.ptr U.next 0,.int .i64 (0:Nat),.ptr (U.next+1) 0,.int .i64 (0:Nat),.int .i64 (0:Nat)]/\h'=(U.new [.fz true .nils 0 [],.fz true .nils 0 [],.fz true .nils 0 []]).new [.fz true .nils 0 [],.fz true .nils 0 [],.fz true .nils 0 []]) 0 ⟨rfl,rfl,rfl⟩ ?_
  rintro m us h' ⟨rfl,rfl,rfl⟩
  simp only[Z3,seval,-ae];exact hk _ ((zD U _).new _)
 .simp only[Z3,seval,-ae];refine zF (λm us h'=>m=0/\us=[.ptr U.next 0,.int .i64 (0:Nat),.ptr (U.next+2) 0,.int .i64 (0:Nat),.int .i64 (0:Nat)]/\h'=((U.new [.fz true .nils 0 [],.fz true .nils 0 [],.fz true .nils 0 []]).new []).new [.sl (U.next+1) 0 0 cap,.fz true .nils 0 [],.fz true .nils 0 []]) 0 ⟨rfl,rfl,rfl⟩ ?_
  rintro m us h' ⟨rfl,rfl,rfl⟩
  simp only[Z3,seval,-ae];refine cI _ cap hc (((zD U _).new _).new _) ?_ ?_
  .simp only[Z3,seval,-ae]
  .simp only[Z3,seval,-ae];omega
theorem zC0(hv:FI vO O)(hn:O.length=n)(iX:1<=n)(aX:n<=6)
  (hk:∀cap vP vC pc ls h,full 1 cap n->TI U h (U.next+2) (U.next+1) (.sl (U.next+1) 0 n cap) vP vC (pis O) pc ls->pc.length=n->ls.length=n->zDf n ls->K (.agg [.sl (U.next+1) 0 n cap,vP,vC]) h):
  zA Tryz.prog 189 [vO] U K:=by
 obtain⟨w,a,rfl⟩:=hv;subst hn;refine zB mix Tryz.func189 ?_
 conv=>arg 2;cbv
 refine zC rfl ?_;simp only[Z3,seval,-ae];refine Qa rfl (by omega) ⟨λh0=>by rw[h0]at iX;simp at iX,λcap hc=>?_⟩;generalize hS:U.new [.fz true .nils 0 [],.fz true .nils 0 [],.fz true .nils 0 []]=S;have u7:S.next=U.next+1:=by rw[<-hS];rfl
 simp only[Z3,seval,-ae];refine zF (λm us h'=>∃(i:Nat) (vP vC:PV) (pc:List PV) (ls:List (Option LS)),i<=O.length/\m=O.length-i/\us=[.ptr U.next 0,.int .i64 O.length,.ptr (S.next+1) 0,.int .i64 O.length,.int .i64 i]/\TI S h' (S.next+1) S.next (.sl S.next 0 O.length cap) vP vC (pis O) pc ls/\pc.length=i/\ls.length=i/\zDf O.length ls) O.length ?_ ?_
 .exact⟨0,_,_,[],[],by omega,by omega,rfl,⟨(zD S _).new _,by simp only[Z3,seval,-ae],⟨by omega,by simp only[Z3,seval,-ae]⟩,by simp only[Z3,seval,-ae],⟨vH _,by simp only[Z3,seval,-ae];omega⟩,by omega,PAcc.nil _ _ _,PAcc.nil _ _ _,λq hq=>(by cases hq),List.nodup_nil,λs hs off l c e=>(by cases e),λs hs off l c e=>(by cases e),⟨λh=>(by cases h),λh=>(by cases h)⟩,λs off l c e=>(by cases e)⟩,rfl,rfl,λj hj=>absurd hj (by simp)⟩
 as_aux_lemma=>
 rintro m us h' ⟨i,vP,vC,pc,ls,hi,rfl,rfl,a,jY,lD,ga⟩
 have aH:vP.one=true/\vC.one=true:=⟨a.accP.one,a.accC.one⟩;have q0:h'.rd1 (S.next+1) 1=some vP:=by rw[zG a.obj];rfl
 have q3:h'.rd (S.next+1) 0 3=some [.sl S.next 0 O.length cap,vP,vC]:=by rw[ZT a.obj];rfl
 simp only[Z3,seval,-ae];refine iteI (λag=>?_) λaG=>?_;rotate_left
 .have aI:i=O.length:=by omega
  have cb:h'.obj U.next=some [.fz true .nils 0 [],.fz true .nils 0 [],.fz true .nils 0 []]:=by rw[a.keep.obj _ (by omega),<-hS];simp only[Z3,seval,-ae]
  have jh:h'.wr U.next 0 [.sl S.next 0 O.length cap,vP,vC]=some (h'.set U.next [.sl S.next 0 O.length cap,vP,vC]):=by
   rw[QB cb,if_pos ⟨by simp,by simp only[List.all_cons,List.all_nil,aH.1,aH.2];rfl⟩];rfl
  have bH:(h'.set U.next [.sl S.next 0 O.length cap,vP,vC]).rd U.next 0 3=some [.sl S.next 0 O.length cap,vP,vC]:=by rw[zDn,if_pos rfl];rfl
  rw[<-hS]at a;have a2:=a.res (Y:=[.sl S.next 0 O.length cap,vP,vC]);rw[hS]at a2;rw[u7]at a2
  have:=hk cap vP vC pc ls _ hc a2 (by omega) (by omega) ga
  simp only[Z3,seval,-ae,q3,jh,bH];rw[u7];exact this
 have aF:i<O.length:=by omega
 have mk:=mk8 (n:=O.length) (by omega);have oR:¬S.next+1=h'.next:=by have:=a.p0b.2;omega
 have kF:¬S.next=h'.next:=by have:=a.sOb.2;omega
 simp only[Z3,seval,-ae,q0,mk,mkL (n:=O.length) (by omega),List.length_replicate,oR,kF];refine TI.pushP (a.keepI (zD h' _)) ⟨rfl,aH.2⟩ (by omega) λv2 h2 u1 u2 u3 a2 l2=>?_;simp only[Z3,seval,-ae,u1,u2,u3];clear u1 u2 u3 q0 q3 oR kF;generalize h2.set (S.next+1) [.sl S.next 0 O.length cap,v2,vC]=hb at *
 have kW:IntKind.i64.wrap ((i:Int)+1)=((i+1:Nat):Int):=wrapS aF (by omega);simp only[Z3,seval,-ae,kW];refine zF (λm us h3=>∃(q:Nat) (vL:PV) (cells:List PV),i+(1+q)<=O.length/\m=O.length-(i+(1+q))/\us=[.ptr U.next 0,.int .i64 O.length,.ptr (S.next+1) 0,vL,.int .i64 ((i+(1+q):Nat):Int),.int .i64 O.length,.int .i64 i]/\Keep hb h3/\PAcc hb.next 1 h3 vL q cells/\(q=0->vL=.fz true .nils 0 [])) (O.length-(i+1)) ⟨0,_,[],by omega,rfl,rfl,Keep.refl _,PAcc.nil _ _ _,λ_=>rfl⟩ ?_
 rintro m us h3 ⟨q,vL,cells,hq,rfl,rfl,k3,p3,gH⟩
 have b:=a2.keepI k3;have q2:h3.rd1 (S.next+1) 2=some vC:=by rw[zG b.obj];rfl
 simp only[Z3,seval,-ae];refine iteI (λy7=>?_) λAt=>?_
 .have cG:i+(1+q)<O.length:=by omega
  have e5:IntKind.i64.wrap (((i+(1+q):Nat):Int)+1)=((i+(1+(q+1)):Nat):Int):=by rw[wrap64 (by omega) (by omega)];omega
  simp only[Z3,seval,-ae];refine ZM (by omega) cG λav=>?_;simp only[Z3,seval,-ae];refine PAcc.push (bytes:=24) (σb:=hb) k3 p3 (by omega) (by omega) λv' h4 k4 p4=>?_;simp only[Z3,seval,-ae,e5];exact⟨_,by omega,q+1,v',_,by omega,rfl,rfl,k4,p4.acc,λh=>by omega⟩
 have ln:q=O.length-1-i:=by omega
 have ai:¬S.next+1=h3.next:=by have:=b.p0b.2;omega
 have Bf:=p3.one;have Be:=p3.cells;have CK:hb.next<=h3.next:=k3.next;obtain⟨o,ho,tU⟩:∃o:Option LS,LS.pvo o=vL/\((o=none/\q=0)\/∃s c,o=some ⟨s,c,cells⟩/\cells.length=q/\0<q/\full 1 c q/\h3.obj s=some cells/\hb.next<=s/\s<h3.next):=by
  rcases Nat.eq_zero_or_pos q with e|e
  .exact⟨none,(gH e).symm,.inl ⟨rfl,e⟩⟩
  .obtain⟨s,c,rfl,z1,z2,z3,z4,z5⟩:=p3.pos e;exact⟨some ⟨s,c,cells⟩,by simp only[LS.pvo,LS.pv];rw[show cells.length=q by omega],.inr ⟨s,c,rfl,by omega,e,z1,z2,z4,z5⟩⟩
 subst ho;simp only[Z3,seval,-ae,q2,Bf,Be,ai];refine TI.pushC b ⟨rfl,b.accP.one⟩ (by omega) (λq' e=>?_) λv5 h5 u1 u2 u3 a5 l5=>?_
 .rcases tU with ⟨e1,_⟩|⟨s,c,e1,z0,z1,z2,z3,z4,z5⟩
  .rw[e1]at e;cases e
  .rw[e1]at e;cases e;have j4:=a2.p0b;have fD:=a2.sOb;refine⟨⟨by rw[z0];exact z2,z3,by have:=a2.keep.next;show S.next<=s;omega,z5⟩,λhm=>?_,by show s≠_;omega,by show s≠_;omega,λoff l c' e2=>?_,λoff l c' e2=>?_⟩
   .have:=(a2.lt hm).2
    have:s<hb.next:=this
    omega
   .have:s<hb.next:=zAc a2.accP e2
    omega
   .have:s<hb.next:=zAc a2.accC e2
    omega
 simp only[Z3,seval,-ae,u1,u2,u3,wrapS aF (by omega:O.length<=4611686018427387904)];refine⟨_,by omega,i+1,v2,v5,_,ls++[o],by omega,rfl,rfl,a5,by rw[List.length_append];simp;omega,by rw[List.length_append];simp;omega,ga.snoc (λe=>?_) λe=>?_⟩
 .rcases tU with ⟨e1,_⟩|⟨s,c,e1,z0,z1,z2,z3,z4,z5⟩
  .exact e1
  .omega
 .rcases tU with ⟨e1,e2⟩|⟨s,c,e1,z0,z1,z2,z3,z4,z5⟩
  .omega
  .exact⟨_,e1,by rw[lD];show cells.length=_;omega⟩
variable{H:PHeap}{tp sP sC:Nat}{x:L3}{capP capC cap:Cap}{rows cur:List SR}{Rs:List (List SR)}
structure BF(U H:PHeap)(tp sO sP sC:Nat)(ls:List (Option LS)):Prop where
 b:∀s,s∈[tp,sO,sP,sC]++LS.slots ls->U.next<=s/\s<H.next
 nd:([tp,sO,sP,sC]++LS.slots ls).Nodup
def cont(Rs:List (List SR))(cur:List SR)(j:Nat)(q:LS):List PV:=
 if j<Rs.length then(Rs.getD j []).map SR.pv else if j=Rs.length then cur.map SR.pv++q.cs.drop cur.length else q.cs
structure LI(U H h:PHeap)(tp sO sP sC:Nat)(vO:PV)(capP capC:Cap)(n:Nat)(cO:List PV)(pc:List PV)(ls:List (Option LS))(rows:List SR)(Rs:List (List SR))(cur:List SR):Prop where
 keep:Keep U h
 nx:H.next<=h.next
 tpo:h.obj tp=some [vO,.sl sP 0 n capP,.sl sC 0 n capC]
 oO:h.obj sO=some cO
 oP:h.obj sP=some (rows.map SR.pv++pc.drop rows.length)
 oC:h.obj sC=some (ls.map LS.pvo)
 oL:∀j q,ls[j]? = some (some q)->h.obj q.s=some (cont Rs cur j q)
 ok:∀q,q∈rows\/q∈Rs.flatten\/q∈cur->q.ok h H.next
 nd:(ZR (rows++(Rs.flatten++cur))).Nodup
theorem LS.mem_of_get{j:Nat}{q:LS}(h:ls[j]? = some (some q)):q.s∈LS.slots ls:=LS.mem_slots.2 ⟨q,List.mem_of_getElem? h,rfl⟩
theorem LI.keepI{h2:PHeap}(b:BF U H tp sO sP sC ls)(a:LI U H h tp sO sP sC vO capP capC n cO pc ls rows Rs cur)(k:Keep h h2):LI U H h2 tp sO sP sC vO capP capC n cO pc ls rows Rs cur:=by
 have hn:=a.nx;have o:∀s,s∈[tp,sO,sP,sC]++LS.slots ls->h2.obj s=h.obj s:=λs hs=>k.obj s (by have:=(b.b s hs).2;omega);refine⟨a.keep.trans k,Nat.le_trans a.nx k.next,by rw[o tp (by simp)];exact a.tpo,by rw[o sO (by simp)];exact a.oO,by rw[o sP (by simp)];exact a.oP,by rw[o sC (by simp)];exact a.oC,λj q hq=>?_,λq hq=>(a.ok q hq).keep k,a.nd⟩;rw[o q.s (List.mem_append.2 (.inr (LS.mem_of_get hq)))];exact a.oL j q hq
theorem LS.slots_inj:∀{ls:List (Option LS)} {i j:Nat} {q q':LS},(LS.slots ls).Nodup->ls[i]? = some (some q)->ls[j]? = some (some q')->q.s=q'.s->i=j
 |[],i,j,q,q',_,h,_,_=>by simp at h
 |o::ls,0,0,q,q',_,_,_,_=>rfl
 |none::ls,0,j+1,q,q',_,h,_,_=>by simp at h
 |none::ls,i+1,0,q,q',_,_,h,_=>by simp at h
 |some r::ls,0,j+1,q,q',hn,h,g,e=>by
  simp only[List.getElem?_cons_zero,Option.some.injEq,List.getElem?_cons_succ,LS.slots,List.nodup_cons]at h g hn;subst h;exact absurd (LS.mem_of_get g) (by rw[<-e];exact hn.1)
 |some r::ls,i+1,0,q,q',hn,h,g,e=>by
  simp only[List.getElem?_cons_zero,Option.some.injEq,List.getElem?_cons_succ,LS.slots,List.nodup_cons]at h g hn;subst g;exact absurd (LS.mem_of_get h) (by rw[e];exact hn.1)
 |none::ls,i+1,j+1,q,q',hn,h,g,e=>by have:=LS.slots_inj (ls:=ls) hn (by simpa using h) (by simpa using g) e;omega
 |some r::ls,i+1,j+1,q,q',hn,h,g,e=>by
  simp only[LS.slots,List.nodup_cons]at hn
  have:=LS.slots_inj (ls:=ls) hn.2 (by simpa using h) (by simpa using g) e
  omega
theorem zIJ{a b:List PV}:(a++b).drop (a.length+1)=b.drop 1:=by
 rw[<-List.drop_drop,List.drop_left'];rfl
theorem zBU{q:SR}{s:Nat}{cs:List PV}(a:q.ok h H.next)(hs:s<H.next):q.ok (h.set s cs) H.next:=⟨a.1,by rw[zI,if_neg (by have:=a.2.2.1;omega)];exact a.2.1,a.2.2.1,a.2.2.2⟩
theorem zOn{q:SR}(hq:q∈rows++(Rs.flatten++cur)):q∈rows\/q∈Rs.flatten\/q∈cur:=by
 simpa only[List.mem_append]using hq
theorem LI.fresh(a:LI U H h tp sO sP sC vO capP capC n cO pc ls rows Rs cur):h.next∉ZR (rows++(Rs.flatten++cur)):=λhm=>by
 obtain⟨q,hq,e⟩:=List.mem_map.1 hm
 have:=(a.ok q (zOn hq)).2.2.2
 omega
theorem LI.putP(b:BF U H tp sO sP sC ls)(a:LI U H h tp sO sP sC vO capP capC n cO pc ls rows Rs cur)(hf:full 1 cap x.length)(hl:rows.length<pc.length):
  (h.new (pis x)).wr sP rows.length [.sl h.next 0 x.length cap]=some ((h.new (pis x)).set sP ((rows++[(⟨h.next,cap,x⟩:SR)]).map SR.pv++pc.drop (rows.length+1)))/\
  LI U H ((h.new (pis x)).set sP ((rows++[(⟨h.next,cap,x⟩:SR)]).map SR.pv++pc.drop (rows.length+1))) tp sO sP sC vO capP capC n cO pc ls (rows++[(⟨h.next,cap,x⟩:SR)]) Rs cur:=by
 have a1:=a.keepI b (zD h (pis x));have fJ:=a.nx;have bP:=b.b sP (by simp);have nd:=b.nd;simp only[List.cons_append,List.nil_append,List.nodup_cons,List.mem_cons,not_or]at nd;obtain⟨⟨n1,n2,n3,n4⟩,⟨n5,n6,n7⟩,⟨n8,n9⟩,_⟩:=nd;have ob:=a1.oP;refine⟨?_,a1.keep.set bP.1 _,a1.nx,by rw[zI,if_neg n2];exact a1.tpo,by rw[zI,if_neg n5];exact a1.oO,by rw[zI,if_pos rfl,List.length_append,List.length_singleton],by rw[zI,if_neg (Ne.symm n8)];exact a1.oC,λj q hq=>?_,λq hq=>?_,?_⟩
 .rw[QB ob,if_pos ⟨by simp only[List.length_append,List.length_map,List.length_drop,List.length_singleton];omega,rfl⟩];congr 2;have e1:(rows.map SR.pv++pc.drop rows.length).take rows.length=rows.map SR.pv:=by
   have:(rows.map SR.pv).length=rows.length:=List.length_map _
   rw[<-this,List.take_left'];rfl
  have e2:(rows.map SR.pv++pc.drop rows.length).drop (rows.length+1)=pc.drop (rows.length+1):=by
   have:=zIJ (a:=rows.map SR.pv) (b:=pc.drop rows.length)
   rwa[List.length_map,List.drop_drop]at this
  rw[List.length_singleton,e1,e2,List.map_append];rfl
 .have hm:=LS.mem_of_get hq;rw[zI,if_neg λe=>n9 (by rw[<-e];exact hm)];exact a1.oL j q hq
 .have new:SR.ok (h.new (pis x)) H.next (⟨h.next,cap,x⟩:SR):=⟨hf,by rw[qa,if_pos rfl],fJ,Nat.lt_succ_self _⟩
  rcases hq with hq|hq
  .rcases List.mem_append.1 hq with hq|hq
   .exact zBU (a1.ok q (.inl hq)) bP.2
   .rw[List.mem_singleton.1 hq];exact zBU new bP.2
  .exact zBU (a1.ok q (.inr hq)) bP.2
 .have hp:(ZR ((rows++[(⟨h.next,cap,x⟩:SR)])++(Rs.flatten++cur))).Perm (h.next::ZR (rows++(Rs.flatten++cur))):=by
   simp only[ZR,List.append_assoc,List.map_append,List.map_cons,List.map_nil,List.cons_append,List.nil_append];exact List.perm_middle
  exact hp.nodup_iff.2 (List.nodup_cons.2 ⟨a.fresh,a.nd⟩)
theorem LI.putC{q0:LS}(b:BF U H tp sO sP sC ls)(a:LI U H h tp sO sP sC vO capP capC n cO pc ls rows Rs cur)(hf:full 1 cap x.length)(jo:ls[Rs.length]? = some (some q0))(hl:cur.length<q0.cs.length):
  (h.new (pis x)).wr q0.s cur.length [.sl h.next 0 x.length cap]=some ((h.new (pis x)).set q0.s ((cur++[(⟨h.next,cap,x⟩:SR)]).map SR.pv++q0.cs.drop (cur.length+1)))/\
  LI U H ((h.new (pis x)).set q0.s ((cur++[(⟨h.next,cap,x⟩:SR)]).map SR.pv++q0.cs.drop (cur.length+1))) tp sO sP sC vO capP capC n cO pc ls rows Rs (cur++[(⟨h.next,cap,x⟩:SR)]):=by
 have a1:=a.keepI b (zD h (pis x));have fJ:=a.nx;have mr:=LS.mem_of_get jo;have bP:=b.b q0.s (List.mem_append.2 (.inr mr));have nd:=b.nd;simp only[List.cons_append,List.nil_append,List.nodup_cons,List.mem_cons,not_or]at nd;obtain⟨⟨n1,n2,n3,n4⟩,⟨n5,n6,n7⟩,⟨n8,n9⟩,yi,yh⟩:=nd;have ob:=a1.oL _ _ jo;have hc:cont Rs cur Rs.length q0=cur.map SR.pv++q0.cs.drop cur.length:=by unfold cont;rw[if_neg (Nat.lt_irrefl _),if_pos rfl]
 rw[hc]at ob;refine⟨?_,a1.keep.set bP.1 _,a1.nx,by rw[zI,if_neg λe=>n4 (by rw[e];exact mr)];exact a1.tpo,by rw[zI,if_neg λe=>n7 (by rw[e];exact mr)];exact a1.oO,by rw[zI,if_neg λe=>n9 (by rw[e];exact mr)];exact a1.oP,by rw[zI,if_neg λe=>yi (by rw[e];exact mr)];exact a1.oC,λj q hq=>?_,λq hq=>?_,?_⟩
 .rw[QB ob,if_pos ⟨by simp only[List.length_append,List.length_map,List.length_drop,List.length_singleton];omega,rfl⟩];congr 2;have e1:(cur.map SR.pv++q0.cs.drop cur.length).take cur.length=cur.map SR.pv:=by
   have:(cur.map SR.pv).length=cur.length:=List.length_map _
   rw[<-this,List.take_left'];rfl
  have e2:(cur.map SR.pv++q0.cs.drop cur.length).drop (cur.length+1)=q0.cs.drop (cur.length+1):=by
   have:=zIJ (a:=cur.map SR.pv) (b:=q0.cs.drop cur.length)
   rwa[List.length_map,List.drop_drop]at this
  rw[List.length_singleton,e1,e2,List.map_append];rfl
 .by_cases e:j=Rs.length
  .subst e;rw[jo]at hq;cases hq;rw[zI,if_pos rfl];unfold cont;rw[if_neg (Nat.lt_irrefl _),if_pos rfl,List.length_append,List.length_singleton]
  .have ai:q.s≠q0.s:=λes=>by
    exact e (LS.slots_inj yh hq jo es)
   rw[zI,if_neg ai,a1.oL j q hq];unfold cont;rw[if_neg (show ¬j=Rs.length from e),if_neg (show ¬j=Rs.length from e)]
 .have new:SR.ok (h.new (pis x)) H.next (⟨h.next,cap,x⟩:SR):=⟨hf,by rw[qa,if_pos rfl],fJ,Nat.lt_succ_self _⟩
  rcases hq with hq|hq|hq
  .exact zBU (a1.ok q (.inl hq)) bP.2
  .exact zBU (a1.ok q (.inr (.inl hq))) bP.2
  .rcases List.mem_append.1 hq with hq|hq
   .exact zBU (a1.ok q (.inr (.inr hq))) bP.2
   .rw[List.mem_singleton.1 hq];exact zBU new bP.2
 .have hp:(ZR (rows++(Rs.flatten++(cur++[(⟨h.next,cap,x⟩:SR)])))).Perm (h.next::ZR (rows++(Rs.flatten++cur))):=by
   simp only[ZR,List.map_append,List.map_cons,List.map_nil];rw[<-List.append_assoc,<-List.append_assoc,List.append_assoc (List.map SR.s rows)];exact List.perm_append_singleton _ _
  exact hp.nodup_iff.2 (List.nodup_cons.2 ⟨a.fresh,a.nd⟩)
theorem LI.close(a:LI U H h tp sO sP sC vO capP capC n cO pc ls rows Rs cur)(hl:∀q,ls[Rs.length]? = some (some q)->cur.length=q.cs.length):LI U H h tp sO sP sC vO capP capC n cO pc ls rows (Rs++[cur]) []:=by
 refine⟨a.keep,a.nx,a.tpo,a.oO,a.oP,a.oC,λj q hq=>?_,λq hq=>a.ok q ?_,?_⟩
 .rw[a.oL j q hq];unfold cont;rw[List.length_append,List.length_singleton];rcases Nat.lt_trichotomy j Rs.length with x|x|x
  .rw[if_pos x,if_pos (by omega)];simp[List.getD_eq_getElem?_getD,List.getElem?_append_left x]
  .subst x;rw[if_neg (Nat.lt_irrefl _),if_pos rfl,if_pos (by omega),List.drop_of_length_le (by rw[hl q hq];exact vH _)];simp[List.getD_eq_getElem?_getD]
  .rw[if_neg (by omega),if_neg (by omega),if_neg (by omega)];split<;>simp
 .rcases hq with hq|hq|hq
  .exact .inl hq
  .simp only[List.flatten_append,List.flatten_cons,List.flatten_nil,List.append_nil,List.mem_append]at hq;exact .inr hq
  .cases hq
 .have:=a.nd
  simpa [List.flatten_append]using this
variable{a:Nat->Nat}{b:Nat}{capO:Cap}
def lrT:Option LS->List SR->TR
 |none,_=>.nil
 |some q,R=>TR.rows q.s q.cap R
def Fit1:Option LS->List SR->Prop
 |none,R=>R=[]
 |some q,R=>R.length=q.cs.length
def Fits(ls:List (Option LS))(Rs:List (List SR)):Prop:=All2 Fit1 ls Rs
theorem Fits.tl{o:Option LS}{R:List SR}(h:Fits (o::ls) (R::Rs)):Fit1 o R/\Fits ls Rs:=
 ⟨h.2 0 o R rfl rfl,by have:=h.1;simpa using this,λk a b ha hb=>h.2 (k+1) a b (by simpa using ha) (by simpa using hb)⟩
theorem zHp:∀{ls:List (Option LS)} {Rs:List (List SR)},Fits ls Rs->TR.pvs (List.zipWith lrT ls Rs)=ls.map LS.pvo
 |[],[],_=>rfl
 |[],R::Rs,h=>by have:=h.1;simp at this
 |o::ls,[],h=>by have:=h.1;simp at this
 |none::ls,R::Rs,h=>by
  simp only[List.zipWith_cons_cons,TR.pvs,List.map_cons,zHp h.tl.2];rfl
 |some q::ls,R::Rs,h=>by
  have hl:R.length=q.cs.length:=h.tl.1;simp only[List.zipWith_cons_cons,TR.pvs,List.map_cons,zHp h.tl.2];simp only[lrT,TR.rows,TR.pv,LS.pvo,LS.pv,List.length_map,hl]
theorem zEZ:∀{ls:List (Option LS)} {Rs:List (List SR)},Fits ls Rs->(TR.slotss (List.zipWith lrT ls Rs)).Perm (LS.slots ls++ZR Rs.flatten)
 |[],[],_=>List.Perm.refl _
 |[],R::Rs,h=>by have:=h.1;simp at this
 |o::ls,[],h=>by have:=h.1;simp at this
 |none::ls,R::Rs,h=>by
  have hR:R=[]:=h.tl.1;subst hR;simp only[List.zipWith_cons_cons,TR.slotss,lrT,TR.slots,List.nil_append,List.flatten_cons,LS.slots];exact zEZ h.tl.2
 |some q::ls,R::Rs,h=>by
  have ih:=zEZ h.tl.2;simp only[List.zipWith_cons_cons,TR.slotss,lrT,TR.rows,TR.slots,TR.rows_slots,List.flatten_cons,LS.slots,List.cons_append];refine List.Perm.cons _ ?_;have e:ZR (R++Rs.flatten)=ZR R++ZR Rs.flatten:=by simp[ZR]
  rw[e];refine((ih.append_left (ZR R)).trans ?_);rw[<-List.append_assoc,<-List.append_assoc];exact List.perm_append_comm.append_right _
theorem zM2:∀{ls:List (Option LS)} {Rs:List (List SR)},(∀(j:Nat) (o:Option LS) (R:List SR),ls[j]? = some o->Rs[j]? = some R->(lrT o R).ok h b)->TR.oks h b (List.zipWith lrT ls Rs)
 |[],_,_=>trivial
 |o::ls,[],_=>trivial
 |o::ls,R::Rs,k=>⟨k 0 o R rfl rfl,zM2 λj o' R' h1 h2=>k (j+1) o' R' (by simpa using h1) (by simpa using h2)⟩
theorem zKJ:∀{ls:List (Option LS)} {Rs:List (List SR)},Fits ls Rs->All2 FII (TR.fzs a (List.zipWith lrT ls Rs)) (Rs.map λR=>R.map SR.x)
 |[],[],_=>All2.nil _
 |[],R::Rs,h=>by have:=h.1;simp at this
 |o::ls,[],h=>by have:=h.1;simp at this
 |o::ls,R::Rs,h=>by
  have ih:=zKJ h.tl.2;refine⟨by simp only[List.zipWith_cons_cons,TR.fzs,List.map_cons,List.length_cons,ih.1],λk c y hc hy=>?_⟩;cases k with
  |zero=>
   simp only[List.zipWith_cons_cons,TR.fzs,List.map_cons,List.getElem?_cons_zero,Option.some.injEq]at hc hy;rw[<-hc,<-hy];cases o with
   |none=>
    have hR:R=[]:=h.tl.1;subst hR;exact⟨true,.nils,[],rfl,All2.nil _⟩
   |some q=>exact TR.rows_FII
  |succ k=>
   simp only[List.zipWith_cons_cons,TR.fzs,List.map_cons,List.getElem?_cons_succ]at hc hy;exact ih.2 k c y hc hy
theorem LI.fin{σ0 T:PHeap}{Y:List PV}{res:Nat}(hT:Keep σ0 T)(cb:σ0.next<=res/\res<T.next)(Bb:full 1 capO O.length)(A9:full 1 capP rows.length)(Bm:full 1 capC Rs.length)(Ck:pc.length=rows.length)
  (pb:∀q,some q∈ls->full 1 q.cap q.cs.length) (bf:BF T H tp sO sP sC ls) (l:LI T H h tp sO sP sC vO capP capC n (pis O) pc ls rows Rs []) (hf:Fits ls Rs)
  (hk:∀vO vQ vC t,FI vO O->FII vQ (rows.map SR.x)->FIII vC (Rs.map λR=>R.map SR.x)->Own σ0.top t (.agg [vO,vQ,vC])->σ0.top<=t->K (.agg [vO,vQ,vC]) (σ0.up t)):
  Gh σ0 K (.agg [.sl sO 0 O.length capO,.sl sP 0 rows.length capP,.sl sC 0 Rs.length capC]) (h.set res Y):=by
 have iR:=hT.next;have bO:=bf.b sO (by simp);have bP:=bf.b sP (by simp);have bC:=bf.b sC (by simp);have ns:=l.nx;have hlen:ls.length=Rs.length:=hf.1;have dT:(List.zipWith lrT ls Rs).length=Rs.length:=by rw[List.length_zipWith];omega
 have e:(TR.agg [TR.row sO capO O,TR.rows sP capP rows,.lst sC capC (List.zipWith lrT ls Rs)]).pv=.agg [.sl sO 0 O.length capO,.sl sP 0 rows.length capP,.sl sC 0 Rs.length capC]:=by
  simp only[TR.pv,TR.pvs,TR.row_pv,TR.rows,List.length_map,dT]
 rw[<-e];have ob:∀s,s≠res->(h.set res Y).obj s=h.obj s:=λs hs=>by rw[zI,if_neg hs]
 have rok:∀q:SR,q.ok h H.next->q.ok (h.set res Y) σ0.next:=λq ⟨g1,g2,g3,g4⟩=>⟨g1,by rw[ob _ (by have:=(bf.b sO (by simp));omega)];exact g2,by have:=(bf.b sO (by simp));omega,g4⟩
 have yd:∀q∈rows,q.ok (h.set res Y) σ0.next:=λq hq=>rok q (l.ok q (.inl hq));refine Gh.treeO ((hT.trans l.keep).set cb.1 _) ⟨TR.row_ok Bb (by rw[ob _ (by omega)];exact l.oO) (by omega) (by show sO<h.next;omega),TR.rows_ok A9 (by rw[ob _ (by omega),l.oP,List.drop_of_length_le (by omega),List.append_nil]) (by omega) (by show sP<h.next;omega) yd,⟨⟨by rw[dT];exact Bm,by rw[ob _ (by omega),l.oC,zHp hf],by omega,by show sC<h.next;omega⟩,zM2 λj o R ho hR=>?_⟩,trivial⟩ ?_ λa T' g1 g2=>?_
 .cases o with
  |none=>trivial
  |some q=>
   have hm:=LS.mem_of_get ho;have bq:=bf.b q.s (List.mem_append.2 (.inr hm));have lL:R.length=q.cs.length:=hf.2 j _ _ ho hR;obtain⟨hj,iZ⟩:=List.getElem?_eq_some_iff.1 hR;refine TR.rows_ok (by rw[lL];exact pb q (List.mem_of_getElem? ho)) ?_ (by omega) (by show q.s<h.next;omega) λq' cG=>rok q' (l.ok q' (.inr (.inl (List.mem_flatten.2 ⟨R,List.mem_of_getElem? hR,cG⟩))));rw[ob _ (by omega),l.oL j q ho];unfold cont;rw[if_pos hj,List.getD_eq_getElem?_getD,hR];rfl
 .have nd:=bf.nd;have nr:=l.nd;rw[List.append_nil]at nr;have hp:((TR.agg [TR.row sO capO O,TR.rows sP capP rows,.lst sC capC (List.zipWith lrT ls Rs)]).slots).Perm (([sO,sP,sC]++LS.slots ls)++ZR (rows++Rs.flatten)):=by
   have e2:ZR (rows++Rs.flatten)=ZR rows++ZR Rs.flatten:=by simp[ZR]
   simp only[TR.slots,TR.slotss,TR.row_slots,TR.rows,TR.rows_slots,List.append_nil,List.cons_append,List.nil_append,e2];refine List.Perm.cons _ (List.Perm.cons _ ?_);have h3:=(zEZ hf).cons sC |>.append_left (ZR rows);refine h3.trans ?_;simp only[<-List.cons_append];rw[<-List.append_assoc,<-List.append_assoc];exact List.perm_append_comm.append_right _
  refine hp.nodup_iff.2 (List.nodup_append.2 ⟨?_,nr,λx hx y hy e=>?_⟩)
  .simp only[List.cons_append,List.nil_append,List.nodup_cons]at nd ⊢;exact nd.2
  .have h1:=(bf.b x (by simp only[List.cons_append,List.nil_append,List.mem_cons]at hx ⊢;exact .inr hx)).2;obtain⟨q,hq,e3⟩:=List.mem_map.1 hy;have h2:=(l.ok q (by rcases List.mem_append.1 hq with hq|hq;exact .inl hq;exact .inr (.inl hq))).2.2.1;omega
 .exact hk _ _ _ T' TR.row_FI TR.rows_FII ⟨true,.sl (a sC) 0 Rs.length capC,TR.fzs a (List.zipWith lrT ls Rs),by simp only[TR.fz,dT,List.length_map],zKJ hf⟩ g1 g2
end Go.Proofs
namespace Go.Proofs
open Go.Ab Go.Lie
variable{p:Int}{n:Nat}{W:L4}{B:L5}{c k:Nat}{f g h:Vec}
theorem zAg(f g g':Vec)(t:Nat):brv B n f (λj=>g j+g' j) t=brv B n f g t+brv B n f g' t:=by
 rw[zl,QN,zl g f,zl g' f];grind
theorem zLe(f g:Vec)(t:Nat):brv B n f g t=sumN n λk=>f k*brv B n (at_ (unitL n k)) g t:=by
 rw[zl,zB0 f g,<-Z4];refine qo λk hk=>?_;rw[zl g (at_ (unitL n k))];grind
theorem QZ{f f' g g':Vec}(h:∀j,f j=f' j)(h':∀j,g j=g' j)(t:Nat):brv B n f g t=brv B n f' g' t:=zAx (λj _=>h j) (λj _=>h' j) t
def jac(B:L5)(n:Nat)(f g h:Vec):Vec:=λt=>brv B n (brv B n f g) h t+brv B n (brv B n g h) f t+brv B n (brv B n h f) g t
theorem zKL(f g h:Vec)(t:Nat):jac B n f g h t=jac B n g h f t:=by
 simp only[jac];omega
theorem zEn(f g h:Vec)(t:Nat):brv B n (brv B n f g) h t=-1*brv B n (brv B n g f) h t:=by
 rw[QZ (f':=λj=>-1*brv B n g f j) (g':=h) (λj=>zl f g j) (λ_=>rfl),ZC]
theorem zHw(f g h:Vec)(t:Nat):jac B n f g h t=-1*jac B n g f h t:=by
 simp only[jac];rw[zEn f g,zEn g h,zEn h f];omega
theorem zOw(f h:Vec)(t:Nat):jac B n f f h t=0:=by
 have:=zHw (B:=B) (n:=n) f f h t
 omega
theorem zQl(f g h:Vec)(t:Nat):jac B n f g h t=sumN n λk=>f k*jac B n (at_ (unitL n k)) g h t:=by
 simp only[jac];rw[QZ (f':=λj=>sumN n λk=>f k*brv B n (at_ (unitL n k)) g j) (g':=h) (λj=>zLe f g j) (λ_=>rfl),zBN (t:=t) (g:=h) n (λk j=>f k*brv B n (at_ (unitL n k)) g j),
  zB0 f (brv B n g h),QZ (f':=λj=>sumN n λk=>f k*brv B n h (at_ (unitL n k)) j) (g':=g) (λj=>zB0 f h j) (λ_=>rfl),zBN (t:=t) (g:=g) n (λk j=>f k*brv B n h (at_ (unitL n k)) j),<-Qp,<-Qp]
 refine qo λk hk=>?_;rw[ZC,ZC];grind
theorem zHx(hu:∀k,k<n->Eqv p n W (jac B n (at_ (unitL n k)) g h) λ_=>0):Eqv p n W (jac B n f g h) λ_=>0:=
 (Eqv.of_eq λt=>zQl f g h t).trans (zCn n (λk t=>f k*jac B n (at_ (unitL n k)) g h t) λk hk=>((hu k hk).mul (f k)).trans (Eqv.of_eq λt=>by grind))
theorem zAe(o:OkW p n W)(q:OkB p n B)(nf:Zl p W B n){i j k:Nat}(jB:i<j)(nh:j<k)(hk:k<n):Eqv p n W (jac B n (at_ (unitL n i)) (at_ (unitL n j)) (at_ (unitL n k))) λ_=>0:=by
 have h:=nf.2 i j k jB nh hk;unfold F2 at h;have e:∀a b c:L3,Eqv p n W (at_ (br p W B n (br p W B n a b) c)) (brv B n (brv B n (at_ a) (at_ b)) (at_ c)):=λa b c=>(QO o q _ _).trans (zBO o q nf _ (QO o q a b));have ev2:=(((Zd o (zH o (br_el o q) (br_el o q)) (br_el o q)).symm.trans (Eqv.of_eq (Zu h))));refine Eqv.trans ?_ ev2;refine(Eqv.of_eq λt=>rfl).trans (Eqv.add (Eqv.trans ?_ (Zd o (br_el o q) (br_el o q)).symm) (e _ _ _).symm);exact Eqv.add (e _ _ _).symm (e _ _ _).symm
theorem zNH(o:OkW p n W)(q:OkB p n B)(nf:Zl p W B n){i j k:Nat}(hi:i<n)(hj:j<n)(hk:k<n):Eqv p n W (jac B n (at_ (unitL n i)) (at_ (unitL n j)) (at_ (unitL n k))) λ_=>0:=by
 have fT:∀{a b c:Vec},Eqv p n W (jac B n b c a) (λ_=>0)->Eqv p n W (jac B n a b c) λ_=>0:=λh=>(Eqv.of_eq λt=>zKL _ _ _ t).trans h;have swp:∀{a b c:Vec},Eqv p n W (jac B n b a c) (λ_=>0)->Eqv p n W (jac B n a b c) λ_=>0:=λh=>(Eqv.of_eq λt=>zHw _ _ _ t).trans ((h.mul (-1)).trans (Eqv.of_eq λt=>rfl));have nA:∀{a c:Vec},Eqv p n W (jac B n a a c) (λ_=>0):=Eqv.of_eq λt=>zOw _ _ t;rcases Nat.lt_trichotomy i j with h1|rfl|h1
 .rcases Nat.lt_trichotomy j k with h2|rfl|h2
  .exact zAe o q nf h1 h2 hk
  .exact fT nA
  .rcases Nat.lt_trichotomy i k with h3|rfl|h3
   .exact fT (swp (fT (fT (zAe o q nf h3 h2 hj))))
   .exact fT (fT nA)
   .exact fT (fT (zAe o q nf h3 h1 hj))
 .exact nA
 .rcases Nat.lt_trichotomy j k with h2|rfl|h2
  .rcases Nat.lt_trichotomy i k with h3|rfl|h3
   .exact swp (zAe o q nf h1 h3 hk)
   .exact fT (fT nA)
   .exact fT (zAe o q nf h2 h3 hi)
  .exact fT nA
  .exact swp (fT (fT (zAe o q nf h2 h1 hi)))
theorem zHv(o:OkW p n W)(q:OkB p n B)(nf:Zl p W B n)(f g h:Vec):Eqv p n W (jac B n f g h) λ_=>0:=by
 have fT:∀{a b c:Vec},Eqv p n W (jac B n b c a) (λ_=>0)->Eqv p n W (jac B n a b c) λ_=>0:=λh=>(Eqv.of_eq λt=>zKL _ _ _ t).trans h;refine zHx λi hi=>fT (zHx λj hj=>fT (zHx λk hk=>fT ?_));exact zNH o q nf hi hj hk
theorem Rg.brk3(r:Rg p n W B c)(hh:Lw p n W B k h)(f g:Vec):Lw p n W B (k+2) (brv B n (brv B n f g) h):=by
 have h1:=r.brk2 (r.brk2 hh g) f;have h2:=r.brk2 (r.brk2 hh f) g;refine(r.sub _).eqv _ _ ?_ ((r.sub _).add _ _ h1 ((r.sub _).mul (-1) _ h2));have h0:=zHv r.o r.q r.nf f g h;refine(Eqv.of_eq λt=>?_).trans ((((Eqv.refl (λt=>brv B n f (brv B n g h) t + -1*brv B n g (brv B n f h) t)).add h0)).trans (Eqv.of_eq λt=>by omega));simp only[jac];have ev1:=zl (B:=B) (n:=n) (brv B n g h) f t;have ev2:=zl (B:=B) (n:=n) (brv B n h f) g t;have ev3:brv B n g (brv B n h f) t=-1*brv B n g (brv B n f h) t:=by
  rw[QZ (f':=g) (g':=λj=>-1*brv B n f h j) (λ_=>rfl) (λj=>zl h f j),QY]
 omega
section
variable{X Y Z:Vec}
def ev1(X Y Z:Vec)(a:L3):Vec:=λt=>at_ a 0*X t+at_ a 1*Y t+at_ a 2*Z t
def ev2(B:L5)(n:Nat)(X Y Z:Vec)(a:L3):Vec:=λt=>at_ a 3*brv B n X Y t+at_ a 4*brv B n X Z t+at_ a 5*brv B n Y Z t
def ev3(B:L5)(n:Nat)(X Y Z:Vec)(a:L3):Vec:=λt=>
 at_ a 6*brv B n X (brv B n X Y) t+at_ a 7*brv B n Y (brv B n X Y) t+at_ a 8*brv B n Z (brv B n X Y) t+at_ a 9*brv B n X (brv B n X Z) t
 + at_ a 10*brv B n Y (brv B n X Z) t+at_ a 11*brv B n Z (brv B n X Z) t+at_ a 12*brv B n Y (brv B n Y Z) t+at_ a 13*brv B n Z (brv B n Y Z) t
def evv(B:L5)(n:Nat)(X Y Z:Vec)(a:L3):Vec:=λt=>ev1 X Y Z a t+(ev2 B n X Y Z a t+ev3 B n X Y Z a t)
def tbl(a b:L3):L3:=
  [0,0,0,at_ a 0*at_ b 1-at_ a 1*at_ b 0,at_ a 0*at_ b 2-at_ a 2*at_ b 0,at_ a 1*at_ b 2-at_ a 2*at_ b 1,
   at_ a 0*at_ b 3-at_ b 0*at_ a 3,at_ a 1*at_ b 3-at_ b 1*at_ a 3,at_ a 2*at_ b 3-at_ a 0*at_ b 5-(at_ b 2*at_ a 3-at_ b 0*at_ a 5),
   at_ a 0*at_ b 4-at_ b 0*at_ a 4,at_ a 1*at_ b 4+at_ a 0*at_ b 5-(at_ b 1*at_ a 4+at_ b 0*at_ a 5),at_ a 2*at_ b 4-at_ b 2*at_ a 4,
   at_ a 1*at_ b 5-at_ b 1*at_ a 5,at_ a 2*at_ b 5-at_ b 2*at_ a 5]
theorem zDY(a b:L3):at_ (tbl a b) 0=0/\at_ (tbl a b) 1=0/\at_ (tbl a b) 2=0/\at_ (tbl a b) 3=at_ a 0*at_ b 1-at_ a 1*at_ b 0/\at_ (tbl a b) 4=at_ a 0*at_ b 2-at_ a 2*at_ b 0
  /\at_ (tbl a b) 5=at_ a 1*at_ b 2-at_ a 2*at_ b 1/\at_ (tbl a b) 6=at_ a 0*at_ b 3-at_ b 0*at_ a 3/\at_ (tbl a b) 7=at_ a 1*at_ b 3-at_ b 1*at_ a 3
  /\at_ (tbl a b) 8=at_ a 2*at_ b 3-at_ a 0*at_ b 5-(at_ b 2*at_ a 3-at_ b 0*at_ a 5)/\at_ (tbl a b) 9=at_ a 0*at_ b 4-at_ b 0*at_ a 4
  /\at_ (tbl a b) 10=at_ a 1*at_ b 4+at_ a 0*at_ b 5-(at_ b 1*at_ a 4+at_ b 0*at_ a 5)/\at_ (tbl a b) 11=at_ a 2*at_ b 4-at_ b 2*at_ a 4
  /\at_ (tbl a b) 12=at_ a 1*at_ b 5-at_ b 1*at_ a 5/\at_ (tbl a b) 13=at_ a 2*at_ b 5-at_ b 2*at_ a 5:=⟨rfl,rfl,rfl,rfl,rfl,rfl,rfl,rfl,rfl,rfl,rfl,rfl,rfl,rfl⟩
theorem zNa(a:L3)(g:Vec)(t:Nat):brv B n (ev1 X Y Z a) g t=at_ a 0*brv B n X g t+at_ a 1*brv B n Y g t+at_ a 2*brv B n Z g t:=by
 unfold ev1;rw[QN,QN,ZC,ZC,ZC]
theorem zR6(a:L3)(g:Vec)(t:Nat):brv B n g (ev1 X Y Z a) t=at_ a 0*brv B n g X t+at_ a 1*brv B n g Y t+at_ a 2*brv B n g Z t:=by
 unfold ev1;rw[zAg,zAg,QY,QY,QY]
theorem zR5(a:L3)(g:Vec)(t:Nat):brv B n g (ev2 B n X Y Z a) t=at_ a 3*brv B n g (brv B n X Y) t+at_ a 4*brv B n g (brv B n X Z) t+at_ a 5*brv B n g (brv B n Y Z) t:=by
 unfold ev2;rw[zAg,zAg,QY,QY,QY]
theorem zR0(a:L3)(g:Vec)(t:Nat):brv B n (ev2 B n X Y Z a) g t=at_ a 3*brv B n (brv B n X Y) g t+at_ a 4*brv B n (brv B n X Z) g t+at_ a 5*brv B n (brv B n Y Z) g t:=by
 unfold ev2;rw[QN,QN,ZC,ZC,ZC]
theorem br11(a b:L3)(t:Nat):brv B n (ev1 X Y Z a) (ev1 X Y Z b) t=ev2 B n X Y Z (tbl a b) t:=by
 simp only[zNa,zR6,zIS,zl (B:=B) (n:=n) Y X,zl (B:=B) (n:=n) Z X,zl (B:=B) (n:=n) Z Y,ev2];obtain⟨_,_,_,h3,h4,h5,_⟩:=zDY a b;rw[h3,h4,h5];grind
theorem br123(a b:L3)(t:Nat):brv B n (ev1 X Y Z a) (ev2 B n X Y Z b) t+brv B n (ev2 B n X Y Z a) (ev1 X Y Z b) t
  = ev3 B n X Y Z (tbl a b) t+(at_ b 0*at_ a 5-at_ a 0*at_ b 5)*jac B n Z X Y t:=by
 rw[zl (ev2 B n X Y Z a)];simp only[zNa,zR5,ev3,jac];obtain⟨_,_,_,_,_,_,h6,h7,h8,h9,nv,vA,nu,vw⟩:=zDY a b;rw[h6,h7,h8,h9,nv,vA,nu,vw,zl (brv B n Z X),zl (brv B n X Y),zl (brv B n Y Z),
  QZ (f:=Y) (f':=Y) (g':=λj=>-1*brv B n X Z j) (λ_=>rfl) (λj=>zl Z X j),QY]
 grind
theorem Rg.e1_lw(r:Rg p n W B c)(hX:Lw p n W B 0 X)(hY:Lw p n W B 0 Y)(hZ:Lw p n W B 0 Z)(a:L3):Lw p n W B 0 (ev1 X Y Z a):=
 (r.sub 0).add _ _ ((r.sub 0).add _ _ ((r.sub 0).mul _ _ hX) ((r.sub 0).mul _ _ hY)) ((r.sub 0).mul _ _ hZ)
theorem Rg.e2_lw(r:Rg p n W B c)(hY:Lw p n W B 0 Y)(hZ:Lw p n W B 0 Z)(a:L3):Lw p n W B 1 (ev2 B n X Y Z a):=
 (r.sub 1).add _ _ ((r.sub 1).add _ _ ((r.sub 1).mul _ _ (r.brk2 hY _)) ((r.sub 1).mul _ _ (r.brk2 hZ _))) ((r.sub 1).mul _ _ (r.brk2 hZ _))
theorem Rg.e3_lw(r:Rg p n W B c)(hY:Lw p n W B 0 Y)(hZ:Lw p n W B 0 Z)(a:L3):Lw p n W B 2 (ev3 B n X Y Z a):=by
 have b2:∀{e f g:Vec},Lw p n W B 0 g->Lw p n W B 2 (brv B n e (brv B n f g)):=λh=>r.brk2 (r.brk2 h _) _;have s:=r.sub 2;exact s.add _ _ (s.add _ _ (s.add _ _ (s.add _ _ (s.add _ _ (s.add _ _ (s.add _ _ (s.mul _ _ (b2 hY)) (s.mul _ _ (b2 hY))) (s.mul _ _ (b2 hY))) (s.mul _ _ (b2 hZ))) (s.mul _ _ (b2 hZ))) (s.mul _ _ (b2 hZ))) (s.mul _ _ (b2 hZ))) (s.mul _ _ (b2 hZ))
theorem Rg.evv_brv(r:Rg p n W B c)(hc:c<=3)(hX:Lw p n W B 0 X)(hY:Lw p n W B 0 Y)(hZ:Lw p n W B 0 Z)(a b:L3):
  Eqv p n W (brv B n (evv B n X Y Z a) (evv B n X Y Z b)) (evv B n X Y Z (tbl a b)):=by
 have s:=λk=>r.sub k;have l1:=λa=>r.e1_lw hX hY hZ a;have l2:=λa=>r.e2_lw (X:=X) hY hZ a;have l3:=λa=>r.e3_lw (X:=X) hY hZ a;have z3:∀{f:Vec},Lw p n W B 3 f->Eqv p n W f λ_=>0:=λh=>r.top hc h;have y1:Eqv p n W (brv B n (ev3 B n X Y Z a) (evv B n X Y Z b)) λ_=>0:=z3 (r.brk (l3 a) _);have y2:Eqv p n W (brv B n (ev1 X Y Z a) (ev3 B n X Y Z b)) λ_=>0:=z3 (r.brk2 (l3 b) _);have y4:Eqv p n W (brv B n (ev2 B n X Y Z a) (λj=>ev2 B n X Y Z b j+ev3 B n X Y Z b j)) λ_=>0:=by
  have hl:Lw p n W B 1 (λj=>ev2 B n X Y Z b j+ev3 B n X Y Z b j):=(s 1).add _ _ (l2 b) (r.down (l3 b));refine z3 ((s 3).eqv _ _ (Eqv.of_eq λt=>zR0 a _ t) ?_);exact(s 3).add _ _ ((s 3).add _ _ ((s 3).mul _ _ (r.brk3 hl _ _)) ((s 3).mul _ _ (r.brk3 hl _ _))) ((s 3).mul _ _ (r.brk3 hl _ _))
 have yj:=(zHv r.o r.q r.nf Z X Y).mul (at_ b 0*at_ a 5-at_ a 0*at_ b 5);have all:=((y1.add y2).add y4).add yj;refine(Eqv.of_eq λt=>?_).trans (((Eqv.refl (evv B n X Y Z (tbl a b))).add all).trans (Eqv.of_eq λt=>by simp));have q1:=br11 (B:=B) (n:=n) (X:=X) (Y:=Y) (Z:=Z) a b t;have q2:=br123 (B:=B) (n:=n) (X:=X) (Y:=Y) (Z:=Z) a b t;have q3:brv B n (evv B n X Y Z a) (evv B n X Y Z b) t=brv B n (ev1 X Y Z a) (evv B n X Y Z b) t+(brv B n (ev2 B n X Y Z a) (evv B n X Y Z b) t+brv B n (ev3 B n X Y Z a) (evv B n X Y Z b) t):=by
  rw[show evv B n X Y Z a=λj=>ev1 X Y Z a j+(λj=>ev2 B n X Y Z a j+ev3 B n X Y Z a j) j from rfl,QN,QN]
 have q4:∀f:Vec,brv B n f (evv B n X Y Z b) t=brv B n f (ev1 X Y Z b) t+brv B n f (λj=>ev2 B n X Y Z b j+ev3 B n X Y Z b j) t:=λf=>by
  rw[show evv B n X Y Z b=λj=>ev1 X Y Z b j+(λj=>ev2 B n X Y Z b j+ev3 B n X Y Z b j) j from rfl,zAg]
 have q5:∀f:Vec,brv B n f (λj=>ev2 B n X Y Z b j+ev3 B n X Y Z b j) t=brv B n f (ev2 B n X Y Z b) t+brv B n f (ev3 B n X Y Z b) t:=λf=>zAg _ _ _ t;have q6:=q4 (ev1 X Y Z a);have q7:=q4 (ev2 B n X Y Z a);have q8:=q5 (ev1 X Y Z a);have q9:ev1 X Y Z (tbl a b) t=0:=by
  obtain⟨h0,h1,h2,_⟩:=zDY a b;simp only[ev1];rw[h0,h1,h2];omega
 have B4:evv B n X Y Z (tbl a b) t=ev1 X Y Z (tbl a b) t+(ev2 B n X Y Z (tbl a b) t+ev3 B n X Y Z (tbl a b) t):=rfl;omega
end
end Go.Proofs
namespace Go.Proofs
open Go.Ab Go.Lie
variable{p:Int}{n m:Nat}{W:L4}{B:L5}{c:Nat}{X Y Z:Vec}{a b:L3}{x y:L3}
def kadd(a b:L3):L3:=[at_ a 0+at_ b 0,at_ a 1+at_ b 1,at_ a 2+at_ b 2,at_ a 3+at_ b 3,at_ a 4+at_ b 4,at_ a 5+at_ b 5,at_ a 6+at_ b 6,at_ a 7+at_ b 7,at_ a 8+at_ b 8,at_ a 9+at_ b 9,at_ a 10+at_ b 10,at_ a 11+at_ b 11,at_ a 12+at_ b 12,at_ a 13+at_ b 13]
def kmul(k:Int)(a:L3):L3:=[k*at_ a 0,k*at_ a 1,k*at_ a 2,k*at_ a 3,k*at_ a 4,k*at_ a 5,k*at_ a 6,k*at_ a 7,k*at_ a 8,k*at_ a 9,k*at_ a 10,k*at_ a 11,k*at_ a 12,k*at_ a 13]
def kdiv(a:L3)(k:Int):L3:=[at_ a 0 / k,at_ a 1 / k,at_ a 2 / k,at_ a 3 / k,at_ a 4 / k,at_ a 5 / k,at_ a 6 / k,at_ a 7 / k,at_ a 8 / k,at_ a 9 / k,at_ a 10 / k,at_ a 11 / k,at_ a 12 / k,at_ a 13 / k]
theorem at_lt{f:Nat->Int}{l:L3}(h0:at_ l 0=f 0/\at_ l 1=f 1/\at_ l 2=f 2/\at_ l 3=f 3/\at_ l 4=f 4/\at_ l 5=f 5/\at_ l 6=f 6/\at_ l 7=f 7/\at_ l 8=f 8/\at_ l 9=f 9/\at_ l 10=f 10/\at_ l 11=f 11/\at_ l 12=f 12/\at_ l 13=f 13):∀i,i<14->at_ l i=f i:=λi hi=>by
 obtain⟨h0,h1,h2,h3,h4,h5,h6,h7,h8,h9,nv,vA,nu,vw⟩:=h0
 match i,hi with
 |0,_=>exact h0
 |1,_=>exact h1
 |2,_=>exact h2
 |3,_=>exact h3
 |4,_=>exact h4
 |5,_=>exact h5
 |6,_=>exact h6
 |7,_=>exact h7
 |8,_=>exact h8
 |9,_=>exact h9
 |10,_=>exact nv
 |11,_=>exact vA
 |12,_=>exact nu
 |13,_=>exact vw
theorem zKZ(a b:L3):∀i,i<14->at_ (kadd a b) i=at_ a i+at_ b i:=at_lt (f:=λi=>at_ a i+at_ b i) ⟨rfl,rfl,rfl,rfl,rfl,rfl,rfl,rfl,rfl,rfl,rfl,rfl,rfl,rfl⟩
theorem zGH(k:Int)(a:L3):∀i,i<14->at_ (kmul k a) i=k*at_ a i:=at_lt (f:=λi=>k*at_ a i) ⟨rfl,rfl,rfl,rfl,rfl,rfl,rfl,rfl,rfl,rfl,rfl,rfl,rfl,rfl⟩
theorem zGI(k:Int)(a:L3):∀i,i<14->at_ (kdiv a k) i=at_ a i / k:=at_lt (f:=λi=>at_ a i / k) ⟨rfl,rfl,rfl,rfl,rfl,rfl,rfl,rfl,rfl,rfl,rfl,rfl,rfl,rfl⟩
theorem zQv(t:Nat):evv B n X Y Z (kadd a b) t=evv B n X Y Z a t+evv B n X Y Z b t:=by
 have h:=zKZ a b;simp only[evv,ev1,ev2,ev3];rw[h 0 (by omega),h 1 (by omega),h 2 (by omega),h 3 (by omega),h 4 (by omega),h 5 (by omega),h 6 (by omega),h 7 (by omega),h 8 (by omega),h 9 (by omega),h 10 (by omega),h 11 (by omega),h 12 (by omega),h 13 (by omega)];grind
theorem zKQ(k:Int)(t:Nat):evv B n X Y Z (kmul k a) t=k*evv B n X Y Z a t:=by
 have h:=zGH k a;simp only[evv,ev1,ev2,ev3];rw[h 0 (by omega),h 1 (by omega),h 2 (by omega),h 3 (by omega),h 4 (by omega),h 5 (by omega),h 6 (by omega),h 7 (by omega),h 8 (by omega),h 9 (by omega),h 10 (by omega),h 11 (by omega),h 12 (by omega),h 13 (by omega)];grind
structure Md(p:Int)(c m:Nat):Prop where
 c3:c<=3
 cut:m=14\/(m=6/\c<=2)\/(m=3/\c<=1)
 d2:m<=3\/(Cop p 2/\Cop p (-2))
 d12:m<=6\/(Cop p 12/\Cop p (-12))
structure Cx(p:Int)(n:Nat)(W:L4)(B:L5)(c m:Nat)(X Y Z:Vec):Prop where
 z:Lz p n W B c
 md:Md p c m
 x:Lw p n W B 0 X
 y:Lw p n W B 0 Y
 w:Lw p n W B 0 Z
structure EV(p:Int)(n:Nat)(W:L4)(B:L5)(X Y Z:Vec)(a x:L3):Prop where
 el:El p n x
 eqv:Eqv p n W (at_ x) (evv B n X Y Z a)
theorem Cx.cut(k:Cx p n W B c m X Y Z)(h:∀i,i<m->at_ a i=at_ b i):Eqv p n W (evv B n X Y Z a) (evv B n X Y Z b):=by
 have r:=k.z.r;rcases k.md.cut with rfl|⟨rfl,hc⟩|⟨rfl,hc⟩
 .refine Eqv.of_eq λt=>?_;simp only[evv,ev1,ev2,ev3];rw[h 0 (by omega),h 1 (by omega),h 2 (by omega),h 3 (by omega),h 4 (by omega),h 5 (by omega),h 6 (by omega),h 7 (by omega),h 8 (by omega),h 9 (by omega),h 10 (by omega),h 11 (by omega),h 12 (by omega),h 13 (by omega)]
 .have h3:∀a,Eqv p n W (ev3 B n X Y Z a) λ_=>0:=λa=>r.top hc (r.e3_lw k.y k.w a);refine(((Eqv.refl (ev1 X Y Z a)).add ((Eqv.refl (ev2 B n X Y Z a)).add (h3 a))).trans (Eqv.of_eq λt=>?_)).trans ((Eqv.refl (ev1 X Y Z b)).add ((Eqv.refl (ev2 B n X Y Z b)).add (h3 b))).symm;simp only[ev1,ev2];rw[h 0 (by omega),h 1 (by omega),h 2 (by omega),h 3 (by omega),h 4 (by omega),h 5 (by omega)]
 .have h3:∀a,Eqv p n W (ev3 B n X Y Z a) λ_=>0:=λa=>r.top (by omega) (r.e3_lw k.y k.w a);have h2:∀a,Eqv p n W (ev2 B n X Y Z a) λ_=>0:=λa=>r.top (by omega) (r.e2_lw k.y k.w a);refine(((Eqv.refl (ev1 X Y Z a)).add ((h2 a).add (h3 a))).trans (Eqv.of_eq λt=>?_)).trans ((Eqv.refl (ev1 X Y Z b)).add ((h2 b).add (h3 b))).symm;simp only[ev1];rw[h 0 (by omega),h 1 (by omega),h 2 (by omega)]
theorem zRu(k:Cx p n W B c m X Y Z)(a:L3):Lw p n W B 0 (evv B n X Y Z a):=
 (k.z.r.sub 0).add _ _ (k.z.r.e1_lw k.x k.y k.w a) ((k.z.r.sub 0).add _ _ (k.z.r.le (by omega) (k.z.r.e2_lw k.y k.w a)) (k.z.r.le (by omega) (k.z.r.e3_lw k.y k.w a)))
theorem zRv(k:Cx p n W B c m X Y Z)(a:L3):∃z,EV p n W B X Y Z a z:=by
 obtain⟨u,hu,hg⟩:=zRu k a;obtain⟨z,h1,h2,_⟩:=zKN k.z.r.o (hu.els k.z.r.o).1 hg;exact⟨z,h1,h2.symm⟩
theorem EV.same(k:Cx p n W B c m X Y Z)(h:EV p n W B X Y Z a x)(g:EV p n W B X Y Z b y)(e:∀i,i<m->at_ a i=at_ b i):x=y:=
 ZX k.z.r.o h.el.1 g.el.1 h.el.2 g.el.2 (h.eqv.trans ((k.cut e).trans g.eqv.symm))
theorem EV.to(k:Cx p n W B c m X Y Z)(h:EV p n W B X Y Z a x)(e:∀i,i<m->at_ a i=at_ b i):EV p n W B X Y Z b x:=⟨h.el,h.eqv.trans (k.cut e)⟩
theorem EV.add(k:Cx p n W B c m X Y Z)(h:EV p n W B X Y Z a x)(g:EV p n W B X Y Z b y):EV p n W B X Y Z (kadd a b) (ladd p W x y):=
 ⟨zH k.z.r.o h.el g.el,(Zd k.z.r.o h.el g.el).trans ((h.eqv.add g.eqv).trans (Eqv.of_eq λt=>(zQv t).symm))⟩
theorem EV.mul(k:Cx p n W B c m X Y Z)(h:EV p n W B X Y Z a x)(q:Int):EV p n W B X Y Z (kmul q a) (lmul p W q x):=
 ⟨zH k.z.r.o h.el h.el,(Zj k.z.r.o h.el q).trans ((h.eqv.mul q).trans (Eqv.of_eq λt=>(zKQ q t).symm))⟩
theorem EV.brk(k:Cx p n W B c m X Y Z)(h:EV p n W B X Y Z a x)(g:EV p n W B X Y Z b y):EV p n W B X Y Z (tbl a b) (br p W B n x y):=
 ⟨br_el k.z.r.o k.z.r.q,(QO k.z.r.o k.z.r.q x y).trans (((zBO k.z.r.o k.z.r.q k.z.r.nf _ h.eqv).trans (zIT k.z.r.o k.z.r.q k.z.r.nf _ g.eqv)).trans (k.z.r.evv_brv k.md.c3 k.x k.y k.w a b))⟩
theorem dv_of(o:OkW p n W){k:Int}{x z:L3}(hk:Cop p k)(hx:El p n x)(hz:El p n z)(h:Eqv p n W (λj=>k*at_ z j) (at_ x)):z=dv p n W k x:=by
 refine dv_eq o hx ⟨hz,λh0=>?_,λ_=>h⟩ (.inr hk);rcases Nat.eq_zero_or_pos n with hn|hn
 .have ev1:=hz.1;have ev2:=hx.1;rw[List.eq_nil_of_length_eq_zero (ev1.trans hn),List.eq_nil_of_length_eq_zero (ev2.trans hn)]
 .obtain⟨a,w,ha⟩:=zBM (p:=p) hk hn;have e:Eqv p n W (λj=>k*at_ z j) (λj=>0):=h.trans (Eqv.of_eq (Zu h0));have k1:=(zAd o (f:=at_ z) (λj hj=>hz.beyond hj)).mul w;have k2:=(Eqv.refl (p:=p) (n:=n) (W:=W) (at_ z)).add k1;have ev3:Eqv p n W (at_ z) (at_ x):=(((Eqv.of_eq λj=>(by omega)).trans k2.symm).trans (Eqv.of_eq λj=>(by grind))).trans ((e.mul a).trans (Eqv.of_eq λj=>(by rw[Zu h0,Int.mul_zero])));exact ZX o hz.1 hx.1 hz.2 hx.2 ev3
theorem EV.div(k:Cx p n W B c m X Y Z)(h:EV p n W B X Y Z a x){q:Int}(e:∀i,i<m->at_ a i=q*at_ b i)(hq:Cop p q):EV p n W B X Y Z b (dv p n W q x):=by
 obtain⟨w,hw⟩:=zRv k b;rw[<-dv_of k.z.r.o hq h.el hw.el]
 .exact hw
 .refine((hw.eqv.mul q).trans (Eqv.of_eq λt=>(zKQ q t).symm)).trans ((k.cut λi hi=>?_).trans h.eqv.symm);have hm:m<=14:=by rcases k.md.cut with h|h|h<;>omega
  rw[zGH q b i (by omega),e i hi]
theorem EV.divZ(k:Cx p n W B c m X Y Z)(h:EV p n W B X Y Z a x){q:Int}(e:∀i,i<m->at_ a i=0):EV p n W B X Y Z a (dv p n W q x):=by
 have h0:isZ x:=QF k.z.r.o h.el (h.eqv.trans ((k.cut (b:=[]) λi hi=>e i hi).trans (Eqv.of_eq λt=>by simp[evv,ev1,ev2,ev3])));rw[(Qk k.z.r.o h.el (k:=q)).nil h0];exact h
def kallm(m:Nat)(f:Nat->Bool):Bool:=(List.range m).all f
theorem zEo{m:Nat}{f:Nat->Bool}(h:kallm m f=true):∀i,i<m->f i=true:=λi hi=>by
 have:=List.all_eq_true.1 h i (List.mem_range.2 hi)
 exact this
def keqm(m:Nat)(a b:L3):Bool:=kallm m λi=>at_ a i == at_ b i
def kdvd(m:Nat)(a:L3)(q:Int):Bool:=kallm m λi=>at_ a i % q == 0
theorem EV.eq(k:Cx p n W B c m X Y Z)(h:EV p n W B X Y Z a x)(g:EV p n W B X Y Z b y)(e:keqm m a b=true):x=y:=h.same k g λi hi=>by simpa using zEo e i hi
theorem EV.dvk(k:Cx p n W B c m X Y Z)(h:EV p n W B X Y Z a x){q:Int}(e:kdvd m a q=true)(hq:Cop p q):EV p n W B X Y Z (kdiv a q) (dv p n W q x):=by
 have hm:m<=14:=by rcases k.md.cut with h|h|h<;>omega
 refine h.div k (λi hi=>?_) hq;rw[zGI q a i (by omega)]
 have:=zEo e i hi
 simp only[beq_iff_eq]at this;exact(Int.mul_ediv_cancel' (Int.dvd_of_emod_eq_zero this)).symm
def zCJ(a b:L3):L3:=kadd (tbl a (tbl a b)) (tbl b (kmul (-1) (tbl a b)))
def kbch(a b:L3):L3:=kadd (kadd (kadd a b) (kdiv (tbl a b) 2)) (kdiv (zCJ a b) 12)
def kokb(m:Nat)(a b:L3):Bool:=kdvd m (tbl a b) 2 && kdvd m (zCJ a b) 12
theorem zFu(a b:L3){i:Nat}(hi:i<3):at_ (tbl a b) i=0:=by
 obtain⟨h0,h1,h2,_⟩:=zDY a b
 match i,hi with
 |0,_=>exact h0
 |1,_=>exact h1
 |2,_=>exact h2
theorem zG9(a b:L3)(hb:∀i,i<3->at_ b i=0){i:Nat}(hi:i<6):at_ (tbl a b) i=0:=by
 obtain⟨h0,h1,h2,h3,h4,h5,_⟩:=zDY a b;have b0:=hb 0 (by omega);have b1:=hb 1 (by omega);have b2:=hb 2 (by omega)
 match i,hi with
 |0,_=>exact h0
 |1,_=>exact h1
 |2,_=>exact h2
 |3,_=>rw[h3,b0,b1];omega
 |4,_=>rw[h4,b0,b2];omega
 |5,_=>rw[h5,b1,b2];omega
theorem zLO(a b:L3){i:Nat}(hi:i<6):at_ (zCJ a b) i=0:=by
 rw[zCJ,zKZ _ _ i (by omega),zG9 _ _ (λi hi=>zFu a b hi) hi,zG9 _ _ (λi hi=>by rw[zGH _ _ i (by omega),zFu a b hi];omega) hi];omega
theorem EV.third(k:Cx p n W B c m X Y Z)(h:EV p n W B X Y Z a x)(g:EV p n W B X Y Z b y):EV p n W B X Y Z (zCJ a b) (Zo p W B n x y):=
 (h.brk k (h.brk k g)).add k (g.brk k ((h.brk k g).mul k (-1)))
theorem EV.bch(k:Cx p n W B c m X Y Z)(h:EV p n W B X Y Z a x)(g:EV p n W B X Y Z b y)(e:kokb m a b=true):EV p n W B X Y Z (kbch a b) (bch p n W B x y):=by
 have hm:m<=14:=by rcases k.md.cut with h|h|h<;>omega
 simp only[kokb,Bool.and_eq_true]at e;have z0:∀{a:L3} {q:Int} {v:L3},(∀i,i<m->at_ a i=0)->EV p n W B X Y Z a v->EV p n W B X Y Z (kdiv a q) (dv p n W q v):=λh0 hv=>(hv.divZ k h0).to k λi hi=>by
  rw[zGI _ _ i (by omega),h0 i hi,Int.zero_ediv]
 have h2:EV p n W B X Y Z (kdiv (tbl a b) 2) (dv p n W 2 (br p W B n x y)):=by
  rcases k.md.d2 with hl|hc
  .exact z0 (λi hi=>zFu a b (by omega)) (h.brk k g)
  .exact(h.brk k g).dvk k e.1 hc.1
 have h3:EV p n W B X Y Z (kdiv (zCJ a b) 12) (dv p n W 12 (Zo p W B n x y)):=by
  rcases k.md.d12 with hl|hc
  .exact z0 (λi hi=>zLO a b (by omega)) (h.third k g)
  .exact(h.third k g).dvk k e.2 hc.1
 exact((h.add k g).add k h2).add k h3
theorem EV.zero(k:Cx p n W B c m X Y Z):EV p n W B X Y Z [] (List.replicate n 0):=
 ⟨zAE k.z.r.o.pr,Eqv.of_eq λt=>by rw[ZB];simp[evv,ev1,ev2,ev3]⟩
theorem zPK(o:OkW p n W)(q:OkB p n B)(a b:L3):∀j,j<2->at_ (br p W B n a b) j=0:=by
 have hs:∀t,t<2->at_ (bsum B a b n) t=0:=λt ht=>by
  rw[bsum,bi_at q t (vH _)];refine ZF _ λi hi=>ZF _ λj hj=>?_;rw[(q.get hi hj).2 t (by omega),Int.mul_zero]
 intro j hj;rcases Nat.lt_or_ge j n with x|x
 .exact zAo o (ZV q) (d:=min 2 n) (Nat.min_le_right _ _) (λj hj=>hs j (by omega)) j (by omega)
 .exact at_ge (by rw[(br_el o q).1];exact x)
theorem zHr(o:OkW p n W)(q:OkB p n B):∀{k:Nat} {u:L4},Low p n W B (k+1) u->∀x∈u,k+2<=dep x
 |0,u,h,y,hy=>by
  cases h with
  |succ h hc=>
   have hl:=hc.base.led y hy;have hg:=(hc.gen _).2 (qF hy);have hz:=zCm o (m:=min 2 n) (zCR o q _ _) (Nat.min_le_right _ _) (λv hv j hj=>by
    obtain⟨x,hx,h⟩:=List.mem_flatMap.1 hv;obtain⟨e,he,rfl⟩:=List.mem_map.1 h;exact zPK o q _ _ j (by omega)) hl.1 hg
   have hd:=zAO (v:=y) (d:=min 2 n) (by rw[hl.1.1];exact Nat.min_le_right _ _) hz
   have:=hl.2.1
   omega
 |k+1,u,h,y,hy=>by
  cases h with
  |succ h hc=>exact zCV o q hc (zHr o q h) y hy
theorem zH0{a b:Int}(hb:0<=b)(h:b<=a):∀k,ipow b k<=ipow a k/\0<=ipow b k
 |0=>⟨Int.le_refl _,by show(0:Int)<=1;decide⟩
 |k+1=>by
  obtain⟨h1,h2⟩:=zH0 hb h k;rw[ipow,ipow];exact⟨Int.mul_le_mul h1 h hb (by omega),Int.mul_nonneg h2 hb⟩
theorem Lz.md(z:Lz p n W B c):∃m,Md p c m:=by
 have hc:=z.hc;have hp:=z.hp;have hw:=z.pow;have hn:=z.r.o.le;by_cases h2:p=2
 .exact⟨3,by omega,.inr (.inr ⟨rfl,by omega⟩),.inl (vH _),.inl (by omega)⟩
 .by_cases h3:p=3
  .exact⟨6,by omega,.inr (.inl ⟨rfl,by omega⟩),.inr (zGG hp h2),.inl (vH _)⟩
  .refine⟨14,?_,.inl rfl,.inr (zGG hp h2),.inr (zFd hp h2 h3)⟩;have Co:n<=4:=by
    rcases Nat.lt_or_ge 4 n with hx|hx
    .exfalso;have h5:(5:Int)<=p:=by rcases hp with h|h|h|h<;>omega
     have:=(zH0 (a:=p) (b:=5) (by omega) h5 n).1
     have e:n=5\/n=6:=by omega
     rcases e with rfl|rfl
     .have:ipow 5 5=3125:=by decide
      omega
     .have:ipow 5 6=15625:=by decide
      omega
    .exact hx
   rcases Nat.lt_or_ge 3 c with hx|hx
   .exfalso;obtain⟨u,hu⟩:=z.r.low 3;have ai:=z.r.cls.2 3 u hx hu;cases u with
    |nil=>exact ai rfl
    |cons v t=>
     have hd:=zHr z.r.o z.r.q hu v (by simp);cases hu with
     |succ h cR=>
      have:=(cR.base.led v (by simp)).2.1
      omega
   .exact hx
def scl(m:Nat):Int:=if m=14 then 1728 else if m=6 then 16 else 1
theorem Md.scl(h:Md p c m)(hp:isP p):Cop p (scl m):=by
 have one:Cop p 1:=⟨1,0,by omega⟩
 have mul:∀{a b:Int},Cop p a->Cop p b->Cop p (a*b):=λ{a b} ⟨e,t,h⟩ ⟨f,s,g⟩=>⟨e*f,t+s+p*t*s,by grind⟩
 rcases h.cut with rfl|⟨rfl,_⟩|⟨rfl,_⟩
 .rcases h.d12 with h|h
  .omega
  .exact mul (mul h.1 h.1) h.1
 .rcases h.d2 with h|h
  .omega
  .exact mul (mul (mul h.1 h.1) h.1) h.1
 .exact one
theorem scaled(o:OkW p n W){q:Int}(hq:Cop p q)(hx:El p n x):Eqv p n W (at_ x) λj=>q*at_ (dv p n W q x) j:=((Qk o hx).eqv hq).symm
theorem Lz.cx(z:Lz p n W B c){x y w:L3}(hx:El p n x)(hy:El p n y)(hw:El p n w):∃m X Y Z,Cx p n W B c m X Y Z/\EV p n W B X Y Z [scl m] x/\EV p n W B X Y Z [0,scl m] y/\EV p n W B X Y Z [0,0,scl m] w/\(m=14\/m=6\/m=3):=by
 obtain⟨m,md⟩:=z.md;have hq:=md.scl z.hp;have o:=z.r.o;refine⟨m,at_ (dv p n W (scl m) x),at_ (dv p n W (scl m) y),at_ (dv p n W (scl m) w),⟨z,md,z.r.all (dv_el o hx),z.r.all (dv_el o hy),z.r.all (dv_el o hw)⟩,⟨hx,(scaled o hq hx).trans (Eqv.of_eq λt=>?_)⟩,⟨hy,(scaled o hq hy).trans (Eqv.of_eq λt=>?_)⟩,⟨hw,(scaled o hq hw).trans (Eqv.of_eq λt=>?_)⟩,by rcases md.cut with h|h|h<;>omega⟩
 all_goals simp[evv,ev1,ev2,ev3]
theorem Lz.assoc(z:Lz p n W B c){x y w:L3}(hx:El p n x)(hy:El p n y)(hw:El p n w):Go.Proofs.bch p n W B (Go.Proofs.bch p n W B x y) w=Go.Proofs.bch p n W B x (Go.Proofs.bch p n W B y w):=by
 obtain⟨m,X,Y,Z,k,ex,ey,ew,hm⟩:=z.cx hx hy hw;rcases hm with rfl|rfl|rfl<;>exact((ex.bch k ey (by decide)).bch k ew (by decide)).eq k (ex.bch k (ey.bch k ew (by decide)) (by decide)) (by decide)
def kok2(m:Nat)(a:L3):Bool:=kdvd m a 2 && (decide (3<m) || keqm m a [])
theorem EV.dv0(k:Cx p n W B c m X Y Z)(h:EV p n W B X Y Z a x){q:Int}(e:keqm m a []=true):EV p n W B X Y Z (kdiv a q) (dv p n W q x):=by
 have hm:m<=14:=by rcases k.md.cut with h|h|h<;>omega
 have h0:∀i,i<m->at_ a i=0:=λi hi=>by simpa using zEo e i hi
 exact(h.divZ k h0).to k λi hi=>by rw[zGI _ _ i (by omega),h0 i hi,Int.zero_ediv]
theorem EV.dv2(k:Cx p n W B c m X Y Z)(h:EV p n W B X Y Z a x)(e:kok2 m a=true):EV p n W B X Y Z (kdiv a 2) (dv p n W 2 x):=by
 simp only[kok2,Bool.and_eq_true,Bool.or_eq_true,decide_eq_true_eq]at e;rcases e.2 with h3|h3
 .rcases k.md.d2 with hl|hc
  .omega
  .exact h.dvk k e.1 hc.1
 .exact h.dv0 k h3
def kf3(a b d:L3):L3:=kbch (kbch (kbch [] a) b) d
def kok3(m:Nat)(a b d:L3):Bool:=kokb m [] a && kokb m (kbch [] a) b && kokb m (kbch (kbch [] a) b) d
theorem EV.fold3(k:Cx p n W B c m X Y Z){d w:L3}(hx:EV p n W B X Y Z a x)(hy:EV p n W B X Y Z b y)(hw:EV p n W B X Y Z d w)(e:kok3 m a b d=true):EV p n W B X Y Z (kf3 a b d) (fold p n W B [x,y,w]):=by
 simp only[kok3,Bool.and_eq_true]at e;exact(((EV.zero k).bch k hx e.1.1).bch k hy e.1.2).bch k hw e.2
def kconj(a b:L3):L3:=kf3 (kmul (-1) b) a b
theorem EV.conj(k:Cx p n W B c m X Y Z)(hx:EV p n W B X Y Z a x)(hy:EV p n W B X Y Z b y)(e:kok3 m (kmul (-1) b) a b=true):EV p n W B X Y Z (kconj a b) (conj p n W B x y):=EV.fold3 k (hy.mul k _) hx hy e
theorem Lz.inv_l(z:Lz p n W B c)(hx:El p n x):bch p n W B (lmul p W (-1) x) x=List.replicate n 0:=by
 obtain⟨m,X,Y,Z,k,ex,ey,ew,hm⟩:=z.cx hx hx hx;rcases hm with rfl|rfl|rfl<;>exact((ex.mul k _).bch k ex (by decide)).eq k (EV.zero k) (by decide)
theorem Lz.inv_r(z:Lz p n W B c)(hx:El p n x):bch p n W B x (lmul p W (-1) x)=List.replicate n 0:=by
 obtain⟨m,X,Y,Z,k,ex,ey,ew,hm⟩:=z.cx hx hx hx;rcases hm with rfl|rfl|rfl<;>exact(ex.bch k (ex.mul k _) (by decide)).eq k (EV.zero k) (by decide)
theorem Lz.one_l(z:Lz p n W B c)(hx:El p n x):bch p n W B (List.replicate n 0) x=x:=by
 obtain⟨m,X,Y,Z,k,ex,ey,ew,hm⟩:=z.cx hx hx hx;rcases hm with rfl|rfl|rfl<;>exact((EV.zero k).bch k ex (by decide)).eq k ex (by decide)
theorem Lz.one_r(z:Lz p n W B c)(hx:El p n x):bch p n W B x (List.replicate n 0)=x:=by
 obtain⟨m,X,Y,Z,k,ex,ey,ew,hm⟩:=z.cx hx hx hx;rcases hm with rfl|rfl|rfl<;>exact(ex.bch k (EV.zero k) (by decide)).eq k ex (by decide)
noncomputable def tsum(p:Int)(n:Nat)(W:L4)(B:L5)(y x:L3):Nat->L3
 |0=>List.replicate n 0
 |j+1=>ladd p W (tsum p n W B y x j) (cterm p n W B y x j)
theorem zCo(o:OkW p n W)(q:OkB p n B)(hx:El p n x)(j:Nat):El p n (cterm p n W B y x j):=dv_el o (zSA o q hx j)
theorem zFs(o:OkW p n W)(q:OkB p n B)(hx:El p n x):∀j,El p n (tsum p n W B y x j)
 |0=>zAE o.pr
 |j+1=>zH o (zFs o q hx j) (zCo o q hx j)
theorem zNA(o:OkW p n W){s z:L3}(hs:El p n s)(hz:El p n z)(h0:isZ z):ladd p W s z=s:=
 ZX o (zH o hs hz).1 hs.1 (zH o hs hz).2 hs.2 ((Zd o hs hz).trans (Eqv.of_eq λt=>by rw[Zu h0,Int.add_zero]))
theorem EV.dv1(k:Cx p n W B c m X Y Z)(h:EV p n W B X Y Z a x):EV p n W B X Y Z a (dv p n W 1 x):=by
 rw[<-dv_of k.z.r.o ⟨1,0,by omega⟩ h.el h.el (Eqv.of_eq λj=>Int.one_mul _)];exact h
theorem Lz.conj_sum3(z:Lz p n W B c)(hx:El p n x)(hy:El p n y):tsum p n W B y x 3=Go.Proofs.conj p n W B x y:=by
 obtain⟨m,X,Y,Z,k,ex,ey,ew,hm⟩:=z.cx hx hy hx;rcases hm with rfl|rfl|rfl<;>
  exact((((EV.zero k).add k (ex.dv1 k)).add k ((ex.brk k ey).dv1 k)).add k (((ex.brk k ey).brk k ey).dv2 k (by decide))).eq k (ex.conj k ey (by decide)) (by decide)
theorem Lz.conj_move(z:Lz p n W B c)(hx:El p n x)(hy:El p n y):bch p n W B y (Go.Proofs.conj p n W B x y)=bch p n W B x y:=by
 obtain⟨m,X,Y,Z,k,ex,ey,ew,hm⟩:=z.cx hx hy hx;rcases hm with rfl|rfl|rfl<;>exact(ey.bch k (ex.conj k ey (by decide)) (by decide)).eq k (ex.bch k ey (by decide)) (by decide)
theorem Lz.pow_step(z:Lz p n W B c)(hx:El p n x)(j:Int):bch p n W B (lmul p W j x) x=lmul p W (j+1) x:=by
 have o:=z.r.o;have q:=z.r.q;have hj:=zH o hx hx (k:=j) (m:=0);have hb:isZ (br p W B n (lmul p W j x) x):=by
  refine QF o (br_el o q) ((QO o q _ _).trans ((zBO o q z.r.nf _ (Zj o hx j)).trans (Eqv.of_eq λt=>?_)));rw[ZC,zIS,Int.mul_zero]
 have ht:isZ (Zo p W B n (lmul p W j x) x):=by
  refine QF o (QG o q) ((Zd o (br_el o q) (br_el o q)).trans (Eqv.of_eq λt=>?_));have h2:isZ (br p W B n (lmul p W j x) (br p W B n (lmul p W j x) x)):=by
   refine QF o (br_el o q) ((QO o q _ _).trans (Eqv.of_eq λt=>?_));rw[zl,QZ (f':=λj=>0*at_ x j) (g':=at_ (lmul p W j x)) (λj=>by rw[Zu hb,Int.zero_mul]) (λ_=>rfl),ZC,Int.zero_mul,Int.mul_zero]
  have h3:isZ (br p W B n x (lmul p W (-1) (br p W B n (lmul p W j x) x))):=by
   have hn:isZ (lmul p W (-1) (br p W B n (lmul p W j x) x)):=QF o (zH o (br_el o q) (br_el o q)) ((Zj o (br_el o q) (-1)).trans (Eqv.of_eq λt=>by rw[Zu hb,Int.mul_zero]));refine QF o (br_el o q) ((QO o q _ _).trans (Eqv.of_eq λt=>?_));rw[zl,QZ (f':=λj=>0*at_ x j) (g':=at_ x) (λj=>by rw[Zu hn,Int.zero_mul]) (λ_=>rfl),ZC,Int.zero_mul,Int.mul_zero]
  rw[Zu h2,Zu h3];rfl
 unfold Go.Proofs.bch;have r6:isZ (dv p n W 2 (br p W B n (lmul p W j x) x)):=by rw[(Qk o (br_el o q) (k:=2)).nil hb];exact hb
 have uM:isZ (dv p n W 12 (Zo p W B n (lmul p W j x) x)):=by rw[(Qk o (QG o q) (k:=12)).nil ht];exact ht
 have hs:El p n (ladd p W (lmul p W j x) x):=zH o hj hx;rw[zNA o hs (dv_el o (br_el o q)) r6,zNA o hs (dv_el o (QG o q)) uM];refine ZX o hs.1 (zH o hx hx).1 hs.2 (zH o hx hx).2 ((Zd o hj hx).trans (((Zj o hx j).add (Eqv.refl _)).trans (Eqv.trans (Eqv.of_eq λt=>?_) (Zj o hx (j+1)).symm)));grind
end Go.Proofs
namespace Go.Proofs
open Go.Ab Go.Lie Go.Grp
variable{p:Int}{n c:Nat}{W:L4}{B:L5}
theorem Lz.gp(z:Lz p n W B c):Gp (El p n) (bch p n W B) (List.replicate n 0):=by
 have o:=z.r.o;have q:=z.r.q;refine⟨⟨⟨by simp,λy hy=>by rw[List.eq_of_mem_replicate hy];have:=o.pr.1;omega⟩,λha hb=>zAS o q ha hb,λha hb hc=>z.assoc ha hb hc,λha=>z.one_l ha,λha=>z.one_r ha⟩,λ{a} ha=>⟨lmul p W (-1) a,zH o ha ha,z.inv_r ha,z.inv_l ha⟩⟩
theorem Lz.pw_eq(z:Lz p n W B c){x:L3}(hx:El p n x):∀k:Nat,Grp.pw (bch p n W B) (List.replicate n 0) x k=lmul p W k x
 |0=>by
  have o:=z.r.o;have hz:El p n (List.replicate n 0):=z.gp.one;have e:=(Zj o hx ((0:Nat):Int));refine(ZX o hz.1 (zH o hx hx).1 hz.2 (zH o hx hx).2 ?_);refine Eqv.trans ?_ e.symm;exact Eqv.of_eq λj=>by show at_ (List.replicate n (0:Int)) j=_;rw[ZB];simp
 |k+1=>by
  show bch p n W B (Grp.pw (bch p n W B) (List.replicate n 0) x k) x=_;rw[z.pw_eq hx k,z.pow_step hx];rfl
variable{a:Nat}{x y:L3}{f g:Vec}
def Dzv(p:Int)(n:Nat)(W:L4)(a:Nat)(f:Vec):Prop:=∃v:L3,v.length=n/\(∀j,j<a->at_ v j=0)/\Eqv p n W f (at_ v)
theorem Dzv.sub(a:Nat):IsSub p n W (Dzv p n W a) where
 zero:=⟨List.replicate n 0,by simp,λj _=>ZB n j,Eqv.of_eq λj=>(ZB n j).symm⟩
 add:=λf g ⟨v,h1,h2,h3⟩ ⟨w,g1,g2,g3⟩=>⟨lmix 1 v 1 w,by rw[zL (h1.trans g1.symm)];exact h1,λj hj=>by rw[qY (h1.trans g1.symm),h2 j hj,g2 j hj];rfl,(h3.add g3).trans (Eqv.of_eq λj=>by rw[qY (h1.trans g1.symm)];omega)⟩
 mul:=λk f ⟨v,h1,h2,h3⟩=>⟨lmix k v 0 v,by rw[zL rfl];exact h1,λj hj=>by rw[qY rfl,h2 j hj];simp,(h3.mul k).trans (Eqv.of_eq λj=>by rw[qY rfl];simp)⟩
 eqv:=λf g e ⟨v,h1,h2,h3⟩=>⟨v,h1,h2,e.trans h3⟩
theorem Dzv.of(hx:El p n x)(h:∀j,j<a->at_ x j=0):Dzv p n W a (at_ x):=⟨x,hx.1,h,Eqv.refl _⟩
theorem Dzv.mono{b:Nat}(h:Dzv p n W a f)(hb:b<=a):Dzv p n W b f:=by
 obtain⟨v,h1,h2,h3⟩:=h;exact⟨v,h1,λj hj=>h2 j (by omega),h3⟩
theorem zR7(q:OkB p n B){v:L3}(h:∀j,j<a->at_ v j=0)(g:Vec):(∀t,t<a+1->brv B n (at_ v) g t=0)/\∀t,n<=t->brv B n (at_ v) g t=0:=by
 refine⟨λt ht=>ZF n λi hi=>ZF _ λj hj=>?_,λt ht=>ZF n λi hi=>ZF _ λj hj=>?_⟩
 .obtain⟨e1,e2⟩:=q.get hi hj;rcases Nat.lt_or_ge (i+1+j) a with h1|h1
  .rw[h i (by omega),h (i+1+j) h1];simp
  .rw[e2 t (by omega),Int.mul_zero]
 .obtain⟨e1,e2⟩:=q.get hi hj;rw[e1.beyond ht,Int.mul_zero]
theorem Dzv.brL(o:OkW p n W)(q:OkB p n B)(nf:Zl p W B n)(h:Dzv p n W a f)(g:Vec):Dzv p n W (a+1) (brv B n f g):=by
 obtain⟨v,h1,h2,h3⟩:=h;obtain⟨k1,k2⟩:=zR7 q h2 g;refine⟨tab n (brv B n (at_ v) g),zAB _,λj hj=>by rw[zHB _ k2];exact k1 j hj,(zBO o q nf g h3).trans (Eqv.of_eq λj=>(zHB _ k2 j).symm)⟩
structure Fil(p:Int)(n:Nat)(W:L4)(B:L5)(S:Nat->Vec->Prop):Prop where
 sub:∀k,IsSub p n W (S k)
 down:∀k f,S (k+1) f->S k f
 brL:∀k f g,S k f->S (k+1) (brv B n f g)
theorem Fil.brR{S:Nat->Vec->Prop}(F:Fil p n W B S)(k:Nat)(f g:Vec)(h:S k g):S (k+1) (brv B n f g):=
 (F.sub _).eqv _ _ (Eqv.of_eq λt=>zl f g t) ((F.sub _).mul _ _ (F.brL k g f h))
theorem Fil.br{S:Nat->Vec->Prop}(F:Fil p n W B S)(o:OkW p n W)(q:OkB p n B){k:Nat}(h:S k (at_ x)\/S k (at_ y)):S (k+1) (at_ (br p W B n x y)):=
 (F.sub _).eqv _ _ (QO o q x y) (by
  rcases h with h|h
  .exact F.brL _ _ _ h
  .exact F.brR _ _ _ h)
theorem Lz.filD(z:Lz p n W B c):Fil p n W B (Dzv p n W):=⟨λk=>Dzv.sub k,λk f h=>h.mono (by omega),λk f g h=>h.brL z.r.o z.r.q z.r.nf g⟩
theorem Lz.bch_fil(z:Lz p n W B c){S:Nat->Vec->Prop}(F:Fil p n W B S)(hx:El p n x)(hy:El p n y):∃u:Vec,(∀k,S k (at_ x)\/S k (at_ y)->S (k+1) u)/\Eqv p n W (at_ (bch p n W B x y)) λj=>at_ x j+at_ y j+u j:=by
 have o:=z.r.o;have q:=z.r.q;have hb:El p n (Go.Proofs.br p W B n x y):=br_el o q;have h3:El p n (Zo p W B n x y):=QG o q;refine⟨λj=>at_ (dv p n W 2 (Go.Proofs.br p W B n x y)) j+at_ (dv p n W 12 (Zo p W B n x y)) j,λk h=>?_,?_⟩
 .have d1:S (k+1) (at_ (Go.Proofs.br p W B n x y)):=F.br o q h;have d2:S (k+1) (at_ (Zo p W B n x y)):=by
   refine(F.sub _).eqv _ _ (Zd o (br_el o q) (br_el o q)) ((F.sub _).add _ _ ?_ ?_)
   .exact F.down _ _ (F.br o q (.inr d1))
   .exact F.down _ _ (F.br o q (.inr ((F.sub _).eqv _ _ (Zj o hb (-1)) ((F.sub _).mul _ _ d1))))
  exact(F.sub _).add _ _ (zFc o (F.sub _) (Qk o hb) (z.d2 hx) d1) (zFc o (F.sub _) (Qk o h3) (z.d12 hx) d2)
 .refine(Zd o (zH o (zH o hx hy) (dv_el o hb)) (dv_el o h3)).trans ?_;refine((Zd o (zH o hx hy) (dv_el o hb)).add (Eqv.refl _)).trans ?_;refine(((Zd o hx hy).add (Eqv.refl _)).add (Eqv.refl _)).trans (Eqv.of_eq λj=>?_);show _=at_ x j+at_ y j+(_+_);omega
theorem zKS:Cop p 1:=⟨1,0,by omega⟩
theorem zKT(o:OkW p n W)(q:OkB p n B)(hx:El p n x)(hy:El p n y):El p n (conj p n W B x y):=zBK o q (els3 (zFI o hy) hx hy)
theorem Lz.conj_fil(z:Lz p n W B c){S:Nat->Vec->Prop}(F:Fil p n W B S)(hx:El p n x)(hy:El p n y):∃u:Vec,(∀k,S k (at_ x)\/S k (at_ y)->S (k+1) u)/\Eqv p n W (at_ (conj p n W B x y)) λj=>at_ x j+u j:=by
 have o:=z.r.o;have q:=z.r.q;have hb:El p n (Go.Proofs.br p W B n x y):=br_el o q;have dk:El p n (Go.Proofs.br p W B n (Go.Proofs.br p W B n x y) y):=br_el o q;refine⟨λj=>at_ (dv p n W 1 (Go.Proofs.br p W B n x y)) j+at_ (dv p n W 2 (Go.Proofs.br p W B n (Go.Proofs.br p W B n x y) y)) j,λk h=>?_,?_⟩
 .have d1:S (k+1) (at_ (Go.Proofs.br p W B n x y)):=F.br o q h;exact(F.sub _).add _ _ (zFc o (F.sub _) (Qk o hb) (.inr zKS) d1) (zFc o (F.sub _) (Qk o dk) (z.d2 hb) (F.down _ _ (F.br o q (.inl d1))))
 .rw[<-z.conj_sum3 hx hy];have c0:El p n (cterm p n W B y x 0):=zCo o q hx 0;have c1:El p n (cterm p n W B y x 1):=zCo o q hx 1;have c2:El p n (cterm p n W B y x 2):=zCo o q hx 2;have t1:El p n (tsum p n W B y x 1):=zFs o q hx 1;have t2:El p n (tsum p n W B y x 2):=zFs o q hx 2;have e0:Eqv p n W (at_ (cterm p n W B y x 0)) (at_ x):=((Eqv.of_eq λj=>by show _=1*at_ (dv p n W 1 x) j;rw[Int.one_mul];rfl).trans ((Qk o hx (k:=1)).eqv zKS))
  refine(Zd o t2 c2).trans (((Zd o t1 c1).add (Eqv.refl _)).trans ?_);refine((((Zd o (zAE o.pr) c0).trans ((Eqv.of_eq (λj=>ZB n j)).add e0)).add (Eqv.refl _)).add (Eqv.refl _)).trans (Eqv.of_eq λj=>?_);show 0+at_ x j+at_ (dv p n W 1 (Go.Proofs.br p W B n x y)) j+at_ (dv p n W 2 (Go.Proofs.br p W B n (Go.Proofs.br p W B n x y) y)) j=at_ x j+(_+_);omega
theorem Lz.bch_eqv(z:Lz p n W B c)(hx:El p n x)(hy:El p n y):∃u:Vec,(∀a,Dzv p n W a (at_ x)\/Dzv p n W a (at_ y)->Dzv p n W (a+1) u)/\Eqv p n W (at_ (bch p n W B x y)) λj=>at_ x j+at_ y j+u j:=z.bch_fil z.filD hx hy
theorem zFJ{A B k p:Int}(h:A=B-k*p)(h0:0<=A/\A<=p-1):A=B % p:=by
 have:B=A+k*p:=by omega
 rw[this,Int.add_mul_emod_self_right,Int.emod_eq_of_lt h0.1 (by omega)]
theorem Lz.head(z:Lz p n W B c)(hx:El p n x)(hy:El p n y)(ha:a<n)(h:Dzv p n W a (at_ x)\/Dzv p n W a (at_ y))(hs:∀j,j<a->0<=at_ x j+at_ y j/\at_ x j+at_ y j<=p-1):
  (∀j,j<a->at_ (bch p n W B x y) j=at_ x j+at_ y j)/\at_ (bch p n W B x y) a=(at_ x a+at_ y a) % p:=by
 have o:=z.r.o;obtain⟨u,hu,e⟩:=z.bch_eqv hx hy;obtain⟨v,h1,h2,h3⟩:=hu a h;have hb:El p n (bch p n W B x y):=zAS o z.r.q hx hy;have e2:=e.trans ((Eqv.refl (λj=>at_ x j+at_ y j)).add h3);obtain⟨k1,k,k2⟩:=QX o e2 ha (λj hj=>hb.at0 o j) (λj hj=>by rw[h2 j (by omega)];have:=hs j hj;omega);refine⟨λj hj=>by rw[k1 j hj,h2 j (by omega)];omega,?_⟩;rw[h2 a (by omega)]at k2
 have:=zFJ k2 (hb.at0 o a)
 rw[this,Int.add_zero]
theorem Lz.headL(z:Lz p n W B c)(hx:El p n x)(hy:El p n y)(ha:a<n)(h:∀j,j<a->at_ x j=0):
  (∀j,j<a->at_ (bch p n W B x y) j=at_ y j)/\at_ (bch p n W B x y) a=(at_ x a+at_ y a) % p:=by
 obtain⟨h1,h2⟩:=z.head hx hy ha (.inl (Dzv.of hx h)) λj hj=>by rw[h j hj];have:=hy.at0 z.r.o j;omega
 exact⟨λj hj=>by rw[h1 j hj,h j hj];omega,h2⟩
theorem zOl(o:OkW p n W)(hx:El p n x)(ha:a<n)(h:∀j,j<a->at_ x j=0)(k:Int):(∀j,j<a->at_ (lmul p W k x) j=0)/\at_ (lmul p W k x) a=(k*at_ x a) % p:=by
 have h0:∀j,j<a->at_ (lmix k x 0 x) j=0:=λj hj=>by rw[qY rfl,h j hj];simp
 have hl:(lmix k x 0 x).length=n:=by rw[zL rfl];exact hx.1
 refine⟨zAo o hl (by omega) h0,?_⟩;rw[zDJ o hl ha h0,qY rfl];simp
theorem zAl{i:Nat}(hi:i<n):(∀j,j<i->at_ (unitL n i) j=0)/\at_ (unitL n i) i=1:=⟨λj hj=>by rw[Q5 hi,if_neg (by omega)],by rw[Q5 hi,if_pos rfl]⟩
theorem zBs(o:OkW p n W){i:Nat}(hi:i<n)(k:Int):El p n (lmul p W k (unitL n i))/\(∀j,j<i->at_ (lmul p W k (unitL n i)) j=0)/\at_ (lmul p W k (unitL n i)) i=k % p:=by
 have hu:=zW (n:=n) o.pr hi;obtain⟨h1,h2⟩:=zOl o hu hi (zAl hi).1 k;exact⟨zH o hu hu,h1,by rw[h2,(zAl hi).2,Int.mul_one]⟩
theorem zJ9(z:Lz p n W B c)(hx:El p n x):∀{i:Nat},i<=n->∀j,j<i->at_ (stG p n W B x i).2 j=0
 |0,_,j,hj=>by omega
 |i+1,hi,j,hj=>by
  have o:=z.r.o;obtain⟨e1,e2,e3⟩:=zBs o (show i<n by omega) (-at_ (stG p n W B x i).2 i);have hr:=zAm o z.r.q hx (i:=i) (by omega);obtain⟨k1,k2⟩:=z.headL e1 hr (by omega) e2;show at_ (bch p n W B _ _) j=0;rcases Nat.lt_or_ge j i with h|h
  .rw[k1 j h];exact zJ9 z hx (by omega) j h
  .have hj:j=i:=by omega
   subst hj;rw[k2,e3,Int.emod_add_emod,show -at_ (stG p n W B x j).2 j+at_ (stG p n W B x j).2 j=0 by omega,Int.zero_emod]
theorem zLz{m:Nat}:∀{i:Nat},m<i->i<=n->at_ (stG p n W B x i).1 m=at_ (stG p n W B x m).2 m
 |0,h,_=>by omega
 |i+1,h,hi=>by
  have hl:=Qg (p:=p) (n:=n) (W:=W) (B:=B) (x:=x) i;show at_ ((stG p n W B x i).1.set i _) m=_;rw[at_set (by omega)];split
  .rename_i e;subst e;rfl
  .exact zLz (by omega) (by omega)
theorem zEx{m:Nat}(hm:m<n):at_ (vcG p n W B x) m=at_ (stG p n W B x m).2 m:=zLz hm (vH _)
theorem zG5:(vcG p n W B x).length=n:=Qg n
theorem vc_el(z:Lz p n W B c)(hx:El p n x):El p n (vcG p n W B x):=by
 have o:=z.r.o;refine⟨zG5,λy hy=>?_⟩;obtain⟨i,hi,rfl⟩:=List.mem_iff_getElem.1 hy;have fR:i<n:=by rw[<-zG5 (p:=p) (n:=n) (W:=W) (B:=B) (x:=x)];exact hi
 rw[<-at_eq hi,zEx fR];exact(zAm o z.r.q hx (by omega)).at0 o i
theorem zOo(o:OkW p n W)(hx:El p n x)(k l:Int):lmul p W k (lmul p W l x)=lmul p W (k*l) x:=by
 have hy:El p n (lmul p W l x):=zH o hx hx;refine ZX o (zH o hy hy).1 (zH o hx hx).1 (zH o hy hy).2 (zH o hx hx).2 ?_;refine(Zj o hy k).trans (((Zj o hx l).mul k).trans (Eqv.trans (Eqv.of_eq λj=>?_) (Zj o hx (k*l)).symm));rw[Int.mul_assoc]
theorem zM3(o:OkW p n W)(hx:El p n x):lmul p W 0 x=List.replicate n 0:=by
 refine ZX o (zH o hx hx).1 (by simp) (zH o hx hx).2 (zAE o.pr).2 ?_;exact(Zj o hx 0).trans (Eqv.of_eq λj=>by rw[ZB];simp)
theorem zKA(z:Lz p n W B c)(hx:El p n x):∀{i:Nat},i<=n->bch p n W B (ptG p n W B (vcG p n W B x) i) (stG p n W B x i).2=x
 |0,_=>z.one_l hx
 |i+1,hi=>by
  have o:=z.r.o;have q:=z.r.q;have hr:=zAm o q hx (i:=i) (by omega);have hp:=zDC o q (vcG p n W B x) (i:=i) (by omega);have e1:=λk=>(zBs o (show i<n by omega) k).1;show bch p n W B (bch p n W B (ptG p n W B (vcG p n W B x) i) (lmul p W (at_ (vcG p n W B x) i) (unitL n i))) (bch p n W B (lmul p W (-at_ (stG p n W B x i).2 i) (unitL n i)) (stG p n W B x i).2)=x;rw[zEx (by omega),z.assoc hp (e1 _) (zAS o q (e1 _) hr),<-z.assoc (e1 _) (e1 _) hr];have e:lmul p W (-at_ (stG p n W B x i).2 i) (unitL n i)=lmul p W (-1) (lmul p W (at_ (stG p n W B x i).2 i) (unitL n i)):=by
   rw[zOo o (zW o.pr (by omega))];congr 1;omega
  rw[e,z.inv_r (e1 _),z.one_l hr,zKA z hx (by omega)]
theorem pt_vc(z:Lz p n W B c)(hx:El p n x):ptG p n W B (vcG p n W B x) n=x:=by
 have o:=z.r.o;have h:=zKA z hx (vH n);have e:(stG p n W B x n).2=List.replicate n 0:=Qc (by rw[(zAm o z.r.q hx (vH n)).1];simp) λj hj=>by
  rw[(zAm o z.r.q hx (vH n)).1]at hj;rw[zJ9 z hx (vH n) j hj,ZB]
 rw[e,z.one_r (zDC o z.r.q _ (vH n))]at h;exact h
theorem zFw(z:Lz p n W B c)(hx:El p n x)(h:∀j,j<a->at_ x j=0):∀{i:Nat},i<=n->i<=a->(stG p n W B x i).2=x
 |0,_,_=>rfl
 |i+1,hi,ha=>by
  have ih:=zFw z hx h (i:=i) (by omega) (by omega);show bch p n W B (lmul p W (-at_ (stG p n W B x i).2 i) (unitL n i)) (stG p n W B x i).2=x;rw[ih,h i (by omega),Int.neg_zero,zM3 z.r.o (zW z.r.o.pr (by omega)),z.one_l hx]
theorem zFp(z:Lz p n W B c)(hx:El p n x)(ha:a<=n)(h:∀j,j<a->at_ x j=0):(∀j,j<a->at_ (vcG p n W B x) j=0)/\(a<n->at_ (vcG p n W B x) a=at_ x a):=by
 refine⟨λj hj=>by rw[zEx (by omega),zFw z hx h (by omega) (by omega)];exact h j hj,λhn=>by rw[zEx hn,zFw z hx h (by omega) (vH _)]⟩
end Go.Proofs
