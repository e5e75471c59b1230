/- . -/
import Derived.Test.YtnfnaniemocleaaGreatEP11
open Int renaming reduceNatCast'->ae
set_option maxRecDepth 100000
set_option linter.unusedVariables false
set_option linter.unusedSectionVars false
set_option linter.unusedSimpArgs false
namespace Go.Grp
end Go.Grp
namespace Go.Proofs
open Go.Ab Go.Lie
variable{p p':Int}{c n t:Nat}{h σ:PHeap}{nE nF vB vC vP va vb vx vy:PV}{K:PV->PHeap->Prop}{O bs x y z:V1}{P W W' xs ys:V2}{B B' C:V3}
section
open Go.Im Go.Grp
variable{w:V1}
def qO(O:V1):Int:=if O=[]then 2 else at_ O 0
theorem qO_eq(h:0<O.length):qO O=at_ O 0:=by
 unfold qO;rw[if_neg λe=>by rw[e]at h;simp at h]
theorem LG.qp(g:LG O P C):isP (qO O):=by
 rcases Nat.eq_zero_or_pos O.length with h|h
 .rw[YF h];exact .inl rfl
 .rw[qO_eq h];exact g.isp h
theorem LG.el(g:LG O P C):gS O x↔El (qO O) O.length x:=by
 constructor
 .intro h;refine⟨h.len,λy G=>?_⟩;obtain⟨i,D,rfl⟩:=YE.1 G;have u:i<O.length:=by rw[<-h.len];exact D
  have A:=h.bd i u;rw[g.eq u,at_eq D]at A;rw[qO_eq (by omega)];omega
 .intro h;refine⟨h.1,λj l=>?_,λj l=>by omega⟩;have E:j<x.length:=by rw[h.1];exact l
  have A:=h.2 _ (YK E);rw[at_eq E,g.eq l,<-qO_eq (show 0<O.length by omega)];omega
section
variable[IMod (GT (gS O))]{β:GT (gS O)->GT (gS O)->GT (gS O)}(g:LG O P C)(k:clsOk O P C)(L:LieOf O P C β)
include g k L
theorem zH9{x y:V1}(l:El (qO O) O.length x)(u:El (qO O) O.length y)(h:pval (gU O) O.length (at_ x)=pval (gU O) O.length (at_ y)):x=y:=by
 rcases Nat.eq_zero_or_pos O.length with h0|h0
 .rw[YF (l.1.trans h0),YF (u.1.trans h0)]
 .rw[qO_eq h0]at l u;exact zQ5 g k L l u h
theorem zP0{x:V1}(l:El (qO O) O.length x)(u:t<=O.length)(h:Dp O t (pval (gU O) O.length (at_ x))):∀j,j<t->at_ x j=0:=by
 rcases Nat.eq_zero_or_pos O.length with h0|h0
 .intro j hj;omega
 .rw[qO_eq h0]at l;exact zPw g k L l u h
theorem zKg(l:gS O z):∀i,i<=O.length->∃r:GT (gS O),r.1=(stC O P C z i).2/\Dp O i r/\pval (gU O) O.length (at_ (stC O P C z i).1)+r=GT.mk z l/\(∀j,i<=j->at_ (stC O P C z i).1 j=0)/\∀y∈(stC O P C z i).1,0<=y/\y<=qO O-1
 |0,_=>by
  refine⟨GT.mk z l,rfl,l,?_,λj _=>qF _ j,λy D=>?_⟩
  .rw[Zt (f:=at_ (stC O P C z 0).1) λi _=>qF _ i];exact mlin [GT.mk z l]
  .rw[Y9 D]
   have:=g.qp.bd
   omega
 |i+1,hi=>by
  obtain⟨r,V,J,X,M,Y⟩:=zKg l i (by omega);have hp:=(g.isp (show 0<O.length by omega)).bd;have u:=J.bd i (by omega);rw[g.eq (show i<O.length by omega)]at u;have hu:gS O (Grp.unit O i):=g.s.unit (by omega) (YW _);have G:i<(stC O P C z i).1.length:=by rw[Q4];omega
  have A:r.1=(stC O P C z i).2:=V;have Z:Dp O i (gU O i):=by show TT O i (gU O i).1;rw[gU1 g (by omega)];exact g.s.unit (by omega) (na _)
  have I:(((at_ r.1 i).toNat:Nat):Int)=at_ r.1 i:=YI u.1;have R:(-((((at_ r.1 i).toNat:Nat):Int) • gU O i)+r).1=(stC O P C z (i+1)).2:=by
   rw[L.sum1,L.neg1,L.nat1,gU1 g (by omega),A];rfl
  obtain⟨n1,n2⟩:=zGI g k L (show i<O.length by omega) Z (at_ r.1 i).toNat;obtain⟨n3,n4⟩:=zN1 g k L (show i<O.length by omega) n1;obtain⟨E,n6⟩:=zGJ g k L (show i<O.length by omega) n3 J;have Q:at_ (gU O i).1 i=1:=by
   rw[gU1 g (by omega)];show at_ ((zv O).set i 1) i=1;rw[at_set (by simp;omega),if_pos rfl]
  refine⟨_,R,⟨E.len,E.bd,λj N=>?_⟩,?_,λj N=>?_,λy D=>?_⟩
  .rcases YG j i with h|h
   .exact E.zero j h
   .have:j=i:=by omega
    subst this;rw[n6,n4,n2,Q,I,Ur,Int.emod_add_emod,Yc u.1 u.2,Int.add_left_neg,Int.zero_emod]
  .rw[<-X];have S:pval (gU O) O.length (at_ (stC O P C z (i+1)).1)=pval (gU O) O.length (at_ (stC O P C z i).1)+(((at_ r.1 i).toNat:Nat):Int) • gU O i:=by
    rw[<-zBw (U:=gU O) (n:=O.length) (show i<O.length by omega),<-ZX,<-Qy];refine Ze λj N=>?_;show at_ ((stC O P C z i).1.set i (at_ (stC O P C z i).2 i)) j=_;rw[at_set G,zb (by omega),I,A];by_cases e:j=i
    .rw[if_pos e,if_pos e,e,M i (na _)];omega
    .rw[if_neg e,if_neg e];omega
   rw[S];exact mlin [pval (gU O) O.length (at_ (stC O P C z i).fst),((at_ r.val i).toNat:Int) • gU O i,r]
  .show at_ ((stC O P C z i).1.set i (at_ (stC O P C z i).2 i)) j=_;rw[at_set G,if_neg (by omega)];exact M j (by omega)
  .have uY:y∈(stC O P C z i).1.set i (at_ (stC O P C z i).2 i):=D;rcases List.mem_or_eq_of_mem_set uY with h|h
   .exact Y y h
   .rw[h,qO_eq (by omega),<-A];omega
theorem QP(u:gS O z):El (qO O) O.length (cfG O P C z)/\pval (gU O) O.length (at_ (cfG O P C z))=GT.mk z u:=by
 obtain⟨r,A,l,D,G,E⟩:=zKg g k L u O.length (na _);have r0:r=0:=GT.eq (by
  rw[L.zero1];exact l.ext (g.s.zv _) λj A l=>by omega)
 refine⟨⟨zDy z,E⟩,?_⟩;rw[<-D,r0];show pval (gU O) O.length (at_ (stC O P C z O.length).1)=_;exact mlin [pval (gU O) O.length (at_ (stC O P C z O.length).fst)]
theorem cf_tt(l:TT O t z)(D:t<=O.length):∀j,j<t->at_ (cfG O P C z) j=0:=by
 obtain⟨u,A⟩:=QP g k L (l.mono (YW _));refine zP0 g k L u D ?_;rw[A];exact l
theorem zBQ:Vals β (gU O) (qO O) O.length (lrPs O P C O.length) (lrCs O P C O.length):=by
 have G:∀{i},i<O.length->gS O (Grp.unit O i):=λu=>g.s.unit u (YW _);have J:∀{i},i<O.length->TT O i (Grp.unit O i):=λu=>g.s.unit u (na _);have I:∀{i},i<O.length->TT O (i+1) (Grp.pw (gm O P C) (zv O) (Grp.unit O i) (at_ O 0).toNat):=λ{i} u=>by
  have:=Q5 g.s g.F g.cent u (J u)
  rwa[g.eq u]at this
 have M:∀{i j},i<j->j<O.length->TT O (j+1) (gbr O P C (Grp.unit O i) (Grp.unit O j)):=λ{i j} X A=>by
  have D:=g.gbr_tt k A (J A) (G (show i<O.length by omega));have e:gbr O P C (Grp.unit O i) (Grp.unit O j)=gi_ O P C (gbr O P C (Grp.unit O j) (Grp.unit O i)):=by
   have:=L.swap (GT.mk _ (G A)) (GT.mk _ (G (show i<O.length by omega)))
   have E:=congrArg Subtype.val this;rw[L.neg1,L.br1,L.br1]at E;exact E
  rw[e];exact zMa g.s g.F g.cent (by omega) D
 have N:∀{i},i<O.length->(lrPs O P C O.length).getD i []=lrP O P C i:=λ{i} u=>by simp[lrPs,YB,u]
 have Q:∀{i j},i<O.length->i+1+j<O.length->((lrCs O P C O.length).getD i []).getD j []=lrC O P C i j:=λ{i j} u A=>by
  have E:j<O.length-1-i:=by omega
  simp[lrCs,lrR,YB,u,E]
 refine⟨⟨?_,g.s.le,by simp[lrPs],λi u=>?_⟩,⟨by simp[lrCs],λi u=>?_,λi u j A=>?_⟩,L.add_l,L.swap,L.self_,λi u=>?_,λi j u A=>?_⟩
 .exact g.qp.bd
 .have iJ:i<O.length:=by simpa [lrPs]using u
  have e:(lrPs O P C O.length)[i]=lrP O P C i:=by simp[lrPs]
  rw[e];have h:=I iJ;obtain⟨D,E⟩:=QP g k L (h.mono (YW _));exact⟨D.1,D.2,λj A=>cf_tt g k L h (by omega) j (by omega)⟩
 .simp[lrCs,lrR]
 .have iJ:i<O.length:=by simpa [lrCs]using u
  have V:j<O.length-1-i:=by simpa [lrCs,lrR]using A
  have e:(lrCs O P C O.length)[i][j]=lrC O P C i j:=by simp[lrCs,lrR]
  rw[e];have h:=M (i:=i) (j:=i+(1+j)) (by omega) (by omega);obtain⟨D,E⟩:=QP g k L (h.mono (YW _));exact⟨D,λl R=>cf_tt g k L h (by omega) l (by omega)⟩
 .rw[N u];have h:=(QP g k L ((I u).mono (YW _))).2;refine h.trans (GT.eq ?_);show Grp.pw (gm O P C) (zv O) (Grp.unit O i) (at_ O 0).toNat=(qO O • gU O i).1;have S:=(g.isp (show 0<O.length by omega)).bd;have e:qO O=(((at_ O 0).toNat:Nat):Int):=by rw[qO_eq (by omega),YI (by omega)]
  rw[e,L.nat1,gU1 g u]
 .rw[Q u A];have h:=(QP g k L ((M (i:=i) (j:=i+(1+j)) (by omega) (by omega)).mono (YW _))).2;refine h.trans (GT.eq ?_);rw[L.br1,gU1 g u,gU1 g A];show gbr O P C (Grp.unit O i) (Grp.unit O (i+(1+j)))=_;rw[<-UG]
theorem lr_lz:∃c,Lz (qO O) O.length (lrPs O P C O.length) (lrCs O P C O.length) c:=by
 have v:=zBQ g k L;rcases Nat.eq_zero_or_pos O.length with h0|h0
 .have triv:∀a:GT (gS O),a=0:=λa=>GT.eq (a.2.ext (0:GT (gS O)).2 λj A D=>by omega);exact v.lz (λx y l u h=>zH9 g k L l u h) (λx y z=>triv _) (λx y z w=>triv _) (λ_ x y z=>triv _) (λ_ x y=>triv _) g.qp (by rw[h0];show(1:Int)<=729;decide)
 .refine v.lz (λx y l u h=>zH9 g k L l u h) L.jac L.b4 (λe=>L.b3 (by rw[<-qO_eq h0];exact e)) (λe=>L.b2 (by rw[<-qO_eq h0];exact e)) g.qp ?_;rw[zIg,qO_eq h0];exact(g.bound h0 (na _)).2
end
end
section
open Go.Im Go.Grp
variable{w:V1}
theorem zPC{p:Int}{n:Nat}{W:V2}{B:V3}(z:Lz p n W B c):isLaz p W B/\W.length=n:=by
 have o:=z.r.o;have q:=z.r.q;have I:=o.len;subst I;have vec:∀{v:V1},El p W.length v->isVec v p W.length:=λ{v} h=>⟨by rw[h.1],h.2⟩
 refine⟨⟨⟨⟨z.hp,o.le,q.len,z.pow,λi u=>⟨?_,?_,λk G=>?_⟩⟩,z.r.nf⟩,⟨c,z.r.cls,z.hc⟩⟩,rfl⟩
 .have h:=o.row i u;rw[qP u];refine⟨vec ⟨h.1,h.2.1⟩,λy l=>?_⟩;rw[UJ]at l;obtain⟨j,E,rfl⟩:=l;rw[<-at_eq];exact h.2.2 j (by omega)
 .have iJ:i<B.length:=by rw[q.len];exact u
  rw[zO iJ,q.row i iJ]
 .obtain⟨A,D⟩:=q.get u G;refine⟨vec A,λy l=>?_⟩;rw[UJ]at l;obtain⟨j,E,rfl⟩:=l;rw[<-at_eq];exact D j (by omega)
section
variable{T:Type}[IMod T]{β:T->T->T}{U:Nat->T}{p:Int}{n:Nat}{W:V2}{B:V3}
theorem Vals.dv(v:Vals β U p n W B){l:Int}{a:V1}(D:El p n a)(J:isZ a\/Cop p l):∃j:Int,pval U n (at_ (Go.Proofs.dv p n W l a))=j • pval U n (at_ a)/\l • j • pval U n (at_ a)=pval U n (at_ a):=by
 have d:=zK2 v.o D (k:=l);have zero:isZ a->pval U n (at_ a)=0:=λh=>Zt λi _=>zCe h i;by_cases A:isZ a
 .refine⟨0,?_,?_⟩
  .rw[d.nil A,zero A,Go.Im.zsmul_zero]
  .rw[zero A,Go.Im.zsmul_zero,Go.Im.zsmul_zero]
 .have hc:Cop p l:=J.resolve_left A;rcases Nat.eq_zero_or_pos n with h0|h0
  .exact absurd (λy u=>by rw[YF (D.1.trans h0)]at u;cases u) A
  obtain⟨y,w,u⟩:=zCm hc h0;have E:l • pval U n (at_ (Go.Proofs.dv p n W l a))=pval U n (at_ a):=by
   rw[<-ZX,v.eqv (d.eqv hc)]
  have kill:∀b,El p n b->pw_ p n • pval U n (at_ b)=0:=λb G=>by
   rw[<-ZX,v.eqv (zAk v.o λj I=>G.beyond I),Zt λi _=>rfl]
  have hd:=dv_el v.o D (k:=l);refine⟨y,?_,?_⟩
  .rw[<-E,<-Go.Im.mul_zsmul,UB y l,u,Go.Im.add_zsmul,Go.Im.one_zsmul,Go.Im.mul_zsmul,kill _ hd,Go.Im.zsmul_zero];exact mlin [pval U n (at_ (Proofs.dv p n W l a))]
  .rw[<-Go.Im.mul_zsmul,u,Go.Im.add_zsmul,Go.Im.one_zsmul,Go.Im.mul_zsmul,kill _ D,Go.Im.zsmul_zero];exact mlin [pval U n (at_ a)]
theorem Vals.thd(v:Vals β U p n W B){a b:V1}(u:El p n a)(A:El p n b):pval U n (at_ (Zm p W B n a b))=β (pval U n (at_ a)) (β (pval U n (at_ a)) (pval U n (at_ b)))+β (pval U n (at_ b)) (β (pval U n (at_ b)) (pval U n (at_ a))):=by
 have l:=br_el (B:=B) (a:=a) (b:=b) v.o v.q;unfold Zm;rw[v.add (br_el v.o v.q) (br_el v.o v.q),v.br,v.br,v.br,v.mul l,v.br,v.swap (pval U n (at_ a)) (pval U n (at_ b))];congr 2;exact mlin [β (pval U n (at_ a)) (pval U n (at_ b))]
end
section
variable[IMod (GT (gS O))]{β:GT (gS O)->GT (gS O)->GT (gS O)}(g:LG O P C)(k:clsOk O P C)(L:LieOf O P C β)(oz:Lz (qO O) O.length (lrPs O P C O.length) (lrCs O P C O.length) c)
noncomputable abbrev gV (O:V1) [IMod (GT (gS O))] (a:V1):GT (gS O):=pval (gU O) O.length (at_ a)
noncomputable abbrev lbch (O:V1) (P:V2) (C:V3):V1->V1->V1:=bch (qO O) O.length (lrPs O P C O.length) (lrCs O P C O.length)
include g k L oz
theorem zRM(u:El (qO O) O.length x)(A:El (qO O) O.length y):(gV O (lbch O P C x y)).1=gm O P C (gV O x).1 (gV O y).1:=by
 have v:=zBQ g k L;have o:=v.o;have q:=v.q;have D:=br_el (B:=lrCs O P C O.length) (a:=x) (b:=y) o q;have M:El (qO O) O.length (Zm (qO O) (lrPs O P C O.length) (lrCs O P C O.length) O.length x y):=Qx o q;obtain⟨j,E,G⟩:=v.dv D (oz.d2 (x:=x) (y:=y) u);obtain⟨l,I,J⟩:=v.dv M (oz.d12 (x:=x) (y:=y) u);have Q:=v.br x y;rw[Q]at E G;rw[v.thd u A]at I J;have N:=L.mul (gV O x) (gV O y) j l G J;rw[N]
 show(pval (gU O) O.length (at_ (ladd _ _ (ladd _ _ (ladd _ _ x y) _) _))).1=_
 rw[v.add (zP o (zP o u A) (dv_el o D)) (dv_el o M),v.add (zP o u A) (dv_el o D),v.add u A,E,I]
theorem zQW:(gV O (List.replicate O.length 0)).1=zv O:=by
 show(pval (gU O) O.length _).1=_
 rw[Zt λi _=>qF _ i,L.zero1]
theorem cf_eq(D:gS O x){a:V1}(A:El (qO O) O.length a)(h:(gV O a).1=x):cfG O P C x=a:=by
 obtain⟨l,u⟩:=QP g k L D;exact zH9 g k L l A (u.trans (GT.eq h.symm))
theorem zMs{e:V1}(u:gS O e):∀i,i<=O.length->(gV O (ptG (qO O) O.length (lrPs O P C O.length) (lrCs O P C O.length) e i)).1=Grp.ph (gm O P C) (zv O) (Grp.unit O) (nx e) 0 i
 |0,_=>zQW g k L oz
 |i+1,hi=>by
  have v:=zBQ g k L;have o:=v.o;have M:=g.F.g.toMon;have l:=qA (n:=O.length) o.pr (show i<O.length by omega);have G:=zBZ (B:=lrCs O P C O.length) o v.q e (show i<=O.length by omega);have I:El (qO O) O.length (lmul (qO O) (lrPs O P C O.length) (at_ e i) (unitL O.length i)):=zP o l l;have D:∀j,j<O.length->gS O (Grp.unit O j):=λj A=>g.s.unit A (YW _);have J:=u.bd i (by omega);have E:=M.ph_app (f:=Grp.unit O) (x:=nx e) (b:=1) (a:=i) (t:=0) (λj _ A=>D j (by omega));rw[E,Y5]
  show(gV O (lbch O P C _ _)).1=_
  rw[zRM g k L oz G I,zMs u i (by omega)];congr 1
  show(pval (gU O) O.length _).1=gm O P C (Grp.pw (gm O P C) (zv O) (Grp.unit O i) (nx e i)) (zv O)
  rw[v.mul l,zBw (by omega),M.r1 (M.pw (D i (by omega)) _),<-gU1 g (show i<O.length by omega),<-L.nat1]
  show(at_ e i • gU O i).1=(((at_ e i).toNat:Int) • gU O i).1
  rw[YI J.1]
theorem pt_cf(l:gS O x):ptG (qO O) O.length (lrPs O P C O.length) (lrCs O P C O.length) x O.length=cfG O P C x:=by
 have v:=zBQ g k L;refine(cf_eq g k L oz l (zBZ v.o v.q x (na _)) ?_).symm;rw[zMs g k L oz l O.length (na _)];exact g.F.nfx l
theorem zRV(E:gS O x)(G:gS O y)(hs:gS O (gsum O P C x y)):cfG O P C (gsum O P C x y)=ladd (qO O) (lrPs O P C O.length) (cfG O P C x) (cfG O P C y):=by
 have v:=zBQ g k L;obtain⟨l,A⟩:=QP g k L E;obtain⟨u,D⟩:=QP g k L G;refine cf_eq g k L oz hs (zP v.o l u) ?_
 show(pval (gU O) O.length _).1=_
 rw[v.add l u,A,D,L.sum1];rfl
theorem cf_br(A:gS O x)(D:gS O y)(hs:gS O (gbr O P C x y)):cfG O P C (gbr O P C x y)=br (qO O) (lrPs O P C O.length) (lrCs O P C O.length) O.length (cfG O P C x) (cfG O P C y):=by
 have v:=zBQ g k L;obtain⟨E,l⟩:=QP g k L A;obtain⟨G,u⟩:=QP g k L D;refine cf_eq g k L oz hs (br_el v.o v.q) ?_
 show(pval (gU O) O.length _).1=_
 rw[v.br,l,u,L.br1];rfl
end
theorem zQN(g:LG O P C)(k:clsOk O P C):∃c,Lz (qO O) O.length (lrPs O P C O.length) (lrCs O P C O.length) c/\(∀x,gS O x->ptG (qO O) O.length (lrPs O P C O.length) (lrCs O P C O.length) x O.length=cfG O P C x)/\
  (∀x y,gS O x->gS O y->cfG O P C (gsum O P C x y)=ladd (qO O) (lrPs O P C O.length) (cfG O P C x) (cfG O P C y)/\cfG O P C (gbr O P C x y)=br (qO O) (lrPs O P C O.length) (lrCs O P C O.length) O.length (cfG O P C x) (cfG O P C y)):=by
 obtain⟨I,β,L⟩:=g.lie k;obtain⟨c,z⟩:=lr_lz g k L;exact⟨c,z,λx l=>pt_cf g k L z l,λx y l u=>⟨zRV g k L z l u (zEM g k l u),cf_br g k L z l u (zDr g k l u)⟩⟩
end
section
variable{s b:Nat}
def ElV(p:Int)(W:V2)(B:V3)(xs:V2)(P:Prop)(val z:V1)(c:Int):Prop:=
 (¬(isLie p W B/\Els p W.length xs)/\z=[]/\c=1)\/((isLie p W B/\Els p W.length xs)/\¬P/\z=[]/\c=2)\/((isLie p W B/\Els p W.length xs)/\P/\z=val/\c=0)
theorem ElV.ok{xs:V2}{P:Prop}{val z:V1}{c:Int}(h:ElV p W B xs P val z c)(A:isLie p W B)(D:Els p W.length xs)(E:P):z=val/\c=0:=by
 rcases h with ⟨g,_⟩|⟨_,g,_⟩|⟨_,_,l,u⟩
 .exact absurd ⟨A,D⟩ g
 .exact absurd E g
 .exact⟨l,u⟩
theorem el1(h:El p n x):Els p n [x]:=λy l=>by rw[YN.1 l];exact h
theorem el2'(h:El p n x)(g:El p n y):Els p n [x,y]:=λz l=>by simp at l;rcases l with rfl|rfl<;>assumption
theorem ZE(R:FI vx x)(S:FI vy y)(hl:x.length<=1048576)(A:∀t:Bool,(t=true↔x=y)->K (.bool t) σ):zA Tryz.prog 12 [vx,vy] σ K:=by
 obtain⟨V,J,rfl⟩:=R;obtain⟨X,M,rfl⟩:=S;refine zD mix Tryz.func12 ?_;simp only[Z3,seval,-ae];by_cases Q:x.length=y.length;rotate_left
 .have an:¬(x.length:Int)=(y.length:Int):=by omega
  simp only[Z3,seval,-ae,an];exact A false ⟨λh=>(by cases h),λh=>absurd (by rw[h]) Q⟩
 have heq:(x.length:Int)=(y.length:Int):=by omega
 simp only[Z3,seval,-ae,heq];refine zF (λm I g=>∃i:Nat,i<=y.length/\m=y.length-i/\I=[.fz V J x.length (pis x),.fz X M y.length (pis y),.int .i64 i]/\g=σ/\∀j,j<i->x[j]? = y[j]?) y.length ⟨0,by omega,by omega,rfl,rfl,λj G=>absurd G (Nat.not_lt_zero _)⟩ ?_
 rintro m I g ⟨i,hi,rfl,rfl,rfl,E⟩
 simp only[Z3,seval,-ae,heq];refine iteI (λZ=>?_) λY=>?_;rotate_left
 .refine A true ⟨λ_=>List.ext_getElem? λj=>?_,λ_=>rfl⟩;rcases YG j i with e|e
  .exact E j e
  .rw[Yq (by omega),Yq (by omega)]
 have u:i<x.length:=by omega
 have l:i<y.length:=by omega
 have N:IntKind.i64.wrap ((i:Int)+1)=((i+1:Nat):Int):=wrapS l (by omega);simp only[Z3,seval,-ae,pisAt u,pisAt l,u,l,N];refine iteI (λD=>?_) λD=>?_
 .refine⟨_,by omega,i+1,by omega,rfl,rfl,λj G=>?_⟩;rcases YG j i with e|e
  .exact E j e
  .obtain rfl:j=i:=by omega
   rw[YQ u,YQ l,<-at_eq u,<-at_eq l,D]
 .refine A false ⟨λh=>(by cases h),λh=>absurd ?_ D⟩;rw[h]
theorem zRZ(l:FB vC bs)(u:∀t:Bool,(t=true↔4096<bs.length)->K (.bool t) σ):zA Tryz.prog 6 [vC] σ K:=by
 obtain⟨w,a,rfl⟩:=l;refine zD mix Tryz.func6 ?_;simp only[Z3,seval,-ae];refine u _ ?_;rw[decide_eq_true_eq];omega
theorem zRd(o:OkW p n W)(hs:PtrR σ s p vP vB)(A:FII vP W)(l:El p n x)(u:El p n y)(G:FI vx x)(I:FI vy y)(D:∀v,FI v (ladd p W x y)->K v σ):zA Tryz.prog 57 [.ptr s 0,vx,vy] σ K:=by
 obtain⟨w,a,rfl⟩:=G;obtain⟨J,a',rfl⟩:=I;have E:=(zP o l u (k:=1) (m:=1)).1;exact Qa hs A o l u rfl rfl λv=>D _ ⟨true,v,by rw[E]⟩
theorem zPg(A:IsR vP vB W B)(R:SzR W B)(l:FI vx x)(X:x.length<=1048576)(u:FI vy y)(Y:y.length<=1048576)
  (G:∀v z c,ElV p W B [x,y] True (ladd p W x y) z c->FI v z->K (.tup [v,.int .i64 c]) σ):zA Tryz.prog 18 [.agg [.int .i64 p,vP,vB],vx,vy] σ K:=by
 have S:=A.P.one;have V:=A.B.one;refine zA.gh ?_;refine zD mix Tryz.func18 ?_;simp only[Z3,seval,-ae,S,V,l.one,l.cells,u.one,u.cells];have E:Keep σ (((σ.new [.int .i64 p,vP,vB]).new [vx,vy]).kill (σ.next+1)):=((zC σ _).new _).kill (by omega);refine zA.frz (s:=σ.next+1) (cs:=[vx,vy]) (by simp only[Z3,seval,-ae]) ⟨l.bel 0,u.bel 0,trivial⟩ λo=>?_;simp only[sbs,sb,capOK,and_self,if_true,decide_true,na];refine zAj (p:=p) (vP:=vP) (vB:=vB) (xs:=[x,y]) ⟨by simp only[Z3,seval,-ae],by simp only[Z3,seval,-ae];omega⟩ A R (zBM l u) (SzL.two X Y) λt J=>?_;cases t with
 |false=>
  simp only[Z3,seval,-ae];exact Gh.fin0 E ⟨trivial,trivial,trivial⟩ (G _ [] 1 (.inl ⟨λe=>(by have:=J.2 e;cases this),rfl,rfl⟩) ⟨_,_,rfl⟩)
 |true=>
 obtain⟨I,D⟩:=J.1 rfl;have N:=D x (by simp);have Q:=D y (by simp);simp only[Z3,seval,-ae];refine zRd (p:=p) (vP:=vP) (vB:=vB) I.1.w ⟨by simp only[Z3,seval,-ae],by simp only[Z3,seval,-ae];omega⟩ A.P N Q l u λv M=>?_;simp only[Z3,seval,-ae];exact Gh.fin0 E ⟨M.bel _,trivial,trivial⟩ (G _ _ 0 (.inr (.inr ⟨⟨I,D⟩,trivial,rfl,rfl⟩)) M)
theorem zOK(A:IsR vP vB W B)(R:SzR W B)(l:FI vx x)(X:x.length<=1048576)(u:FI vy y)(Y:y.length<=1048576)
  (I:∀v z c,ElV p W B [x,y] True (br p W B W.length x y) z c->FI v z->K (.tup [v,.int .i64 c]) σ):zA Tryz.prog 19 [.agg [.int .i64 p,vP,vB],vx,vy] σ K:=by
 have S:=A.P.one;have V:=A.B.one;refine zA.gh ?_;refine zD mix Tryz.func19 ?_;simp only[Z3,seval,-ae,S,V,l.one,l.cells,u.one,u.cells];have G:Keep σ (((σ.new [.int .i64 p,vP,vB]).new [vx,vy]).kill (σ.next+1)):=((zC σ _).new _).kill (by omega);refine zA.frz (s:=σ.next+1) (cs:=[vx,vy]) (by simp only[Z3,seval,-ae]) ⟨l.bel 0,u.bel 0,trivial⟩ λo=>?_;simp only[sbs,sb,capOK,and_self,if_true,decide_true,na];refine zAj (p:=p) (vP:=vP) (vB:=vB) (xs:=[x,y]) ⟨by simp only[Z3,seval,-ae],by simp only[Z3,seval,-ae];omega⟩ A R (zBM l u) (SzL.two X Y) λt J=>?_;cases t with
 |false=>
  simp only[Z3,seval,-ae];exact Gh.fin0 G ⟨trivial,trivial,trivial⟩ (I _ [] 1 (.inl ⟨λe=>(by have:=J.2 e;cases this),rfl,rfl⟩) ⟨_,_,rfl⟩)
 |true=>
 obtain⟨E,D⟩:=J.1 rfl;have N:=D x (by simp);have Q:=D y (by simp);simp only[Z3,seval,-ae];refine zMO (p:=p) (vP:=vP) (vB:=vB) E.1.w E.1.b ⟨by simp only[Z3,seval,-ae],by simp only[Z3,seval,-ae];omega⟩ A N Q l u λv M=>?_;simp only[Z3,seval,-ae];exact Gh.fin0 G ⟨M.bel _,trivial,trivial⟩ (I _ _ 0 (.inr (.inr ⟨⟨E,D⟩,trivial,rfl,rfl⟩)) M)
end
theorem zDb(ha:FII va xs)(hb:FII vb ys)(sz:SzL xs)(A:∀t:Bool,(t=true↔xs=ys)->K (.bool t) σ):zA Tryz.prog 36 [va,vb] σ K:=by
 obtain⟨wx,R,rx,rfl,M⟩:=ha;obtain⟨wy,S,ry,rfl,J⟩:=hb;have hl:=sz.l;refine zD mix Tryz.func36 ?_;simp only[Z3,seval,-ae];by_cases X:xs.length=ys.length;rotate_left
 .have an:¬(xs.length:Int)=(ys.length:Int):=by omega
  simp only[Z3,seval,-ae,an];exact A false ⟨λh=>(by cases h),λh=>absurd (by rw[h]) X⟩
 have heq:(xs.length:Int)=(ys.length:Int):=by omega
 simp only[Z3,seval,-ae,heq];refine zF (λm I g=>∃i:Nat,i<=ys.length/\m=ys.length-i/\I=[.fz wx R xs.length rx,.fz wy S ys.length ry,.int .i64 i]/\g=σ/\∀j,j<i->xs[j]? = ys[j]?) ys.length ⟨0,by omega,by omega,rfl,rfl,λj E=>absurd E (Nat.not_lt_zero _)⟩ ?_
 rintro m I g ⟨i,hi,rfl,rfl,rfl,D⟩
 simp only[Z3,seval,-ae,heq];refine iteI (λah=>?_) λaF=>?_;rotate_left
 .refine A true ⟨λ_=>List.ext_getElem? λj=>?_,λ_=>rfl⟩;rcases YG j i with e|e
  .exact D j e
  .rw[Yq (by omega),Yq (by omega)]
 have u:i<xs.length:=by omega
 have l:i<ys.length:=by omega
 have V:IntKind.i64.wrap ((i:Int)+1)=((i+1:Nat):Int):=wrapS l (by omega);obtain⟨w1,N,Y⟩:=M.rowI u;obtain⟨w2,Q,Z⟩:=J.rowI l;have hle:=sz.r _ (YK u);simp only[Z3,seval,-ae,Y,Z,u,l];refine ZE ⟨w1,N,rfl⟩ ⟨w2,Q,rfl⟩ hle λt G=>?_;cases t with
 |false=>
  simp only[Z3,seval,-ae];refine A false ⟨λh=>(by cases h),λh=>?_⟩
  have:=G.2 (by simp only[h])
  cases this
 |true=>
  have hv:=G.1 rfl;simp only[Z3,seval,-ae,V];refine⟨_,by omega,i+1,by omega,rfl,rfl,λj E=>?_⟩;rcases YG j i with e|e
  .exact D j e
  .obtain rfl:j=i:=by omega
   rw[YQ u,YQ l,hv]
theorem zHV{va vb:PV}{xs ys:V3}(Y:FIII va xs)(Z:FIII vb ys)(hl:xs.length<=1048576)(sz:∀q∈xs,SzL q)(E:∀t:Bool,(t=true↔xs=ys)->K (.bool t) σ):zA Tryz.prog 51 [va,vb] σ K:=by
 have I:∀{A:Prop},¬A->((false=true)↔A):=λh=>⟨λx=>(by cases x),λx=>absurd x h⟩
 obtain⟨wx,V,rx,rfl,N⟩:=Y;obtain⟨wy,X,ry,rfl,M⟩:=Z;refine zD mix Tryz.func51 ?_;simp only[Z3,seval,-ae];by_cases G:xs.length=ys.length;rotate_left
 .have u:¬(xs.length:Int)=(ys.length:Int):=by omega
  simp only[Z3,seval,-ae,u];exact E _ (I λh=>G (by rw[h]))
 have u:(xs.length:Int)=(ys.length:Int):=by omega
 simp only[Z3,seval,-ae,eq_true u];refine zF (λm vs h'=>∃i:Nat,i<=xs.length/\m=xs.length-i/\vs=[.fz wx V xs.length rx,.fz wy X ys.length ry,.int .i64 i]/\σ=h'/\xs.take i=ys.take i) xs.length ⟨0,by omega,by omega,rfl,rfl,rfl⟩ ?_
 rintro m vs h' ⟨i,hi,rfl,rfl,rfl,heq⟩
 simp only[Z3,seval,-ae];refine iteI (λl=>?_) λaF=>?_;rotate_left
 .have aU:i=xs.length:=by omega
  subst aU;rw[Yg,G,Yg]at heq;exact E _ ⟨λ_=>heq,λ_=>rfl⟩
 have D:i<ys.length:=by omega
 obtain⟨w4,R,r4,hr,yF⟩:=N.rowL l;obtain⟨w5,S,r5,Q,oE⟩:=M.rowL D;simp only[Z3,seval,-ae,l,D,hr,Q];refine zDb (xs:=xs[i]) (ys:=ys[i]) ⟨w4,R,r4,rfl,yF⟩ ⟨w5,S,r5,rfl,oE⟩ (sz _ (YK l)) λt J=>?_;cases t with
 |true=>
  simp only[Z3,seval,-ae,WX l];refine⟨_,by omega,i+1,by omega,rfl,rfl,?_⟩;rw[YU l,YU D,heq,J.1 rfl]
 |false=>
  simp only[Z3,seval,-ae];refine E _ (I λh=>?_)
  have:=J.2 (by subst h;rfl)
  cases this
theorem zHU(A:IsR vP vB W B)(u:IsR nE nF W' B')(l:SzR W B)(M:∀t:Bool,(p=p'->W=W'->B=B'->t=true)->K (.bool t) σ):zA Tryz.prog 15 [.agg [.int .i64 p,vP,vB],.agg [.int .i64 p',nE,nF]] σ K:=by
 have R:=A.P.one;have S:=A.B.one;have V:=u.P.one;have X:=u.B.one;refine zA.gh ?_;refine zD mix Tryz.func15 ?_;simp only[Z3,seval,-ae,R,S,V,X];have I:Keep σ ((σ.new [.int .i64 p,vP,vB]).new [.int .i64 p',nE,nF]):=(zC σ _).new _;have E:((σ.new [.int .i64 p,vP,vB]).new [.int .i64 p',nE,nF]).rd1 σ.next 1=some vP:=by simp only[Z3,seval,-ae]
 have G:((σ.new [.int .i64 p,vP,vB]).new [.int .i64 p',nE,nF]).rd1 σ.next 2=some vB:=by simp only[Z3,seval,-ae]
 have b1:((σ.new [.int .i64 p,vP,vB]).new [.int .i64 p',nE,nF]).rd1 (σ.next+1) 1=some nE:=by simp only[Z3,seval,-ae]
 have J:((σ.new [.int .i64 p,vP,vB]).new [.int .i64 p',nE,nF]).rd1 (σ.next+1) 2=some nF:=by simp only[Z3,seval,-ae]
 generalize (σ.new [.int .i64 p,vP,vB]).new [.int .i64 p',nE,nF]=H at *
 by_cases D:p=p';rotate_left
 .simp only[Z3,seval,-ae,D,decide_false];exact Gh.fin0 I trivial (M _ λh=>absurd h D)
 simp only[Z3,seval,-ae,D,eq_true D,decide_true,E,G,b1,J];refine zDb A.P u.P ⟨l.Wl,l.w⟩ λt N=>?_;cases t with
 |false=>
  simp only[Z3,seval,-ae,E,G,b1,J];exact Gh.fin0 I trivial (M _ λ_ h _=>N.2 h)
 |true=>
  simp only[Z3,seval,-ae,E,G,b1,J];refine zHV A.B u.B l.Bl (λq Q=>⟨l.b q Q,l.c q Q⟩) λt N=>?_;simp only[Z3,seval,-ae];exact Gh.fin0 I trivial (M _ λ_ _ h=>N.2 h)
end Go.Proofs
namespace Go.Proofs.YtnfnaniemocleaaGreat
open Go.ChangeShapes Go.WideShapes Go.ChangeAt Go.RowKit Go.Ab Go.Joins Go.Lie Go.Proofs
section
variable{H:Type}{enc:TypeId×Value->H}{W w0:World}{j:Inj}{h:AHeap}
theorem cell8:Tryz.prog.cellsOf 5=1:=by kernel_rfl
theorem lay8:Lay1 enc Tryz.prog W 5 (λpv (n:Int)=>pv=.int .u8 n/\0<=n/\n<=255):=by
 intro w0 j h held fuel v x m D;obtain⟨n,l,_,hw⟩:=DataW.trod_int Tryz.underlying5 D;simp only[List.cons.injEq,and_true]at l;subst l;simp only[Lit.wf,Y6,decide_eq_true_eq]at hw;have u:IntKind.u8.min=0:=by rfl
 have A:IntKind.u8.max=255:=by rfl
 rw[u,A]at hw;exact⟨j,h,.int .u8 n,n,m,Inj.le.refl _,Ext.refl m.wf,rfl,trivial,rfl,rfl,hw.1,hw.2⟩
theorem FL.bytes{v:PV}{xs:V1}(h:FL (λpv (n:Int)=>pv=.int .u8 n/\0<=n/\n<=255) v xs):FB v xs:=by
 obtain⟨w,a,rows,rfl,l⟩:=h;refine⟨w,a,?_⟩;congr 1;apply List.ext_getElem?;intro k;rw[UU];rcases YG k xs.length with x|x
 .obtain⟨pv,u,A⟩:=l.get x;rw[u,gi x,A.1];rfl
 .rw[Yq (by rw[l.1];exact x),Yq x];rfl
theorem layB:Lay1 enc Tryz.prog W 22 (λv (xs:V1)=>FB v xs/\∀b∈xs,0<=b/\b<=255):=by
 intro w0 j h held fuel v x m J;obtain⟨M,h',pv,a,u,A,D,E,G,I,l,N⟩:=zNc Tryz.underlying22 cell8 lay8 w0 j h held fuel v x m J;exact⟨M,h',pv,a,u,A,D,E,G,I,FL.bytes l,l.all λ_ _ k=>k.2⟩
end
end Go.Proofs.YtnfnaniemocleaaGreat
