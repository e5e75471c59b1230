/- . -/
import Derived.Test.YtgkbfiilhocioaaGreatGP4
open Nat renaming le_refl→vH
open Int renaming reduceNatCast'->ae
set_option maxRecDepth 100000
set_option linter.unusedSimpArgs false
set_option linter.unusedVariables false
namespace Go.Proofs
open Go.Ab Go.Lie
variable{U:PHeap}{K:PV->PHeap->Prop}{p:Int}{n:Nat}{W:L4}{B:L5}{vP vB vU vV:PV}{s:Nat}
theorem zEE(hR:IsR vP vB W B)(mN:W.length=n)(hn:n<=1048576)(hk:∀v,FII v (units n)->K v U):zA Tryz.prog 146 [.agg [.int .i64 p,vP,vB]] U K:=by
 have h1:=hR.P.one;have h2:=hR.B.one;have pH:=hR;obtain⟨⟨wp,ap,rp,rfl,ks⟩,hB⟩:=hR;refine zA.gh ?_;refine zB mix Tryz.func146 ?_
 conv=>arg 2;cbv
 refine zC rfl ?_;simp only[Z3,seval,-ae,h1,h2];generalize hH:U.new [.int .i64 p,.fz wp ap W.length rp,vB]=H;have ns:H.next=U.next+1:=by rw[<-hH];simp only[Z3,seval,-ae]
 have gP:Keep U H:=by rw[<-hH];exact zD U _
 have iV:H.obj U.next=some [.int .i64 p,.fz wp ap W.length rp,vB]:=by rw[<-hH];simp only[Z3,seval,-ae]
 refine zF (λm vs h'=>∃(i:Nat) (v:PV) (rows:List PV),i<=n/\m=n-i/\vs=[.ptr U.next 0,v,.int .i64 i]/\Keep H h'/\PSl H.next 1 h' v i rows/\All2 FI rows ((units n).take i)) n ?_ ?_
 .refine⟨0,_,[],by omega,by omega,rfl,zD H _,?_,by rw[List.take_zero];exact All2.nil _⟩;rw[<-ns];exact PSl.new H.next 1 rfl (vH _)
 rintro m vs h' ⟨i,v,rows,hi,rfl,rfl,ar,ha,aq⟩
 have gd:h'.obj U.next=some [.int .i64 p,.fz wp ap W.length rp,vB]:=by rw[ar.obj _ (by omega)];exact iV
 have lj:h'.rd1 U.next 1=some (.fz wp ap W.length rp):=by rw[zG gd];rfl
 have fh:h'.rd U.next 0 3=some [.int .i64 p,.fz wp ap W.length rp,vB]:=by rw[ZT gd];rfl
 simp only[Z3,seval,-ae,lj,mN];refine iteI (λag=>?_) λaG=>?_
 .simp only[Z3,seval,-ae,fh];refine Zn pH mN hn ag λa1=>?_;simp only[Z3,seval,-ae];refine PSl.push (bytes:=24) ar ha (by omega) (by omega) λv' h2 k2 a2=>?_;simp only[Z3,seval,-ae,wrapS ag (by omega:n<=4611686018427387904)];refine⟨_,by omega,i+1,v',_,by omega,rfl,rfl,k2,a2,?_⟩;rw[zEy ag];exact aq.snoc ⟨true,a1,by rw[Zc]⟩
 .have aI:i=n:=by omega
  subst aI;rw[List.take_of_length_le (by rw[Zb];exact vH _)]at aq;obtain⟨s',cap,rfl,hc,q2,q3,q4,q5⟩:=ha;exact Gh.finF (gP.trans ar) q2 (by omega) (aq.bI 0) hc.ok λo1=>hk _ ⟨true,.sl o1 0 i cap,rows,by rw[Zb],aq⟩
theorem zQa{b:Nat}{u:L4}(hb:U.rd1 b 0=some (.ptr s 0))(hs:PtrR U s p vP vB)(hR:IsR vP vB W B)(o:OkW p n W)(q:OkB p n B)(hp:isP p)(hU:FII vU u)(eu:Els p n u)(c7:u.length<=6)
  (hk:∀v out,Canon p n W (brL p W B n u (units n)) out->FII v out->K v U):zA Tryz.prog 254 [vU,.ptr b 0] U K:=by
 have aX:=o.le;have u5:=hU;obtain⟨wu,au,ru,rfl,fP⟩:=hU;refine zB mix Tryz.func254 ?_
 conv=>arg 2;cbv
 refine zC rfl ?_;simp only[Z3,seval,-ae,hb];refine zD3 hs hR.P o.len (by omega) λvV hV=>?_;have nq:=hV;obtain⟨wv,av,rv,rfl,iH⟩:=hV;simp only[Z3,seval,-ae,hb];refine zEN hs hR o q u5 nq eu (zC2 o.pr) c7 (by rw[Zb];exact aX) λvZ hZ=>?_;have A3:=hZ;obtain⟨wz,az,rz,rfl,lg⟩:=hZ;have dT:(brL p W B n u (units n)).length<=1048576:=by
  rw[zAR,Zb]
  have:u.length*n<=6*6:=Nat.mul_le_mul c7 aX
  omega
 simp only[Z3,seval,-ae,hb];refine zFM hs hR.P o hp A3 (zCR o q _ _) dT λv out hc hv=>?_;simp only[Z3,seval,-ae];exact hk v out hc hv
theorem zQ3(o:OkW p n W)(q:OkB p n B){a b:L3}{k:Nat}(ha:∀j,j<k->at_ a j=0):∀j,j<k+1->at_ (br p W B n a b) j=0:=by
 have hs:∀t,t<k+1->at_ (bsum B a b n) t=0:=λt ht=>by
  rw[bsum,bi_at q t (vH _)];refine ZF _ λi hi=>ZF _ λj hj=>?_;rcases Nat.lt_or_ge (i+1+j) k with x|x
  .rw[coef,ha i (by omega),ha _ x,Int.zero_mul,Int.zero_mul,Int.sub_zero,Int.zero_mul]
  .rw[(q.get hi hj).2 t (by omega),Int.mul_zero]
 intro j hj;rcases Nat.lt_or_ge j n with x|x
 .exact zAo o (ZV q) (d:=min (k+1) n) (Nat.min_le_right _ _) (λj hj=>hs j (by omega)) j (by omega)
 .exact at_ge (by rw[(br_el o q).1];exact x)
theorem zCV(o:OkW p n W)(q:OkB p n B){u out:L4}(hc:Canon p n W (brL p W B n u (units n)) out){m:Nat}(hu:∀x∈u,m<=dep x):∀y∈out,m+1<=dep y:=λy hy=>by
 have hl:=hc.base.led y hy;have hg:Gen p n W (brL p W B n u (units n)) (at_ y):=(hc.gen _).2 (qF hy);have hz:=zCm o (m:=min (m+1) n) (zCR o q _ _) (Nat.min_le_right _ _) (λv hv j hj=>by
  obtain⟨x,hx,h⟩:=List.mem_flatMap.1 hv;obtain⟨e,he,rfl⟩:=List.mem_map.1 h;exact zQ3 o q (k:=m) (λj hj=>qE (by have:=hu x hx;omega)) j (by omega)) hl.1 hg
 have hd:=zAO (v:=y) (d:=min (m+1) n) (by rw[hl.1.1];exact Nat.min_le_right _ _) hz
 have:=hl.2.1
 omega
theorem zNw(o:OkW p n W)(q:OkB p n B){u:L4}(hc:Canon p n W (brL p W B n u (units n)) u):u=[]:=by
 have h:∀m:Nat,∀x∈u,m<=dep x:=λm=>by
  induction m with
  |zero=>exactλx hx=>Nat.zero_le _
  |succ m ih=>exact zCV o q hc ih
 cases u with
 |nil=>rfl
 |cons x t=>
  have h1:=h n x (by simp);have h2:=(hc.base.led x (by simp)).2.1;omega
theorem zQZ(o:OkW p n W)(q:OkB p n B){out:L4}(hc:Canon p n W (brL p W B n [] (units n)) out):out=[]:=by
 cases out with
 |nil=>rfl
 |cons y t=>
  have h1:=zCV o q hc (m:=n) (λx hx=>by cases hx) y (by simp);have h2:=(hc.base.led y (by simp)).2.1;omega
inductive Low(p:Int)(n:Nat)(W:L4)(B:L5):Nat->L4->Prop where
 |zero:Low p n W B 0 (units n)
 |succ {k:Nat} {u out:L4} (h:Low p n W B k u) (hc:Canon p n W (brL p W B n u (units n)) out):Low p n W B (k+1) out
theorem Low.unique(o:OkW p n W):∀{k:Nat} {u v:L4},Low p n W B k u->Low p n W B k v->u=v
 |_,_,_,.zero,.zero=>rfl
 |_,_,_,.succ h hc,.succ h' iO=>by
  have:=Low.unique o h h'
  subst this;exact hc.unique o iO
theorem Low.els(o:OkW p n W):∀{k:Nat} {u:L4},Low p n W B k u->Els p n u/\u.length<=n
 |_,_,.zero=>⟨zC2 o.pr,by rw[Zb];exact vH _⟩
 |_,_,.succ _ hc=>⟨hc.base.els,QE (λv hv=>(hc.base.led v hv).2.1) hc.base.asc⟩
theorem Low.dep(o:OkW p n W)(q:OkB p n B):∀{k:Nat} {u:L4},Low p n W B k u->∀x∈u,k<=Go.Lie.dep x
 |_,_,.zero=>λx hx=>Nat.zero_le _
 |_,_,.succ h hc=>zCV o q hc (Low.dep o q h)
theorem Low.le(o:OkW p n W)(q:OkB p n B){k:Nat}{u:L4}(h:Low p n W B k u)(hu:u≠[]):k<=n:=by
 cases u with
 |nil=>exact absurd rfl hu
 |cons x t=>
  have h1:=h.dep o q x (by simp);have h2:=Qd x;have h3:=((h.els o).1 x (by simp)).1;omega
def Cls(p:Int)(n:Nat)(W:L4)(B:L5)(c:Nat):Prop:=Low p n W B c []/\∀k u,k<c->Low p n W B k u->u≠[]
theorem Cls.unique{c d:Nat}(h:Cls p n W B c)(g:Cls p n W B d):c=d:=by
 rcases Nat.lt_trichotomy c d with x|x|x
 .exact absurd rfl (g.2 c _ x h.1)
 .exact x
 .exact absurd rfl (h.2 d _ x g.1)
theorem zRh:okF Tryz.prog 277=true:=by kernel_rfl
theorem zIi{xs ys:L4}(hU:FII vU xs)(hV:FII vV ys)(hx:xs.length<=1048576)(aV:∀x∈xs,x.length<=1048576)(hk:∀t:Bool,(t=true↔xs=ys)->K (.bool t) U):
  zA Tryz.prog 276 [vU,vV,.clo 277 [] []] U K:=by
 have fl:∀{A:Prop},¬A->((false=true)↔A):=λh=>⟨λx=>(by cases x),λx=>absurd x h⟩
 obtain⟨wu,au,ru,rfl,fP⟩:=hU;obtain⟨wv,av,rv,rfl,iH⟩:=hV;refine zB mix Tryz.func276 ?_
 conv=>arg 2;cbv
 refine zC rfl ?_;by_cases hl:xs.length=ys.length
 .simp only[Z3,seval,-ae,hl];refine zF (λm vs h'=>∃i:Nat,i<=ys.length/\m=ys.length-i/\vs=[.fz wv av ys.length rv,.clo 277 [] [],.fz wu au ys.length ru,.int .i64 ys.length,.int .i64 i]/\U=h'/\xs.take i=ys.take i) ys.length ?_ ?_
  .exact⟨0,by omega,by omega,rfl,rfl,by simp⟩
  rintro m vs h' ⟨i,hi,rfl,rfl,rfl,heq⟩
  simp only[Z3,seval,-ae];refine iteI (λag=>?_) λaG=>?_
  .have iL:i<xs.length:=by omega
   obtain⟨w4,a4,hr⟩:=fP.rowI iL;obtain⟨w5,a5,kv⟩:=iH.rowI ag;simp only[Z3,seval,-ae,ag,hr,kv];refine⟨zRh,zIh rfl rfl (by have:=aV _ (List.getElem_mem iL);omega) ?_⟩;by_cases he:xs[i]=ys[i]
   .simp only[Z3,seval,-ae,he,wrapS ag (by omega:ys.length<=4611686018427387904)];exact⟨_,by omega,i+1,by omega,rfl,rfl,zID hl iL heq he⟩
   .simp only[Z3,seval,-ae,he];refine hk _ (fl λe=>?_);subst e;exact he rfl
  .have aI:i=ys.length:=by omega
   subst aI;refine hk _ ⟨λ_=>?_,λ_=>rfl⟩;rw[List.take_of_length_le (by omega),List.take_of_length_le (vH _)]at heq;exact heq
 .have zp:((xs.length:Int)=(ys.length:Int))=False:=by simp;omega
  simp only[Z3,seval,-ae,zp];exact hk _ (fl λe=>hl (by rw[e]))
theorem zD7{xs ys:L4}(hU:FII vU xs)(hV:FII vV ys)(hx:xs.length<=1048576)(aV:∀x∈xs,x.length<=1048576)(hk:∀t:Bool,(t=true↔xs=ys)->K (.bool t) U):
  zA Tryz.prog 187 [vU,vV] U K:=by
 refine zB mix Tryz.func187 ?_
 conv=>arg 2;cbv
 refine zC rfl ?_;simp only[Z3,seval,-ae];refine zIi hU hV hx aV λt ht=>?_;simp only[Z3,seval,-ae];exact hk t ht
theorem zRg:okF Tryz.prog 254=true:=by kernel_rfl
theorem zL3{b:Nat}(hb:U.obj b=some [.ptr s 0])(kQ:b<U.next)(hs:PtrR U s p vP vB)(hR:IsR vP vB W B)(o:OkW p n W)(q:OkB p n B)(hp:isP p)(hU:FII vU (units n))
  (hk:∀c a rows,Cls p n W B c->K (.fz true a (c+1) rows) U):zA Tryz.prog 253 [vU,.clo 254 [] [.ptr b 0]] U K:=by
 have aX:=o.le;have h1:=hU.one;have Bx:=hU.cells;refine zA.gh ?_;refine zB mix Tryz.func253 ?_
 conv=>arg 2;cbv
 refine zC rfl ?_;simp only[Z3,seval,-ae,h1,Bx];refine zF (λm vs h'=>∃k u us rows v,m=n+1-k/\k<=n+1/\vs=[.clo 254 [] [.ptr b 0],v]/\Keep U h'/\PSl U.next 1 h' v (k+1) rows/\All2 FII rows us/\us.length=k+1/\us[k]? = some u/\Low p n W B k u/\∀j u',j<k->Low p n W B j u'->u'≠[]) (n+1) ?_ ?_
 .exact⟨0,units n,[units n],[vU],_,by omega,by omega,rfl,zD U _,PSl.new _ 1 rfl (vH _),All2.nil _ |>.snoc hU,rfl,rfl,.zero,λj u' hj=>by omega⟩
 rintro m vs h' ⟨k,u,us,rows,v,rfl,cu,rfl,ar,ha,ah,c7,wS,eV,jI⟩
 obtain⟨s',cap,rfl,hc,q2,q3,q4,q5⟩:=ha;have fj:k<us.length:=by omega
 obtain⟨vk,yD,pN⟩:=ah.get fj;have tD:us[k]=u:=by rw[List.getElem?_eq_getElem fj]at wS;exact Option.some.inj wS
 rw[tD]at pN;have bH:h'.rd1 s' k=some vk:=by rw[zG q2];exact yD
 have hw:IntKind.i64.wrap (((k+1:Nat):Int)-1)=(k:Int):=by rw[wrap64 (by omega) (by omega)];omega
 have jy:k<k+1:=Nat.lt_succ_self k;obtain⟨e1,e2⟩:=eV.els o;have iF:h'.rd1 b 0=some (.ptr s 0):=by rw[zG (by rw[ar.obj b kQ];exact hb)];rfl
 have sg:=pN;obtain⟨wk,ak,rk,rfl,cE⟩:=pN;simp only[Z3,seval,-ae,hw,jy,bH];refine⟨zRg,zQa iF (hs.keep ar) hR o q hp sg e1 (by omega) λvo out cR xz=>?_⟩;have pP:=xz;obtain⟨wo,ao,ro,rfl,iI⟩:=xz;have kA:out.length<=n:=QE (λv hv=>(cR.base.led v hv).2.1) cR.base.asc;simp only[Z3,seval,-ae,hw,jy,bH];refine zD7 pP sg (by omega) (λx hx=>by rw[(cR.base.els x hx).1];omega) λt ht=>?_;cases t
 .have ai:out≠u:=λe=>by have:=ht.2 e;cases this
  have oe:u≠[]:=λe=>by
   subst e;exact ai (zQZ o q cR)
  have cQ:=eV.le o q oe;simp only[Z3,seval,-ae];refine PSl.push (bytes:=24) (σb:=U) ar ⟨s',cap,rfl,hc,q2,q3,q4,q5⟩ (by omega) (by omega) λv2 h2 k2 a2=>?_;simp only[Z3,seval,-ae];refine⟨_,?_,k+1,out,us++[out],_,v2,rfl,by omega,rfl,k2,a2,ah.snoc pP,by rw[List.length_append,c7];rfl,?_,.succ eV cR,λj u' hj hl=>?_⟩
  .omega
  .rw[List.getElem?_append_right (by omega),c7,Nat.sub_self];rfl
  .by_cases x:j=k
   .subst x;rw[hl.unique o eV];exact oe
   .exact jI j u' (by omega) hl
 .obtain rfl:out=u:=ht.1 rfl;obtain rfl:out=[]:=zNw o q cR;simp only[Z3,seval,-ae];exact Gh.finF ar q2 q4 (ah.bL 0) hc.ok λo1=>hk k _ _ ⟨eV,jI⟩
theorem zJQ(hs:PtrR U s p vP vB)(hR:IsR vP vB W B)(o:OkW p n W)(q:OkB p n B)(hp:isP p)(hk:∀c a rows,Cls p n W B c->K (.fz true a (c+1) rows) U):zA Tryz.prog 164 [.ptr s 0] U K:=by
 have aX:=o.le;refine zA.gh ?_;refine zB mix Tryz.func164 ?_
 conv=>arg 2;cbv
 refine zC rfl ?_;simp only[Z3,seval,-ae];have gZ:=hs.new [.ptr s 0];refine zD3 gZ hR.P o.len (by omega) λvV hV=>?_;have nq:=hV;obtain⟨wv,av,rv,rfl,iH⟩:=hV;simp only[Z3,seval,-ae];refine zL3 (b:=U.next) (by simp only[Z3,seval,-ae]) (by simp only[Z3,seval,-ae]) gZ hR o q hp nq λc a rows hc=>?_;simp only[Z3,seval,-ae];exact Gh.fin0 (zD U _) trivial (hk c a rows hc)
def isLz(p:Int)(n:Nat)(W:L4)(B:L5):Prop:=∃c,Cls p n W B c/\(c:Int)<p
theorem zM1{c:Nat}(h:Cls p n W B c):isLz p n W B↔(c:Int)<p:=⟨λ⟨d,h1,h2⟩=>by rw[h.unique h1];exact h2,λe=>⟨c,h,e⟩⟩
theorem zJj(hs:PtrR U s p vP vB)(hR:IsR vP vB W B)(o:OkW p n W)(q:OkB p n B)(hp:isP p)(hk:∀t:Bool,(t=true↔isLz p n W B)->K (.bool t) U):zA Tryz.prog 92 [.ptr s 0] U K:=by
 have aX:=o.le;have iq:U.rd1 s 0=some (.int .i64 p):=by rw[zG hs.obj];rfl
 refine zB mix Tryz.func92 ?_
 conv=>arg 2;cbv
 refine zC rfl ?_;simp only[Z3,seval,-ae,iq];refine zJQ hs hR o q hp λc a rows hc=>?_;have AK:c<=n+1:=by
  rcases Nat.lt_or_ge n c with x|x
  .obtain⟨c',rfl⟩:∃c',c=c'+1:=⟨c-1,by omega⟩
   obtain⟨h1,h2⟩:=hc;cases h1 with
   |succ h cR=>exact Nat.succ_le_succ (h.le o q (h2 _ _ (Nat.lt_succ_self _) h))
  .omega
 have hw:IntKind.i64.wrap (((c+1:Nat):Int)-1)=(c:Int):=by rw[wrap64 (by omega) (by omega)];omega
 simp only[Z3,seval,-ae,hw];refine⟨iq,hk _ ?_⟩;rw[zM1 hc,decide_eq_true_eq]
theorem zCI{u v:L4}(hR:IsR vP vB W B)(o:OkW p n W)(q:OkB p n B)(hp:isP p)(hU:FII vU u)(hV:FII vV v)(eu:Els p n u)(ev:Els p n v)(c7:u.length<=6)(fF:v.length<=6)
  (hk:∀z out,Canon p n W (brL p W B n u v) out->FII z out->K z U):zA Tryz.prog 85 [.agg [.int .i64 p,vP,vB],vU,vV] U K:=by
 have h1:=hR.P.one;have h2:=hR.B.one;obtain⟨wu,au,ru,rfl,fP⟩:=hU;obtain⟨wv,av,rv,rfl,iH⟩:=hV;have bnd:∀(i j:Nat),i<u.length->j<=v.length->(brL p W B n (u.take i) v++(v.take j).map λy=>br p W B n (u.getD i []) y).length<=42:=λi j hi hj=>by
  rw[List.length_append,zAR,List.length_map,List.length_take,List.length_take]
  have:min i u.length*v.length<=6*6:=Nat.mul_le_mul (by omega) fF
  omega
 refine zA.gh ?_;refine zB mix Tryz.func85 ?_
 conv=>arg 2;cbv
 refine zC rfl ?_;simp only[Z3,seval,-ae,h1,h2];generalize hH:U.new [.int .i64 p,vP,vB]=H;have ns:H.next=U.next+1:=by rw[<-hH];simp only[Z3,seval,-ae]
 have gP:Keep U H:=by rw[<-hH];exact zD U _
 have iV:H.obj U.next=some [.int .i64 p,vP,vB]:=by rw[<-hH];simp only[Z3,seval,-ae]
 refine zF (λm vs h'=>∃(i:Nat) (z:PV) (rows:List PV),i<=u.length/\m=u.length-i/\vs=[.fz wu au u.length ru,.fz wv av v.length rv,.ptr U.next 0,z,.int .i64 i]/\Keep H h'/\PSl H.next 1 h' z (brL p W B n (u.take i) v).length rows/\All2 FI rows (brL p W B n (u.take i) v)) u.length ?_ ?_
 .refine⟨0,_,[],by omega,by omega,rfl,zD H _,?_,by rw[List.take_zero];exact All2.nil _⟩;rw[<-ns];exact PSl.new H.next 1 rfl (vH _)
 rintro m vs h' ⟨i,z,rows,hi,rfl,rfl,ar,ha,aq⟩
 simp only[Z3,seval,-ae];refine iteI (λag=>?_) λaG=>?_
 .obtain⟨w4,a4,hr⟩:=fP.rowI ag;have eB:=eu _ (List.getElem_mem ag);have fu:u.getD i []=u[i]:=by simp[List.getD_eq_getElem?_getD,ag]
  refine zF (λm vs h'=>∃(j:Nat) (z:PV) (rows:List PV),j<=v.length/\m=v.length-j/\vs=[.fz wu au u.length ru,.fz wv av v.length rv,.ptr U.next 0,z,.int .i64 i,.int .i64 j]/\Keep H h'/\
   PSl H.next 1 h' z (brL p W B n (u.take i) v++(v.take j).map λy=>br p W B n (u.getD i []) y).length rows/\All2 FI rows (brL p W B n (u.take i) v++(v.take j).map λy=>br p W B n (u.getD i []) y)) v.length ?_ ?_
  .exact⟨0,z,rows,by omega,by omega,rfl,ar,by simpa using ha,by simpa using aq⟩
  clear ar ha aq z rows
  rintro m vs h' ⟨j,z,rows,hj,rfl,rfl,ar,ha,aq⟩
  have gd:h'.obj U.next=some [.int .i64 p,vP,vB]:=by rw[ar.obj _ (by omega)];exact iV
  have fh:h'.rd U.next 0 3=some [.int .i64 p,vP,vB]:=by rw[ZT gd];rfl
  simp only[Z3,seval,-ae];refine iteI (λjw=>?_) λAs=>?_
  .obtain⟨w5,a5,kv⟩:=iH.rowI jw;have tv:=ev _ (List.getElem_mem jw);simp only[Z3,seval,-ae,jw,kv,ag,hr,fh];refine qw hR o q eB tv rfl rfl λa6=>?_;have hb:=bnd i j ag hj;simp only[Z3,seval,-ae];refine PSl.push (bytes:=24) ar ha (by omega) (by omega) λv' h2 k2 a2=>?_;simp only[Z3,seval,-ae,wrapS jw (by omega:v.length<=4611686018427387904)];have e:(brL p W B n (u.take i) v++(v.take (j+1)).map λy=>br p W B n (u.getD i []) y)=(brL p W B n (u.take i) v++(v.take j).map λy=>br p W B n (u.getD i []) y)++[br p W B n u[i] v[j]]:=by
    rw[List.take_succ_eq_append_getElem jw,List.map_append,List.append_assoc,fu];rfl
   refine⟨_,by omega,j+1,v',rows++[.fz true a6 n (pis (br p W B n u[i] v[j]))],by omega,rfl,rfl,k2,?_,?_⟩
   .rw[e,List.length_append];exact a2
   .rw[e];exact aq.snoc ⟨true,a6,by rw[(br_el o q).1]⟩
  .have iZ:j=v.length:=by omega
   subst iZ;have e:(brL p W B n (u.take i) v++(v.take v.length).map λy=>br p W B n (u.getD i []) y)=brL p W B n (u.take (i+1)) v:=by
    rw[List.take_length,List.take_succ_eq_append_getElem ag,zIV,fu]
   rw[e]at ha aq;simp only[Z3,seval,-ae,wrapS ag (by omega:u.length<=4611686018427387904)];exact⟨_,by omega,i+1,z,rows,by omega,rfl,rfl,ar,ha,aq⟩
 .have aI:i=u.length:=by omega
  subst aI;rw[List.take_length]at ha aq;obtain⟨s',cap,rfl,hc,q2,q3,q4,q5⟩:=ha;have gd:h'.obj U.next=some [.int .i64 p,vP,vB]:=by rw[ar.obj _ (by omega)];exact iV
  have fh:h'.rd U.next 0 3=some [.int .i64 p,vP,vB]:=by rw[ZT gd];rfl
  simp only[Z3,seval,-ae,fh];refine zA.frz q2 (aq.bI 0) λo1=>?_;have hl:(brL p W B n u v).length<=1048576:=by
   rw[zAR]
   have:u.length*v.length<=6*6:=Nat.mul_le_mul c7 fF
   omega
  obtain⟨⟨wp,ap,rp,rfl,ks⟩,wb,ab,rb,rfl,cU⟩:=hR;simp only[sbs,sb,hc.ok,and_self,if_true];refine zFO ⟨⟨wp,ap,rp,rfl,ks⟩,wb,ab,rb,rfl,cU⟩ o hp ⟨true,_,rows,rfl,aq⟩ (zCR o q _ _) hl λz out cR hz=>?_;obtain⟨wz,az,rz,rfl,lg⟩:=hz;simp only[Z3,seval,-ae];exact Gh.fin0 ((gP.trans ar).kill (by omega)) trivial (hk _ out cR ⟨wz,az,rz,rfl,lg⟩)
theorem zJV(hR:IsR vP vB W B)(o:OkW p n W)(q:OkB p n B)(hp:isP p)(hk:∀c a rows,Cls p n W B c->K (.fz true a (c+1) rows) U):zA Tryz.prog 269 [.agg [.int .i64 p,vP,vB]] U K:=by
 have aX:=o.le;have h1:=hR.P.one;have h2:=hR.B.one;refine zA.gh ?_;refine zB mix Tryz.func269 ?_
 conv=>arg 2;cbv
 refine zC rfl ?_;simp only[Z3,seval,-ae,h1,h2];generalize hH:U.new [.int .i64 p,vP,vB]=H;have ns:H.next=U.next+1:=by rw[<-hH];simp only[Z3,seval,-ae]
 have gP:Keep U H:=by rw[<-hH];exact zD U _
 have iV:H.obj U.next=some [.int .i64 p,vP,vB]:=by rw[<-hH];simp only[Z3,seval,-ae]
 refine zEE hR o.len (by omega) λvV hV=>?_;have nq:=hV;obtain⟨wv,av,rv,rfl,iH⟩:=hV;simp only[Z3,seval,-ae];refine zF (λm vs h'=>∃k u us rows v vU,m=n+1-k/\k<=n+1/\vs=[.ptr U.next 0,vU,v]/\Keep H h'/\PSl H.next 1 h' v (k+1) rows/\All2 FII rows us/\us.length=k+1/\FII vU u/\Low p n W B k u/\∀j u',j<k->Low p n W B j u'->u'≠[]) (n+1) ?_ ?_
 .refine⟨0,units n,[units n],[_],_,_,by omega,by omega,rfl,zD H _,PSl.new _ 1 rfl (vH _),All2.nil _ |>.snoc nq,rfl,nq,.zero,λj u' hj=>by omega⟩
 rintro m vs h' ⟨k,u,us,rows,v,vU,rfl,cu,rfl,ar,ha,ah,c7,xA,eV,jI⟩
 have gd:h'.obj U.next=some [.int .i64 p,vP,vB]:=by rw[ar.obj _ (by omega)];exact iV
 have fh:h'.rd U.next 0 3=some [.int .i64 p,vP,vB]:=by rw[ZT gd];rfl
 obtain⟨e1,e2⟩:=eV.els o;have sg:=xA;obtain⟨wk,ak,rk,rfl,cE⟩:=xA;by_cases hu:u=[]
 .subst hu;obtain⟨s',cap,rfl,hc,q2,q3,q4,q5⟩:=ha;simp only[Z3,seval,-ae,List.length_nil];exact Gh.finF (gP.trans ar) q2 (by omega) (ah.bL 0) hc.ok λo1=>hk k _ _ ⟨eV,jI⟩
 .have cQ:=eV.le o q hu;have aD:(0:Int)<(u.length:Int):=by
   have:0<u.length:=List.length_pos_iff.2 hu
   omega
  simp only[Z3,seval,-ae,aD,fh];refine zEE hR o.len (by omega) λvW hW=>?_;have A5:=hW;obtain⟨ww,aw,B3,rfl,eS⟩:=hW;simp only[Z3,seval,-ae,fh];refine zCI hR o q hp sg A5 e1 (zC2 o.pr) (by omega) (by rw[Zb];omega) λz out cR hz=>?_;have fg:=hz;obtain⟨wz,az,rz,rfl,lg⟩:=hz;simp only[Z3,seval,-ae,fh];refine PSl.push (bytes:=24) ar ha (by omega) (by omega) λv2 h2 k2 a2=>?_;simp only[Z3,seval,-ae];refine⟨_,?_,k+1,out,us++[out],_,v2,_,rfl,by omega,rfl,k2,a2,ah.snoc fg,by rw[List.length_append,c7];rfl,fg,.succ eV cR,λj u' hj hl=>?_⟩
  .omega
  .by_cases x:j=k
   .subst x;rw[hl.unique o eV];exact hu
   .exact jI j u' (by omega) hl
theorem Cls.le(o:OkW p n W)(q:OkB p n B){c:Nat}(hc:Cls p n W B c):c<=n+1:=by
 rcases Nat.lt_or_ge n c with x|x
 .obtain⟨c',rfl⟩:∃c',c=c'+1:=⟨c-1,by omega⟩
  obtain⟨h1,h2⟩:=hc;cases h1 with
  |succ h cR=>exact Nat.succ_le_succ (h.le o q (h2 _ _ (Nat.lt_succ_self _) h))
 .omega
theorem zJW(hR:IsR vP vB W B)(o:OkW p n W)(q:OkB p n B)(hp:isP p)(hk:∀c:Nat,Cls p n W B c->K (.int .i64 c) U):zA Tryz.prog 174 [.agg [.int .i64 p,vP,vB]] U K:=by
 have aX:=o.le;have h1:=hR.P.one;have h2:=hR.B.one;refine zA.gh ?_;refine zB mix Tryz.func174 ?_
 conv=>arg 2;cbv
 refine zC rfl ?_;simp only[Z3,seval,-ae,h1,h2];refine zJV hR o q hp λc a rows hc=>?_;have AK:=hc.le o q;have hw:IntKind.i64.wrap (((c+1:Nat):Int)-1)=(c:Int):=by rw[wrap64 (by omega) (by omega)];omega
 simp only[Z3,seval,-ae,hw];exact Gh.fin0 (zD U _) trivial (hk c hc)
theorem zOt(hR:IsR vP vB W B)(o:OkW p n W)(q:OkB p n B)(hp:isP p)(hk:∀t:Bool,(t=true↔isLz p n W B)->K (.bool t) U):zA Tryz.prog 83 [.agg [.int .i64 p,vP,vB]] U K:=by
 have h1:=hR.P.one;have h2:=hR.B.one;refine zA.gh ?_;refine zB mix Tryz.func83 ?_
 conv=>arg 2;cbv
 refine zC rfl ?_;simp only[Z3,seval,-ae,h1,h2];refine zJW hR o q hp λc hc=>?_;simp only[Z3,seval,-ae,h1,h2];refine Gh.fin0 (zD U _) trivial (hk _ ?_);rw[zM1 hc,decide_eq_true_eq]
structure EucI(m a r nx x y:Int):Prop where
 cof:∃s u v:Int,(s=1\/s=-1)/\0<=u/\u<=m/\0<=v/\x=s*u/\y=-s*v/\r*v+nx*u=m
 pos:0<r/\r<=m/\0<=nx/\nx<r
 xa:∃t,x*a=r+t*m
 ya:∃t,y*a=nx+t*m
 dm:∃c d,m=c*r+d*nx
 da:∃c d,a=c*r+d*nx
theorem zDK{a b m:Int}(ha:1<=a)(hb:0<=b)(h:a*b<=m):b<=m:=by
 have:=Int.mul_le_mul_of_nonneg_right ha hb
 omega
theorem EucI.start{m a:Int}(h1:0<=a)(h2:a<m):EucI m a m a 0 1 where
 cof:=⟨-1,0,1,.inr rfl,by omega,by omega,by omega,by omega,by omega,by omega⟩
 pos:=by omega
 xa:=⟨-1,by omega⟩
 ya:=⟨0,by omega⟩
 dm:=⟨1,0,by omega⟩
 da:=⟨0,1,by omega⟩
theorem EucI.step{m a r nx x y:Int}(h:EucI m a r nx x y)(hn:nx≠0):EucI m a nx (r-r / nx*nx) y (x-r / nx*y)/\
  (-m<=x/\x<=m/\-m<=y/\y<=m/\-m<=r / nx*y/\r / nx*y<=m/\0<=r / nx/\r / nx<=m/\0<=r / nx*nx/\r / nx*nx<=m/\-m<=x-r / nx*y/\x-r / nx*y<=m):=by
 obtain⟨s,u,v,hs,hu,Cf,hv,hx,hy,he⟩:=h.cof;obtain⟨p1,p2,p3,p5⟩:=h.pos;obtain⟨tx,yB⟩:=h.xa;obtain⟨ty,nQ⟩:=h.ya;obtain⟨cm,dm,AD⟩:=h.dm;obtain⟨ca,da,AG⟩:=h.da;have jo:0<=r / nx:=Int.ediv_nonneg (by omega) p3;have e1:=Int.emod_nonneg r hn;have e2:=Int.emod_lt_of_pos r (show 0<nx by omega);have e3:r % nx=r-r / nx*nx:=by have:=Int.mul_ediv_add_emod r nx;rw[Int.mul_comm];omega
 generalize r / nx=q at *
 rw[e3]at e1 e2;have Ci:0<=q*v:=Int.mul_nonneg jo hv;have wZ:0<=q*nx:=Int.mul_nonneg jo p3;have k1:nx*(u+q*v)+(r-q*nx)*v=m:=by grind
 have k2:0<=(r-q*nx)*v:=Int.mul_nonneg e1 hv;have k3:u+q*v<=m:=zDK (a:=nx) (by omega) (by omega) (by omega);have k4:0<=nx*u:=Int.mul_nonneg p3 hu;have k5:v<=m:=zDK (a:=r) (by omega) hv (by omega);have k6:q<=m:=zDK (a:=nx) (by omega) jo (by rw[Int.mul_comm];omega);refine⟨⟨⟨-s,v,u+q*v,by omega,hv,k5,by omega,by grind,by grind,by omega⟩,by omega,⟨ty,nQ⟩,⟨tx-q*ty,by grind⟩,⟨dm+cm*q,cm,by grind⟩,⟨da+ca*q,ca,by grind⟩⟩,?_⟩;have k7:q*y=-s*(q*v):=by grind
 have k8:x-q*y=s*(u+q*v):=by grind
 rcases hs with rfl|rfl<;>omega
theorem zJk{a m:Int}(ha:0<=a)(A0:a<m)(hm:m<=1000000)(hk:∀(x:Int) (b:Bool),0<=x->x<m->((∃z w:Int,a*z=1+w*m)->∃t,a*x=1+t*m)->K (.tup [.int .i64 x,.bool b]) U):zA Tryz.prog 203 [.int .i64 a,.int .i64 m] U K:=by
 refine zB mix Tryz.func203 ?_
 conv=>arg 2;cbv
 refine zC rfl ?_;simp only[Z3,seval,-ae];refine zF (λk vs h'=>∃r nx x y:Int,k=nx.toNat/\vs=[.int .i64 m,.int .i64 r,.int .i64 nx,.int .i64 x,.int .i64 y]/\U=h'/\EucI m a r nx x y) a.toNat ?_ ?_
 .exact⟨m,a,0,1,rfl,rfl,rfl,EucI.start ha A0⟩
 rintro k vs h' ⟨r,nx,x,y,rfl,rfl,rfl,hI⟩
 obtain⟨p1,p2,p3,p5⟩:=hI.pos;by_cases h0:nx=0
 .subst h0;simp only[Z3,seval,-ae];refine zCb (by omega) (by omega) ?_;simp only[Z3,seval,-ae];refine hk _ _ (Int.emod_nonneg _ (by omega)) (Int.emod_lt_of_pos _ (by omega)) λ⟨z,w,hz⟩=>?_;obtain⟨tx,yB⟩:=hI.xa;obtain⟨cm,dm,AD⟩:=hI.dm;obtain⟨ca,da,AG⟩:=hI.da;have e:r*(ca*z-w*cm)=1:=by grind
  have lj:r=1:=by
   have hd:r∣1:=⟨_,e.symm⟩
   have:=Int.le_of_dvd (by omega) hd
   omega
  have em:=Int.mul_ediv_add_emod x m;exact⟨tx-a*(x / m),by grind⟩
 .obtain⟨ja,b⟩:=hI.step h0;have ht:r.tdiv nx=r / nx:=Int.tdiv_eq_ediv_of_nonneg (by omega);obtain⟨B8,sM,B7,B6⟩:=ja.pos;simp only[Z3,seval,-ae,h0,ht,wrap64 (n:=r / nx) (by omega) (by omega),wrap64 (n:=r / nx*nx) (by omega) (by omega),wrap64 (n:=r / nx*y) (by omega) (by omega),wrap64 (n:=r-r / nx*nx) (by omega) (by omega),wrap64 (n:=x-r / nx*y) (by omega) (by omega)];exact⟨_,by omega,_,_,_,_,rfl,rfl,ja⟩
theorem zCK:∀n:Nat,ipow p n=pw_ p n
 |0=>rfl
 |n+1=>by rw[ipow,pw_,zCK n,Int.mul_comm]
def Cop(p k:Int):Prop:=∃e t:Int,k*e=1+p*t
structure DivL(p:Int)(n:Nat)(W:L4)(k:Int)(x z:L3):Prop where
 el:El p n z
 nil:isZ x->z=x
 eqv:Cop p k->Eqv p n W (λj=>k*at_ z j) (at_ x)
theorem zBM{k:Int}(h:Cop p k)(hn:0<n):∃z w:Int,k*z=1+w*pw_ p n:=by
 obtain⟨e,t,h⟩:=h;obtain⟨f,s,g⟩:=zGC (p:=p) t n hn;exact⟨e*f,s,by grind⟩
theorem DivL.unique(o:OkW p n W){k:Int}{x z z':L3}(hx:El p n x)(h:DivL p n W k x z)(h':DivL p n W k x z')(hk:isZ x\/Cop p k):z=z':=by
 rcases hk with hk|hk
 .rw[h.nil hk,h'.nil hk]
 .rcases Nat.eq_zero_or_pos n with hn|hn
  .have e1:=h.el.1;have e2:=h'.el.1;rw[List.eq_nil_of_length_eq_zero (e1.trans hn),List.eq_nil_of_length_eq_zero (e2.trans hn)]
  .obtain⟨a,w,ha⟩:=zBM (p:=p) hk hn;have e:Eqv p n W (λj=>k*at_ z j) (λj=>k*at_ z' j):=(h.eqv hk).trans (h'.eqv hk).symm;have e2:=e.mul a;have one:∀{v:L3},El p n v->Eqv p n W (λj=>a*(k*at_ v j)) (at_ v):=λ{v} hv=>by
    have k1:=(zAd o (f:=at_ v) (λj hj=>hv.beyond hj)).mul w;have k2:=(Eqv.refl (p:=p) (n:=n) (W:=W) (at_ v)).add k1;exact((Eqv.of_eq λj=>by grind).trans k2).trans (Eqv.of_eq λj=>by omega)
   exact ZX o h.el.1 h'.el.1 h.el.2 h'.el.2 (((one h.el).symm.trans e2).trans (one h'.el))
theorem DivL.mk'(o:OkW p n W){k y m:Int}{x:L3}(hx:El p n x)(hz:¬isZ x)(hm:Eqv p n W (λj=>m*at_ x j) λ_=>0)(hy:Cop p k->∃t,k*y=1+t*m):DivL p n W k x (lmul p W y x) where
 el:=(QL o hx y).1
 nil:=λh=>absurd h hz
 eqv:=λhk=>by
  obtain⟨t,ht⟩:=hy hk;have k1:=(QL o hx y).2.mul k;have k2:=(Eqv.refl (p:=p) (n:=n) (W:=W) (at_ x)).add (hm.mul t);exact(k1.trans (Eqv.of_eq λj=>by grind)).trans (k2.trans (Eqv.of_eq λj=>by omega))
theorem zHQ(hp:okp p):∀k:Nat,1<=pw_ p k
 |0=>by simp[pw_]
 |k+1=>by
  have h:=zHQ hp k
  have:=Int.mul_le_mul_of_nonneg_right (show(1:Int)<=p by have:=hp.1;omega) (show 0<=pw_ p k by omega)
  rw[pw_];omega
theorem zDm(hp:okp p){j:Nat}:∀{k:Nat},j<=k->pw_ p j<=pw_ p k
 |0,h=>by
   have:j=0:=by omega
   subst this;exact Int.le_refl _
 |k+1,h=>by
  by_cases e:j=k+1
  .subst e;exact Int.le_refl _
  .have h1:=zDm hp (j:=j) (k:=k) (by omega);have h2:=zHQ hp k
   have:=Int.mul_le_mul_of_nonneg_right (show(1:Int)<=p by have:=hp.1;omega) (show 0<=pw_ p k by omega)
   have e2:pw_ p (k+1)=p*pw_ p k:=rfl;omega
theorem zJY{l:Nat}{w:Bool}{av:AV}{x:L3}(hR:IsR vP vB W B)(o:OkW p n W)(jq:ipow p n<=729)(hx:El p n x)(hl:l=x.length)
  (hk:∀j,j<=n->Eqv p n W (λi=>pw_ p j*at_ x i) (λ_=>0)->K (.int .i64 (pw_ p j)) U):zA Tryz.prog 320 [.agg [.int .i64 p,vP,vB],.fz w av l (pis x)] U K:=by
 have h1:=hR.P.one;have h2:=hR.B.one;have aX:=o.le;have cZ:=o.pr;have iU:=cZ;unfold okp at iU;have aV:=hx.1;subst hl;refine zA.gh ?_;refine zB mix Tryz.func320 ?_
 conv=>arg 2;cbv
 refine zC rfl ?_;simp only[Z3,seval,-ae,h1,h2];generalize hH:U.new [.int .i64 p,vP,vB]=H;have gP:Keep U H:=by rw[<-hH];exact zD U _
 have iQ:H.rd U.next 0 3=some [.int .i64 p,vP,vB]:=by rw[<-hH];simp only[Z3,seval,-ae]
 have fD:H.rd1 U.next 0=some (.int .i64 p):=by rw[<-hH];simp only[Z3,seval,-ae]
 refine zF (λm vs h'=>∃(j:Nat) (y:L3) (wy:Bool) (vy:AV),m=n-dep y/\j<=dep y/\vs=[.fz wy vy n (pis y),.ptr U.next 0,.int .i64 (pw_ p j)]/\H=h'/\El p n y/\Eqv p n W (at_ y) λi=>pw_ p j*at_ x i) (n-dep x) ?_ ?_
 .exact⟨0,x,w,av,rfl,by omega,by rw[aV];rfl,rfl,hx,Eqv.of_eq λi=>by simp[pw_]⟩
 rintro m vs h' ⟨j,y,wy,vy,rfl,hj,rfl,rfl,hy,he⟩
 have e6:=hy.1;have gO:=Qd y;simp only[Z3,seval,-ae];refine zAI e6.symm (by omega) ?_;by_cases hz:isZ y
 .simp only[Z3,seval,-ae,hz,decide_true];refine Gh.fin0 gP trivial (hk j (by omega) (he.symm.trans (Eqv.of_eq λi=>Zu hz i)))
 .have hd:dep y<n:=by have:=zB7 hz;omega
  have CA:pw_ p (j+1)<=pw_ p n:=zDm cZ (by omega);have Ai:=zHQ cZ (j+1);rw[zCK]at jq;have hc:pw_ p j*p=pw_ p (j+1):=by rw[pw_,Int.mul_comm]
  have hw:IntKind.i64.wrap (pw_ p j*p)=pw_ p (j+1):=by rw[hc];exact wrap64 (by omega) (by omega)
  simp only[Z3,seval,-ae,hz,decide_false,iQ,fD];refine ZG hR o hy hy e6.symm e6.symm (by omega) (by decide) λv1=>?_;have eG:=zHV o hy hd;obtain⟨z1,z2⟩:=QL o hy p;simp only[Z3,seval,-ae,fD,hw];refine⟨_,?_,j+1,_,true,v1,rfl,by omega,rfl,z1,(z2.trans (he.mul p)).trans (Eqv.of_eq λi=>by rw[<-hc];grind)⟩;omega
theorem zFN{l:Nat}{w:Bool}{av:AV}{k:Int}{x:L3}(hR:IsR vP vB W B)(o:OkW p n W)(jq:ipow p n<=729)(hx:El p n x)(hl:l=x.length)
  (hk:∀w v z,DivL p n W k x z->K (.fz w v n (pis z)) U):zA Tryz.prog 293 [.agg [.int .i64 p,vP,vB],.fz w av l (pis x),.int .i64 k] U K:=by
 have h1:=hR.P.one;have h2:=hR.B.one;have aX:=o.le;have cZ:=o.pr;have aV:=hx.1;subst hl;refine zA.gh ?_;refine zB mix Tryz.func293 ?_
 conv=>arg 2;cbv
 refine zC rfl ?_;simp only[Z3,seval,-ae,h1,h2];generalize hH:U.new [.int .i64 p,vP,vB]=H;have gP:Keep U H:=by rw[<-hH];exact zD U _
 have iQ:H.rd U.next 0 3=some [.int .i64 p,vP,vB]:=by rw[<-hH];simp only[Z3,seval,-ae]
 refine zAI rfl (by omega) ?_;by_cases hz:isZ x
 .simp only[Z3,seval,-ae,hz,decide_true];refine Gh.fin0 gP trivial ?_;rw[aV];exact hk _ _ x ⟨hx,λ_=>rfl,λ_=>Eqv.of_eq λj=>by rw[Zu hz,Int.mul_zero]⟩
 .have fw:dep x<n:=by have:=zB7 hz;omega
  simp only[Z3,seval,-ae,hz,decide_false,iQ];refine zJY hR o jq hx rfl λj hj he=>?_;have Ai:j≠0:=λe=>by
   subst e;have e0:Eqv p n W (at_ x) λ_=>0:=(Eqv.of_eq λi=>by simp[pw_]).trans he
   have:=zEi o hx e0 (vH n) (λ_ _=>rfl) (dep x) fw
   exact Ze (by omega) this
  have y6:pw_ p j<=pw_ p n:=zDm cZ hj;have Cr:pw_ p 1<=pw_ p j:=zDm cZ (by omega);have Cq:pw_ p 1=p:=by simp[pw_]
  rw[zCK]at jq;have kz:=cZ.1;generalize hm:pw_ p j=m at *
  simp only[Z3,seval,-ae];refine zF (λq vs h'=>∃y:Int,q=(m-y).toNat/\1<=y/\y<=m/\vs=[.fz w av x.length (pis x),.int .i64 k,.ptr U.next 0,.int .i64 m,.int .i64 y]/\H=h'/\∀y',1<=y'->y'<y->k % m*y' % m≠1) (m-1).toNat ?_ ?_
  .exact⟨1,rfl,by omega,by omega,rfl,rfl,λy' _ _=>by omega⟩
  rintro q vs h' ⟨y,rfl,jg,Ce,rfl,rfl,ah⟩
  have BJ:=Int.emod_nonneg k (show m≠0 by omega);have CT:=Int.emod_lt_of_pos k (show 0<m by omega);have em:=Int.mul_ediv_add_emod k m;have fin:(Cop p k->∃t,k*y=1+t*m)->∀v,Gh U K (.fz true v n (pis (lmul p W y x))) H:=λh v=>Gh.fin0 gP trivial (hk _ v _ (DivL.mk' o hx hz he h));by_cases ag:y<m
  .have hb:0<=k % m*y/\k % m*y<=531441:=by
    have a1:=Int.mul_le_mul (show k % m<=729 by omega) (show y<=729 by omega) (by omega) (by omega);have a2:=Int.mul_nonneg BJ (show 0<=y by omega);omega
   simp only[Z3,seval,-ae,ag,decide_true];refine zGV (by omega) (by omega) ?_;have oS:m≠0:=by omega
   have ht:(k % m*y).tmod m=k % m*y % m:=Int.tmod_eq_emod_of_nonneg hb.1;by_cases h1:k % m*y % m=1
   .simp only[Z3,seval,-ae,ag,oS,wrap64 (n:=k % m*y) (by omega) (by omega),ht,h1,iQ];refine ZG hR o hx hx rfl rfl (by omega) (by decide) λv1=>?_;simp only[Z3,seval,-ae];refine fin (λ_=>?_) v1;have e:=Int.mul_ediv_add_emod (k % m*y) m;exact⟨k % m*y / m+k / m*y,by grind⟩
   .simp only[Z3,seval,-ae,ag,oS,wrap64 (n:=k % m*y) (by omega) (by omega),ht,h1,wrap64 (n:=y+1) (by omega) (by omega)];refine⟨_,?_,y+1,rfl,by omega,by omega,rfl,λy' h2 h3=>?_⟩
    .omega
    .by_cases e:y'=y
     .subst e;exact h1
     .exact ah y' h2 (by omega)
  .have wK:y=m:=by omega
   simp only[Z3,seval,-ae,ag,decide_false,iQ];refine ZG hR o hx hx rfl rfl (by omega) (by decide) λv1=>?_;simp only[Z3,seval,-ae];refine fin (λhc=>?_) v1;exfalso;obtain⟨z,w',tf⟩:=zBM (p:=p) hc (show 0<j by omega);rw[hm]at tf;have f1:=Int.emod_nonneg z (show m≠0 by omega);have f2:=Int.emod_lt_of_pos z (show 0<m by omega);have f3:=Int.mul_ediv_add_emod z m;have aH:k % m*(z % m) % m=1:=by
    have e1:k % m*(z % m)=1+(w'-k / m*z-k % m*(z / m))*m:=by grind
    rw[e1,Int.add_mul_emod_self_right];exact Int.emod_eq_of_lt (by omega) (by omega)
   have eH:z % m≠0:=λe=>by
    rw[e,Int.mul_zero,Int.zero_emod]at aH;omega
   exact ah (z % m) (by omega) (by omega) aH
def brv(B:L5)(n:Nat)(f g:Vec):Vec:=λt=>sumN n λi=>sumN (n-1-i) λj=>(f i*g (i+1+j)-f (i+1+j)*g i)*at_ ((B.getD i []).getD j []) t
theorem zEm(q:OkB p n B)(a b:L3)(t:Nat):at_ (bsum B a b n) t=brv B n (at_ a) (at_ b) t:=bi_at q t (vH _)
theorem QN(f f' g:Vec)(t:Nat):brv B n (λj=>f j+f' j) g t=brv B n f g t+brv B n f' g t:=by
 simp only[brv];rw[<-Qp];refine qo λi _=>?_;rw[<-Qp];refine qo λj _=>?_;grind
theorem ZC(k:Int)(f g:Vec)(t:Nat):brv B n (λj=>k*f j) g t=k*brv B n f g t:=by
 simp only[brv];rw[<-Z4];refine qo λi _=>?_;rw[<-Z4];refine qo λj _=>?_;grind
theorem zl(f g:Vec)(t:Nat):brv B n f g t=-1*brv B n g f t:=by
 simp only[brv];rw[<-Z4];refine qo λi _=>?_;rw[<-Z4];refine qo λj _=>?_;grind
theorem zAx{f f' g g':Vec}(h:∀j,j<n->f j=f' j)(h':∀j,j<n->g j=g' j)(t:Nat):brv B n f g t=brv B n f' g' t:=by
 simp only[brv];refine qo λi hi=>qo λj hj=>?_;rw[h i hi,h _ (by omega:i+1+j<n),h' i hi,h' _ (by omega:i+1+j<n)]
theorem zBN(g:Vec)(t:Nat):∀(m:Nat) (F:Nat->Vec),brv B n (λj=>sumN m λk=>F k j) g t=sumN m λk=>brv B n (F k) g t
 |0,F=>by
  simp only[sumN]
  have:=ZC (B:=B) (n:=n) 0 (λ_=>0) g t
  simpa using this
 |m+1,F=>by
  simp only[sumN];rw[QN,zBN g t m F]
theorem zCn:∀(m:Nat) (F:Nat->Vec),(∀k,k<m->Eqv p n W (F k) λ_=>0)->Eqv p n W (λj=>sumN m λk=>F k j) λ_=>0
 |0,F,_=>Eqv.of_eq λj=>rfl
 |m+1,F,h=>((zCn m F λk hk=>h k (by omega)).add (h m (by omega))).trans (Eqv.of_eq λj=>rfl)
theorem Q5{j i:Nat}(hj:j<n):at_ (unitL n j) i=if i=j then 1 else 0:=by
 rw[unitL,at_set (by simpa using hj),ZB]
theorem zFo(g:Vec){i:Nat}(hi:i<n):g i=sumN n λk=>g k*at_ (unitL n k) i:=by
 rw[zAY hi λk hk ai=>by rw[Q5 hk,if_neg (λe=>ai e.symm),Int.mul_zero]];rw[Q5 hi,if_pos rfl,Int.mul_one]
theorem zQ2(o:OkW p n W)(q:OkB p n B)(nf:Zl p W B n){i:Nat}(hi:i<n)(g:Vec):Eqv p n W (brv B n (rel p W i) g) λ_=>0:=by
 have one:∀j,j<n->Eqv p n W (brv B n (rel p W i) (at_ (unitL n j))) λ_=>0:=λj hj=>by
  have hF:=nf.1 i j hi hj;unfold F1 at hF;have ha:=(QL o (br_el o q (a:=unitL n i) (b:=unitL n j)) p).2;have hb:Eqv p n W (at_ (br p W B n (unitL n i) (unitL n j))) (at_ (bsum B (unitL n i) (unitL n j) n)):=ZH o (ZV q);have hc:Eqv p n W (at_ (br p W B n (W.getD i []) (unitL n j))) (at_ (bsum B (W.getD i []) (unitL n j) n)):=ZH o (ZV q);rw[<-hF]at hc;have hd:Eqv p n W (λt=>p*at_ (bsum B (unitL n i) (unitL n j) n) t) (at_ (bsum B (W.getD i []) (unitL n j) n)):=((hb.mul p).symm.trans ha.symm).trans hc;have he:=hd.symm.add (Eqv.refl (p:=p) (n:=n) (W:=W) λt=>-1*(p*at_ (bsum B (unitL n i) (unitL n j) n) t));refine(Eqv.of_eq λt=>?_).trans (he.trans (Eqv.of_eq λt=>by grind));rw[zEm q,zEm q,<-ZC,<-ZC,<-QN];refine zAx (λk hk=>?_) (λ_ _=>rfl) t;rw[Q5 hi,rel];by_cases e:k=i
  .rw[if_pos e,if_pos e];grind
  .rw[if_neg e,if_neg e];grind
 refine(Eqv.of_eq λt=>?_).trans (zCn n (λk t=>g k*brv B n (rel p W i) (at_ (unitL n k)) t) λk hk=>((one k hk).mul (g k)).trans (Eqv.of_eq λt=>by grind));rw[zl,zAx (f':=λj=>sumN n λk=>g k*at_ (unitL n k) j) (g':=rel p W i) (λj hj=>zFo g hj) (λ_ _=>rfl),zBN (t:=t) (g:=rel p W i) n (λk j=>g k*at_ (unitL n k) j),<-Z4];refine qo λk hk=>?_;rw[ZC,zl (f:=at_ (unitL n k))];grind
theorem zBO(o:OkW p n W)(q:OkB p n B)(nf:Zl p W B n){f f':Vec}(g:Vec)(h:Eqv p n W f f'):Eqv p n W (brv B n f g) (brv B n f' g):=by
 obtain⟨c,hc⟩:=h;have h0:=zCn n (λi t=>c i*brv B n (rel p W i) g t) λk hk=>((zQ2 o q nf hk g).mul (c k)).trans (Eqv.of_eq λt=>by grind);refine(Eqv.of_eq λt=>?_).trans (((Eqv.refl (brv B n f' g)).add h0).trans (Eqv.of_eq λt=>by grind));rw[zAx (f':=λj=>f' j+sumN n λi=>c i*rel p W i j) (g':=g) (λj _=>hc j) (λ_ _=>rfl),QN,zBN (t:=t) (g:=g) n (λi j=>c i*rel p W i j)];congr 1;exact qo λk hk=>by rw[ZC]
theorem zIT(o:OkW p n W)(q:OkB p n B)(nf:Zl p W B n){g g':Vec}(f:Vec)(h:Eqv p n W g g'):Eqv p n W (brv B n f g) (brv B n f g'):=
 ((Eqv.of_eq λt=>zl f g t).trans ((zBO o q nf f h).mul (-1))).trans (Eqv.of_eq λt=>(zl f g' t).symm)
theorem QO(o:OkW p n W)(q:OkB p n B)(a b:L3):Eqv p n W (at_ (br p W B n a b)) (brv B n (at_ a) (at_ b)):=
 (ZH o (ZV q)).trans (Eqv.of_eq λt=>zEm q a b t)
theorem Zj(o:OkW p n W){x:L3}(hx:El p n x)(k:Int):Eqv p n W (at_ (lmul p W k x)) λj=>k*at_ x j:=(QL o hx k).2
theorem Zd(o:OkW p n W){x y:L3}(hx:El p n x)(hy:El p n y):Eqv p n W (at_ (ladd p W x y)) λj=>at_ x j+at_ y j:=
 (ZH o (by rw[zL (hx.1.trans hy.1.symm)];exact hx.1)).trans (Eqv.of_eq λj=>by rw[qY (hx.1.trans hy.1.symm)];omega)
theorem QY(k:Int)(f g:Vec)(t:Nat):brv B n f (λj=>k*g j) t=k*brv B n f g t:=by
 rw[zl,ZC,zl g f];grind
theorem third(o:OkW p n W)(q:OkB p n B)(nf:Zl p W B n){x y b:L3}(hb:El p n b):
  ladd p W (br p W B n x b) (br p W B n y (lmul p W (-1) b))=norm p W (lmix 1 (br p W B n x b) (-1) (br p W B n y b)):=by
 have e1:El p n (br p W B n x b):=br_el o q;have e2:El p n (br p W B n y b):=br_el o q;have e3:El p n (br p W B n y (lmul p W (-1) b)):=br_el o q;have k1:Eqv p n W (at_ (br p W B n y (lmul p W (-1) b))) λj=>-1*at_ (br p W B n y b) j:=
  (QO o q _ _).trans (((zIT o q nf (at_ y) (Zj o hb (-1))).trans (Eqv.of_eq λt=>QY (-1) _ _ t)).trans ((QO o q y b).symm.mul (-1)))
 refine zFH o (by rw[zL (e1.1.trans e3.1.symm)];exact e1.1) (by rw[zL (e1.1.trans e2.1.symm)];exact e1.1) ?_;refine(Eqv.of_eq λj=>?_).trans (((Eqv.refl (at_ (br p W B n x b))).add k1).trans (Eqv.of_eq λj=>?_))
 .rw[qY (e1.1.trans e3.1.symm)];omega
 .rw[qY (e1.1.trans e2.1.symm)];omega
theorem zB0(g f:Vec)(t:Nat):brv B n f g t=sumN n λk=>g k*brv B n f (at_ (unitL n k)) t:=by
 rw[zl,zAx (f':=λj=>sumN n λk=>g k*at_ (unitL n k) j) (g':=f) (λj hj=>zFo g hj) (λ_ _=>rfl),zBN (t:=t) (g:=f) n (λk j=>g k*at_ (unitL n k) j),<-Z4];refine qo λk hk=>?_;rw[ZC,zl (f:=at_ (unitL n k))];grind
theorem zRt(o:OkW p n W)(q:OkB p n B)(nf:Zl p W B n){u:L4}{f:Vec}(hf:Gen p n W u f):∀g:Vec,Gen p n W (brL p W B n u (units n)) (brv B n f g):=by
 have hS:=zO (p:=p) (n:=n) (W:=W) (brL p W B n u (units n));refine zH7 (S:=λf=>∀g:Vec,Gen p n W (brL p W B n u (units n)) (brv B n f g)) ⟨λg=>?_,λf f' h h' g=>?_,λk f h g=>?_,λf f' h h' g=>?_⟩ (λv hv g=>?_) hf
 .refine hS.eqv _ _ (Eqv.of_eq λt=>?_) hS.zero
  have:=ZC (B:=B) (n:=n) 0 (λ_=>0) g t
  simpa using this
 .exact hS.eqv _ _ (Eqv.of_eq λt=>QN f f' g t) (hS.add _ _ (h g) (h' g))
 .exact hS.eqv _ _ (Eqv.of_eq λt=>ZC k f g t) (hS.mul k _ (h g))
 .exact hS.eqv _ _ (zBO o q nf g h) (h' g)
 .refine hS.eqv _ _ (Eqv.of_eq λt=>zB0 g (at_ v) t) (hS.sum λk hk=>hS.mul (g k) _ ?_);refine hS.eqv _ _ (QO o q v (unitL n k)).symm (qF (List.mem_flatMap.2 ⟨v,hv,List.mem_map.2 ⟨unitL n k,?_,rfl⟩⟩));exact List.mem_map.2 ⟨k,List.mem_range.2 hk,rfl⟩
theorem zGa(o:OkW p n W){x:L3}(hx:El p n x):Gen p n W (units n) (at_ x):=by
 have hS:=zO (p:=p) (n:=n) (W:=W) (units n);refine hS.eqv _ _ (Eqv.of_eq λt=>?_) (hS.sum (m:=n) (F:=λk j=>at_ x k*at_ (unitL n k) j) λk hk=>hS.mul (at_ x k) _ (qF (List.mem_map.2 ⟨k,List.mem_range.2 hk,rfl⟩)));rcases Nat.lt_or_ge t n with h|h
 .exact zFo (at_ x) h
 .rw[hx.beyond h,ZF];intro k hk;rw[Q5 hk,if_neg (by omega),Int.mul_zero]
theorem zQg(o:OkW p n W)(q:OkB p n B)(nf:Zl p W B n){u out:L4}(hc:Canon p n W (brL p W B n u (units n)) out){f:Vec}(hf:Gen p n W u f)(g:Vec):Gen p n W out (brv B n f g):=
 (hc.gen _).1 (zRt o q nf hf g)
theorem zKV(o:OkW p n W)(q:OkB p n B){c:Nat}(h:Cls p n W B c):∀k,∃u,Low p n W B k u/\(c<=k->u=[])\/k<c:=λk=>by
 rcases Nat.lt_or_ge k c with x|x
 .exact⟨[],.inr x⟩
 .obtain⟨d,rfl⟩:∃d,k=c+d:=⟨k-c,by omega⟩
  have:Low p n W B (c+d) []:=by
   clear x
   induction d with
   |zero=>exact h.1
   |succ d ih=>
    refine .succ ih ?_;have hb:brL p W B n [] (units n)=[]:=rfl;rw[hb];exact⟨.nil,List.Pairwise.nil,λf=>Iff.rfl⟩
  exact⟨[],.inl ⟨this,λ_=>rfl⟩⟩
theorem QF(o:OkW p n W){z:L3}(hz:El p n z)(h:Eqv p n W (at_ z) λ_=>0):isZ z:=by
 have h1:=zEi o hz h (vH n) λ_ _=>rfl;intro x hx;obtain⟨j,hj,rfl⟩:=List.mem_iff_getElem.1 hx;rw[<-at_eq hj];exact h1 j (by rw[<-hz.1];exact hj)
end Go.Proofs
namespace Go.Grp
open Go.Ab Go.Lie
structure Mon{α:Type}(S:α->Prop)(m:α->α->α)(e:α):Prop where
 one:S e
 cl:∀{a b},S a->S b->S (m a b)
 «as»:∀{a b c},S a->S b->S c->m (m a b) c=m a (m b c)
 l1:∀{a},S a->m e a=a
 r1:∀{a},S a->m a e=a
section
variable{α:Type}{S:α->Prop}{m:α->α->α}{e:α}
def pw(m:α->α->α)(e x:α):Nat->α
 |0=>e
 |k+1=>m (pw m e x k) x
def rep(m:α->α->α)(x:α):Nat->α->α
 |0,a=>a
 |k+1,a=>rep m x k (m a x)
def ph(m:α->α->α)(e:α)(h:Nat->α)(x:Nat->Nat):Nat->Nat->α
 |t,0=>e
 |t,d+1=>m (pw m e (h t) (x t)) (ph m e h x (t+1) d)
def fo(m:α->α->α)(h:Nat->α)(x:Nat->Nat):Nat->Nat->α->α
 |t,0,a=>a
 |t,d+1,a=>fo m h x (t+1) d (rep m (h t) (x t) a)
theorem Mon.pw(M:Mon S m e){x:α}(hx:S x):∀k,S (pw m e x k)
 |0=>M.one
 |k+1=>M.cl (M.pw hx k) hx
theorem Mon.pw_add(M:Mon S m e){x:α}(hx:S x)(a:Nat):∀b,Grp.pw m e x (a+b)=m (Grp.pw m e x a) (Grp.pw m e x b)
 |0=>(M.r1 (M.pw hx a)).symm
 |b+1=>by
  show m (Grp.pw m e x (a+b)) x=m _ (m (Grp.pw m e x b) x);rw[M.pw_add hx a b,M.as (M.pw hx a) (M.pw hx b) hx]
theorem Mon.pw_one(M:Mon S m e){x:α}(hx:S x):Grp.pw m e x 1=x:=M.l1 hx
theorem Mon.pw_comm(M:Mon S m e){x:α}(hx:S x)(a:Nat):m (Grp.pw m e x a) x=m x (Grp.pw m e x a):=by
 have h1:=M.pw_add hx a 1;have h2:=M.pw_add hx 1 a;rw[M.pw_one hx]at h1 h2;rw[<-h1,<-h2,Nat.add_comm]
theorem Mon.rep_eq(M:Mon S m e){x:α}(hx:S x):∀(k:Nat) {a:α},S a->rep m x k a=m a (Grp.pw m e x k)
 |0,a,ha=>(M.r1 ha).symm
 |k+1,a,ha=>by
  show rep m x k (m a x)=m a (m (Grp.pw m e x k) x);rw[M.rep_eq hx k (M.cl ha hx),M.as ha hx (M.pw hx k),M.pw_comm hx k]
theorem Mon.ph(M:Mon S m e){h:Nat->α}{x:Nat->Nat}:∀{d t:Nat},(∀j,t<=j->j<t+d->S (h j))->S (ph m e h x t d)
 |0,t,_=>M.one
 |d+1,t,hh=>M.cl (M.pw (hh t (vH _) (by omega)) _) (M.ph λj h1 h2=>hh j (by omega) (by omega))
theorem Mon.fo_eq(M:Mon S m e){h:Nat->α}{x:Nat->Nat}:∀{d t:Nat} {a:α},(∀j,t<=j->j<t+d->S (h j))->S a->fo m h x t d a=m a (Grp.ph m e h x t d)
 |0,t,a,_,ha=>(M.r1 ha).symm
 |d+1,t,a,hh,ha=>by
  have ht:=hh t (vH _) (by omega);show fo m h x (t+1) d (rep m (h t) (x t) a)=m a (m _ _);rw[M.rep_eq ht _ ha,M.fo_eq (λj h1 h2=>hh j (by omega) (by omega)) (M.cl ha (M.pw ht _)),M.as ha (M.pw ht _) (M.ph λj h1 h2=>hh j (by omega) (by omega))]
theorem zCg{h h':Nat->α}{x x':Nat->Nat}:∀{d t:Nat},(∀j,t<=j->j<t+d->h j=h' j/\x j=x' j)->Grp.ph m e h x t d=Grp.ph m e h' x' t d
 |0,t,_=>rfl
 |d+1,t,hh=>by
  simp only[Grp.ph];rw[(hh t (vH _) (by omega)).1,(hh t (vH _) (by omega)).2,zCg λj h1 h2=>hh j (by omega) (by omega)]
theorem Mon.past_pw(M:Mon S m e){g u v:α}(hg:S g)(hu:S u)(hv:S v)(h:m u g=m g v):∀k,m (Grp.pw m e u k) g=m g (Grp.pw m e v k)
 |0=>by rw[Grp.pw,Grp.pw,M.l1 hg,M.r1 hg]
 |k+1=>by
  show m (m (Grp.pw m e u k) u) g=m g (m (Grp.pw m e v k) v);rw[M.as (M.pw hu k) hu hg,h,<-M.as (M.pw hu k) hg hv,M.past_pw hg hu hv h k,M.as hg (M.pw hv k) hv]
theorem Mon.past_ph(M:Mon S m e){g:α}(hg:S g){h h':Nat->α}{x:Nat->Nat}:∀{d t:Nat},(∀j,t<=j->j<t+d->S (h j)/\S (h' j)/\m (h j) g=m g (h' j))->m (Grp.ph m e h x t d) g=m g (Grp.ph m e h' x t d)
 |0,t,_=>by rw[Grp.ph,Grp.ph,M.l1 hg,M.r1 hg]
 |d+1,t,hh=>by
  obtain⟨h1,h2,h3⟩:=hh t (vH _) (by omega);have i1:=M.ph (x:=x) (λj a b=>(hh j (show t<=j by omega) (by omega)).1) (d:=d) (t:=t+1);have i2:=M.ph (x:=x) (λj a b=>(hh j (show t<=j by omega) (by omega)).2.1) (d:=d) (t:=t+1);show m (m _ _) g=m g (m _ _);rw[M.as (M.pw h1 _) i1 hg,M.past_ph hg λj a b=>hh j (by omega) (by omega),<-M.as (M.pw h1 _) hg i2,M.past_pw hg h1 h2 h3,M.as hg (M.pw h2 _) i2]
end
variable{O:L3}{P:L4}{C:L5}
structure TT(O:L3)(t:Nat)(x:L3):Prop where
 len:x.length=O.length
 bd:∀j,j<O.length->0<=at_ x j/\at_ x j<at_ O j
 zero:∀j,j<t->at_ x j=0
abbrev nx(x:L3)(j:Nat):Nat:=(at_ x j).toNat
abbrev cvec(C:L5)(i j:Nat):L3:=(C.getD i []).getD (j-i-1) []
abbrev pvec(P:L4)(i:Nat):L3:=P.getD i []
abbrev zv(O:L3):L3:=List.replicate O.length 0
structure Shp(O:L3)(P:L4)(C:L5):Prop where
 le:O.length<=6
 pr:∀j,j<O.length->2<=at_ O j/\at_ O j<=7
 pl:P.length=O.length
 cl:C.length=O.length
 pw:∀i,i<O.length->TT O (i+1) (pvec P i)
 row:∀i,i<O.length->(C.getD i []).length=O.length-1-i
 cj:∀i j,i<j->j<O.length->TT O (i+1) (cvec C i j)
def img(O:L3)(C:L5)(m:L3->L3->L3)(i:Nat)(x:L3):L3:=fo m (cvec C i) (nx x) (i+1) (O.length-1-i) (zv O)
def iter{α:Type}(f:α->α):Nat->α->α
 |0,a=>a
 |k+1,a=>iter f k (f a)
theorem zEb{α:Type}(f:α->α)(a b:Nat)(x:α):iter f (a+b) x=iter f b (iter f a x):=by
 induction a generalizing x with
 |zero=>rw[Nat.zero_add];rfl
 |succ a ih=>rw[show a+1+b=(a+b)+1 by omega];exact ih (f x)
def mu(O:L3)(P:L4)(C:L5):Nat->L3->L3->L3
 |0,_,_=>zv O
 |d+1,a,b=>
  let i:=O.length-(d+1)
  let r:=mu O P C d (iter (img O C (mu O P C d) i) (nx b i) (a.set i 0)) (b.set i 0)
  if at_ a i+at_ b i ≥ at_ O i then(mu O P C d (pvec P i) r).set i (at_ a i+at_ b i-at_ O i)else r.set i (at_ a i+at_ b i)
theorem TT.zv(t:Nat)(h:∀j,j<O.length->0<at_ O j):TT O t (zv O):=⟨by simp,λj hj=>by rw[ZB];exact⟨by omega,h j hj⟩,λj _=>ZB _ j⟩
theorem TT.mono{t t':Nat}{x:L3}(h:TT O t x)(ht:t'<=t):TT O t' x:=⟨h.len,h.bd,λj hj=>h.zero j (by omega)⟩
theorem TT.set{t i:Nat}{x:L3}(h:TT O t x)(hi:i<O.length)(rF:t<=i){c:Int}(hc:0<=c/\c<at_ O i):TT O t (x.set i c):=by
 have hl:i<x.length:=by rw[h.len];exact hi
 refine⟨by rw[List.length_set,h.len],λj hj=>?_,λj hj=>?_⟩
 .rw[at_set hl];split
  .rename_i e;subst e;exact hc
  .exact h.bd j hj
 .rw[at_set hl,if_neg (by omega)];exact h.zero j hj
theorem TT.set0{i:Nat}{x:L3}(h:TT O i x)(hi:i<O.length)(hO:0<at_ O i):TT O (i+1) (x.set i 0):=by
 have hl:i<x.length:=by rw[h.len];exact hi
 have h1:=h.set hi (vH _) (c:=0) ⟨by omega,hO⟩;refine⟨h1.len,h1.bd,λj hj=>?_⟩;rw[at_set hl];split
 .rfl
 .exact h.zero j (by omega)
theorem TT.ext{t:Nat}{x y:L3}(h:TT O t x)(g:TT O t y)(he:∀j,t<=j->j<O.length->at_ x j=at_ y j):x=y:=by
 refine Qc (by rw[h.len,g.len]) λj hj=>?_;rcases Nat.lt_or_ge j t with e|e
 .rw[h.zero j e,g.zero j e]
 .exact he j e (by rw[<-h.len];exact hj)
theorem Shp.pos(s:Shp O P C){j:Nat}(hj:j<O.length):0<at_ O j:=by have:=(s.pr j hj).1;omega
theorem Shp.zv(s:Shp O P C)(t:Nat):TT O t (zv O):=TT.zv t λj hj=>s.pos hj
theorem zL9{α:Type}{S:α->Prop}{m:α->α->α}{x:α}(h:∀a,S a->S (m a x)):∀(k:Nat) {a:α},S a->S (rep m x k a)
 |0,a,ha=>ha
 |k+1,a,ha=>zL9 h k (h a ha)
theorem fo_in{α:Type}{S:α->Prop}{m:α->α->α}{h:Nat->α}{x:Nat->Nat}:∀{d t:Nat} {a:α},(∀j,t<=j->j<t+d->∀a,S a->S (m a (h j)))->S a->S (fo m h x t d a)
 |0,t,a,_,ha=>ha
 |d+1,t,a,hh,ha=>by
  show S (fo m h x (t+1) d (rep m (h t) (x t) a));exact fo_in (λj h1 h2=>hh j (by omega) (by omega)) (zL9 (hh t (vH _) (by omega)) (x t) ha)
theorem zBH{α:Type}{S:α->Prop}{f:α->α}(h:∀a,S a->S (f a)):∀(k:Nat) {a:α},S a->S (iter f k a)
 |0,a,ha=>ha
 |k+1,a,ha=>zBH h k (h a ha)
theorem zCL(s:Shp O P C){m:L3->L3->L3}{i:Nat}(hm:∀a b,TT O (i+1) a->TT O (i+1) b->TT O (i+1) (m a b))(x:L3):TT O (i+1) (img O C m i x):=
 fo_in (λj h1 h2 a ha=>hm a _ ha (s.cj i j (by omega) (by omega))) (s.zv _)
theorem mu_tt(s:Shp O P C):∀{d:Nat} {a b:L3},d<=O.length->TT O (O.length-d) a->TT O (O.length-d) b->TT O (O.length-d) (mu O P C d a b)
 |0,a,b,_,ha,hb=>s.zv _
 |d+1,a,b,hd,ha,hb=>by
  have hi:O.length-(d+1)<O.length:=by omega
  have e:O.length-d=O.length-(d+1)+1:=by omega
  have hm:∀a b,TT O (O.length-(d+1)+1) a->TT O (O.length-(d+1)+1) b->TT O (O.length-(d+1)+1) (mu O P C d a b):=by
   rw[<-e];exactλa b h1 h2=>mu_tt s (by omega) h1 h2
  have aD:=s.pos hi;have ba:=ha.bd _ hi;have bb:=hb.bd _ hi;have ir:=hm _ _ (zBH (λx _=>zCL s hm x) (nx b (O.length-(d+1))) (ha.set0 hi aD)) (hb.set0 hi aD);simp only[mu];split
  .exact((hm _ _ (s.pw _ hi) ir).mono (Nat.le_succ _)).set hi (vH _) ⟨by omega,by omega⟩
  .exact(ir.mono (Nat.le_succ _)).set hi (vH _) ⟨by omega,by omega⟩
end Go.Grp
namespace Go.Grp
open Go.Ab Go.Lie
variable{O:L3}{P:L4}{C:L5}{α:Type}{S:α->Prop}{m:α->α->α}{e:α}{h:Nat->α}{t0:Nat}
abbrev Ph(O:L3)(m:α->α->α)(e:α)(h:Nat->α)(d:Nat)(x:L3):α:=ph m e h (nx x) (O.length-d) d
structure Rel(O:L3)(P:L4)(C:L5)(S:α->Prop)(m:α->α->α)(e:α)(h:Nat->α)(t0:Nat):Prop where
 mem:∀j,t0<=j->j<O.length->S (h j)
 pow:∀j,t0<=j->j<O.length->pw m e (h j) (nx O j)=Ph O m e h (O.length-(j+1)) (pvec P j)
 cj:∀j k,t0<=j->j<k->k<O.length->m (h k) (h j)=m (h j) (Ph O m e h (O.length-(j+1)) (cvec C j k))
theorem Ph_in(M:Mon S m e)(r:Rel O P C S m e h t0){d:Nat}(hd:d<=O.length-t0)(x:L3):S (Ph O m e h d x):=M.ph λj h1 h2=>r.mem j (by omega) (by omega)
theorem zFl{d i:Nat}(hi:i<O.length-d){x:L3}(hx:x.length=O.length)(c:Int):Ph O m e h d (x.set i c)=Ph O m e h d x:=
 zCg λj h1 h2=>⟨rfl,by show(at_ _ j).toNat=(at_ x j).toNat;rw[at_set (by omega),if_neg (by omega)]⟩
theorem zKd{d:Nat}(hd:d<O.length)(x:L3):Ph O m e h (d+1) x=m (pw m e (h (O.length-(d+1))) (nx x (O.length-(d+1)))) (Ph O m e h d x):=by
 show ph m e h (nx x) _ (d+1)=_;rw[ph,show O.length-(d+1)+1=O.length-d by omega]
theorem Ph_zv(M:Mon S m e):∀d:Nat,Ph O m e h d (zv O)=e:=by
 intro d
 have:∀(d t:Nat),ph m e h (nx (zv O)) t d=e:=by
  intro d
  induction d with
  |zero=>intro t;rfl
  |succ d ih=>
   intro t;have h0:nx (zv O) t=0:=by show(at_ (zv O) t).toNat=0;rw[ZB];rfl
   rw[ph,ih,h0];exact M.l1 M.one
 exact this d _
theorem Ph_fo(M:Mon S m e){T:L3->Prop}{mm:L3->L3->L3}{F:L3->α}(hF:∀a b,T a->T b->T (mm a b)/\F (mm a b)=m (F a) (F b)){c:Nat->L3}{x:Nat->Nat}:
  ∀{d t:Nat} {a:L3},(∀j,t<=j->j<t+d->T (c j))->T a->T (fo mm c x t d a)/\F (fo mm c x t d a)=fo m (λj=>F (c j)) x t d (F a)
 |0,t,a,_,ha=>⟨ha,rfl⟩
 |d+1,t,a,hc,ha=>by
  have hr:∀(k:Nat) {a:L3},T a->T (rep mm (c t) k a)/\F (rep mm (c t) k a)=rep m (F (c t)) k (F a):=by
   intro k
   induction k with
   |zero=>exactλha=>⟨ha,rfl⟩
   |succ k ih=>
    intro a ha;obtain⟨h1,h2⟩:=hF a (c t) ha (hc t (vH _) (by omega));obtain⟨h3,h4⟩:=ih h1;exact⟨h3,by show F (rep mm (c t) k (mm a (c t)))=rep m (F (c t)) k (m (F a) (F (c t)));rw[h4,h2]⟩
  obtain⟨h1,h2⟩:=hr (x t) ha;obtain⟨h3,h4⟩:=Ph_fo M hF (c:=c) (x:=x) (d:=d) (t:=t+1) (λj h1 h2=>hc j (by omega) (by omega)) h1;refine⟨h3,?_⟩;show F (fo mm c x (t+1) d _)=fo m _ x (t+1) d (rep m (F (c t)) (x t) (F a));rw[h4,h2]
theorem dyck(s:Shp O P C)(M:Mon S m e)(r:Rel O P C S m e h t0):∀{d:Nat},d<=O.length-t0->∀{a b:L3},TT O (O.length-d) a->TT O (O.length-d) b->Ph O m e h d (mu O P C d a b)=m (Ph O m e h d a) (Ph O m e h d b)
 |0,_,a,b,_,_=>(M.l1 M.one).symm
 |d+1,hd,a,b,ha,hb=>by
  have hi:O.length-(d+1)<O.length:=by omega
  have aY:t0<=O.length-(d+1):=by omega
  have e1:O.length-d=O.length-(d+1)+1:=by omega
  have e2:O.length-1-(O.length-(d+1))=d:=by omega
  have e3:O.length-(O.length-(d+1)+1)=d:=by omega
  have aD:=s.pos hi;have ba:=ha.bd _ hi;have bb:=hb.bd _ hi;have hS:=r.mem _ aY hi;have ih:∀{a b:L3},TT O (O.length-d) a->TT O (O.length-d) b->Ph O m e h d (mu O P C d a b)=m (Ph O m e h d a) (Ph O m e h d b):=λh1 h2=>dyck s M r (by omega) h1 h2;have cl:∀{a b:L3},TT O (O.length-d) a->TT O (O.length-d) b->TT O (O.length-d) (mu O P C d a b):=λh1 h2=>mu_tt s (by omega) h1 h2;have bQ:∀x,S (Ph O m e h d x):=λx=>Ph_in M r (by omega) x;generalize aI:O.length-(d+1)=i at *
  have Ak:∀{x:L3},TT O (O.length-d) x->TT O (O.length-d) (img O C (mu O P C d) i x)/\m (Ph O m e h d x) (h i)=m (h i) (Ph O m e h d (img O C (mu O P C d) i x)):=by
   intro x hx;have hc:∀j,i+1<=j->j<i+1+d->TT O (O.length-d) (cvec C i j):=λj h1 h2=>by rw[e1];exact s.cj i j (by omega) (by omega)
   have fg:TT O (O.length-d) (zv O):=s.zv _;obtain⟨f1,f2⟩:=Ph_fo M (T:=TT O (O.length-d)) (mm:=mu O P C d) (F:=Ph O m e h d) (λa b h1 h2=>⟨cl h1 h2,ih h1 h2⟩) (c:=cvec C i) (x:=nx x) hc fg;have BK:img O C (mu O P C d) i x=fo (mu O P C d) (cvec C i) (nx x) (i+1) d (zv O):=by rw[img,e2]
   rw[BK];refine⟨f1,?_⟩;rw[f2,Ph_zv M,M.fo_eq (λj _ _=>bQ _) M.one,M.l1 (M.ph λj _ _=>bQ _)];show m (ph m e h (nx x) (O.length-d) d) (h i)=_;rw[e1];refine M.past_ph hS λj h1 h2=>⟨r.mem j (by omega) (by omega),bQ _,?_⟩
   have:=r.cj i j aY (by omega) (by omega)
   rw[e3]at this;exact this
  have mA:∀(k:Nat) {x:L3},TT O (O.length-d) x->TT O (O.length-d) (iter (img O C (mu O P C d) i) k x)/\m (Ph O m e h d x) (pw m e (h i) k)=m (pw m e (h i) k) (Ph O m e h d (iter (img O C (mu O P C d) i) k x)):=by
   intro k
   induction k with
   |zero=>exactλ{x} hx=>⟨hx,by show m _ e=m e _;rw[M.r1 (bQ x)];exact(M.l1 (bQ x)).symm⟩
   |succ k ik=>
    intro x hx;obtain⟨g1,g2⟩:=Ak hx;obtain⟨g3,g4⟩:=ik g1;refine⟨g3,?_⟩;show m _ (m (pw m e (h i) k) (h i))=m (m (pw m e (h i) k) (h i)) (Ph O m e h d (iter _ k (img O C (mu O P C d) i x)));rw[M.pw_comm hS,<-M.as (bQ _) hS (M.pw hS k),g2,M.as hS (bQ _) (M.pw hS k),g4,<-M.as hS (M.pw hS k) (bQ _)]
  have mL:TT O (O.length-d) (a.set i 0):=by rw[e1];exact ha.set0 hi aD
  have j4:TT O (O.length-d) (b.set i 0):=by rw[e1];exact hb.set0 hi aD
  obtain⟨k1,k2⟩:=mA (nx b i) mL;have il:i<O.length-d:=by omega
  rw[zFl il ha.len]at k2;have er:=ih k1 j4;rw[zFl il hb.len]at er;have ct:=cl k1 j4;have jd:∀x,Ph O m e h (d+1) x=m (pw m e (h i) (nx x i)) (Ph O m e h d x):=λx=>by rw[zKd (by omega),aI]
  rw[jd a,jd b,jd];generalize hL:iter (img O C (mu O P C d) i) (nx b i) (a.set i 0)=L at *
  have BI:mu O P C (d+1) a b=if at_ a i+at_ b i ≥ at_ O i then(mu O P C d (pvec P i) (mu O P C d L (b.set i 0))).set i (at_ a i+at_ b i-at_ O i)else(mu O P C d L (b.set i 0)).set i (at_ a i+at_ b i):=by
   simp only[mu,aI,hL]
  have rhs:m (m (pw m e (h i) (nx a i)) (Ph O m e h d a)) (m (pw m e (h i) (nx b i)) (Ph O m e h d b))=m (pw m e (h i) (nx a i+nx b i)) (Ph O m e h d (mu O P C d L (b.set i 0))):=by
   rw[er,M.pw_add hS,M.as (M.pw hS _) (bQ _) (M.cl (M.pw hS _) (bQ _)),<-M.as (bQ _) (M.pw hS _) (bQ _),k2,M.as (M.pw hS _) (bQ _) (bQ _),<-M.as (M.pw hS _) (M.pw hS _) (M.cl (bQ _) (bQ _))]
  rw[rhs,BI];have hn:(at_ a i+at_ b i).toNat=nx a i+nx b i:=by show _=(at_ a i).toNat+(at_ b i).toNat;omega
  have fE:∀{x:L3} (c:Int),TT O (O.length-d) x->nx (x.set i c) i=c.toNat:=λ{x} c hx=>by show(at_ _ i).toNat=_;rw[at_set (by rw[hx.len];exact hi),if_pos rfl]
  split
  .rename_i aG;have hp:TT O (O.length-d) (pvec P i):=by rw[e1];exact s.pw i hi
   have cp:=cl hp ct;rw[fE _ cp,zFl il cp.len,ih hp ct];have rp:=r.pow i aY hi;rw[e3]at rp;rw[<-rp,<-M.as (M.pw hS _) (M.pw hS _) (bQ _),<-M.pw_add hS];congr 2
   show(at_ a i+at_ b i-at_ O i).toNat+(at_ O i).toNat=(at_ a i).toNat+(at_ b i).toNat
   omega
  .rw[fE _ ct,zFl il ct.len,hn]
structure Gp{α:Type}(S:α->Prop)(m:α->α->α)(e:α):Prop extends Mon S m e where
 inv:∀{a},S a->∃b,S b/\m a b=e/\m b a=e
theorem Gp.cancel(G:Gp S m e){a b c:α}(ha:S a)(hb:S b)(hc:S c)(h:m a b=m a c):b=c:=by
 obtain⟨i,hi,_,h1⟩:=G.inv ha
 have:=congrArg (m i) h
 rwa[<-G.as hi ha hb,<-G.as hi ha hc,h1,G.l1 hb,G.l1 hc]at this
theorem Gp.of_right(M:Mon S m e)(hr:∀{a},S a->∃b,S b/\m a b=e):Gp S m e:=by
 refine⟨M,λ{a} ha=>?_⟩;obtain⟨b,hb,h1⟩:=hr ha;obtain⟨c,hc,h2⟩:=hr hb;refine⟨b,hb,h1,?_⟩
 have:a=c:=by rw[<-M.r1 ha,<-h2,<-M.as ha hb hc,h1,M.l1 hc]
 rw[this];exact h2
theorem Mon.pw_ind(M:Mon S m e){Q:α->Prop}(h1:Q e)(hm:∀a b,S a->S b->Q a->Q b->Q (m a b)){x:α}(hx:S x)(hq:Q x):∀k,Q (Grp.pw m e x k)
 |0=>h1
 |k+1=>hm _ _ (M.pw hx k) hx (M.pw_ind h1 hm hx hq k) hq
theorem Mon.ph_ind(M:Mon S m e){Q:α->Prop}(h1:Q e)(hm:∀a b,S a->S b->Q a->Q b->Q (m a b)){h:Nat->α}{x:Nat->Nat}:∀{d t:Nat},(∀j,t<=j->j<t+d->S (h j)/\Q (h j))->Q (Grp.ph m e h x t d)
 |0,t,_=>h1
 |d+1,t,hh=>by
  obtain⟨g1,g2⟩:=hh t (vH _) (by omega);exact hm _ _ (M.pw g1 _) (M.ph λj a b=>(hh j (by omega) (by omega)).1) (M.pw_ind h1 hm g1 g2 _) (M.ph_ind h1 hm λj a b=>hh j (by omega) (by omega))
theorem Mon.ph_skip(M:Mon S m e){h:Nat->α}{x:Nat->Nat}{d:Nat}:∀{k t:Nat},(∀j,t<=j->j<t+k->x j=0)->(∀j,t+k<=j->j<t+k+d->S (h j))->Grp.ph m e h x t (k+d)=Grp.ph m e h x (t+k) d
 |0,t,_,_=>by rw[Nat.zero_add,Nat.add_zero]
 |k+1,t,h0,hs=>by
  have:=M.ph_skip (h:=h) (x:=x) (d:=d) (k:=k) (t:=t+1) (λj a b=>h0 j (by omega) (by omega)) (λj a b=>hs j (by omega) (by omega))
  rw[show k+1+d=(k+d)+1 by omega,Grp.ph,h0 t (vH _) (by omega),this,show t+1+k=t+(k+1) by omega];exact M.l1 (M.ph λj a b=>hs j (by omega) (by omega))
abbrev unit(O:L3)(j:Nat):L3:=(zv O).set j 1
theorem Shp.unit(s:Shp O P C){t j:Nat}(hj:j<O.length)(ht:t<=j):TT O t (unit O j):=(s.zv t).set hj ht ⟨by omega,by have:=(s.pr j hj).1;omega⟩
structure Lv(O:L3)(P:L4)(C:L5)(i:Nat):Prop where
 pow:∀j,i<j->j<O.length->pw (mu O P C (O.length-1-i)) (zv O) (cvec C i j) (nx O j)=img O C (mu O P C (O.length-1-i)) i (pvec P j)
 cj:∀j k,i<j->j<k->k<O.length->mu O P C (O.length-1-i) (cvec C i k) (cvec C i j)=mu O P C (O.length-1-i) (cvec C i j) (img O C (mu O P C (O.length-1-i)) i (cvec C j k))
 fix:img O C (mu O P C (O.length-1-i)) i (pvec P i)=pvec P i
 inn:∀j,i<j->j<O.length->mu O P C (O.length-1-i) (pvec P i) (iter (img O C (mu O P C (O.length-1-i)) i) (nx O i) (unit O j))=mu O P C (O.length-1-i) (unit O j) (pvec P i)
structure Beh(O:L3)(P:L4)(C:L5)(d:Nat):Prop where
 le:d<=O.length
 gp:Gp (TT O (O.length-d)) (mu O P C d) (zv O)
 nf:∀{x},TT O (O.length-d) x->Ph O (mu O P C d) (zv O) (unit O) d x=x
theorem ZA{x:L3}{i:Nat}(h:at_ x i=0)(hi:i<x.length):x.set i 0=x:=by
 refine Qc (by simp) λj hj=>?_;rw[at_set hi];split
 .rename_i e;subst e;exact h.symm
 .rfl
theorem zC7(x:L3)(i:Nat)(a b:Int):(x.set i a).set i b=x.set i b:=List.set_set ..
theorem zL2{x:L3}{i:Nat}(hi:i<x.length):(x.set i 0).set i (at_ x i)=x:=by
 rw[zC7];refine Qc (by simp) λj hj=>?_;rw[at_set hi];split
 .rename_i e;subst e;rfl
 .rfl
section
variable{d i:Nat}
abbrev al(O:L3)(P:L4)(C:L5)(d i:Nat):L3->L3:=img O C (mu O P C d) i
theorem al_ph(s:Shp O P C)(B:Beh O P C d)(hi:O.length-d=i+1)(x:L3):al O P C d i x=Ph O (mu O P C d) (zv O) (cvec C i) d x:=by
 have hle:=B.le;have hs:∀j,i+1<=j->j<i+1+d->TT O (O.length-d) (cvec C i j):=λj h1 h2=>by rw[hi];exact s.cj i j (by omega) (by omega)
 have e:O.length-1-i=d:=by omega
 show fo _ _ _ _ _ _=ph _ _ _ _ _ _;rw[e,B.gp.fo_eq hs B.gp.one,B.gp.l1 (B.gp.ph hs),hi]
theorem al_zv(s:Shp O P C)(B:Beh O P C d)(hi:O.length-d=i+1):al O P C d i (zv O)=zv O:=by rw[al_ph s B hi,Ph_zv B.gp.toMon]
theorem zRl(s:Shp O P C)(B:Beh O P C d)(hi:O.length-d=i+1)(L:Lv O P C i):Rel O P C (TT O (O.length-d)) (mu O P C d) (zv O) (cvec C i) (i+1):=by
 have hle:=B.le;have e:O.length-1-i=d:=by omega
 have hs:∀j,i+1<=j->j<O.length->TT O (O.length-d) (cvec C i j):=λj h1 h2=>by rw[hi];exact s.cj i j (by omega) h2
 have sk:∀{j:Nat} {x:L3},i<j->j<O.length->TT O (j+1) x->al O P C d i x=Ph O (mu O P C d) (zv O) (cvec C i) (O.length-(j+1)) x:=λ{j x} h1 h2 hx=>by
  rw[al_ph s B hi];show ph _ _ _ _ _ _=ph _ _ _ _ _ _
  have:=B.gp.toMon.ph_skip (h:=cvec C i) (x:=nx x) (d:=O.length-(j+1)) (k:=j-i) (t:=i+1) (λt a b=>by show(at_ x t).toNat=0;rw[hx.zero t (by omega)];rfl) (λt a b=>hs t (by omega) (by omega))
  rw[show j-i+(O.length-(j+1))=d by omega,show i+1+(j-i)=O.length-(O.length-(j+1)) by omega]at this;rw[hi];exact this
 refine⟨hs,λj h1 h2=>?_,λj k h1 h2 h3=>?_⟩
 .have:=L.pow j (by omega) h2
  rw[e]at this;rw[this];exact sk (by omega) h2 (s.pw j h2)
 .have:=L.cj j k (by omega) h2 h3
  rw[e]at this;rw[this];congr 1;exact sk (by omega) (by omega) (s.cj j k h2 h3)
theorem al_in(s:Shp O P C)(B:Beh O P C d)(hi:O.length-d=i+1)(x:L3):TT O (O.length-d) (al O P C d i x):=by
 rw[hi];exact zCL s (by rw[<-hi];exactλa b h1 h2=>B.gp.cl h1 h2) x
theorem zR9(s:Shp O P C)(B:Beh O P C d)(hi:O.length-d=i+1)(L:Lv O P C i){a b:L3}(ha:TT O (O.length-d) a)(hb:TT O (O.length-d) b):al O P C d i (mu O P C d a b)=mu O P C d (al O P C d i a) (al O P C d i b):=by
 rw[al_ph s B hi,al_ph s B hi,al_ph s B hi];exact dyck s B.gp.toMon (zRl s B hi L) (by have:=B.le;omega) ha hb
theorem it_in(s:Shp O P C)(B:Beh O P C d)(hi:O.length-d=i+1)(k:Nat){x:L3}(hx:TT O (O.length-d) x):TT O (O.length-d) (iter (al O P C d i) k x):=zBH (λa _=>al_in s B hi a) k hx
theorem zHy(s:Shp O P C)(B:Beh O P C d)(hi:O.length-d=i+1)(L:Lv O P C i):∀(k:Nat) {a b:L3},TT O (O.length-d) a->TT O (O.length-d) b->iter (al O P C d i) k (mu O P C d a b)=mu O P C d (iter (al O P C d i) k a) (iter (al O P C d i) k b)
 |0,a,b,ha,hb=>rfl
 |k+1,a,b,ha,hb=>by
  show iter _ k (al O P C d i _)=_;rw[zR9 s B hi L ha hb,zHy s B hi L k (al_in s B hi a) (al_in s B hi b)];rfl
theorem zDN{f:L3->L3}{w:L3}(h:f w=w):∀k,iter f k w=w
 |0=>rfl
 |k+1=>by show iter f k (f w)=w;rw[h];exact zDN h k
theorem zQf(s:Shp O P C)(B:Beh O P C d)(hi:O.length-d=i+1)(L:Lv O P C i){x:L3}(hx:TT O (O.length-d) x):mu O P C d (pvec P i) (iter (al O P C d i) (nx O i) x)=mu O P C d x (pvec P i):=by
 have hle:=B.le;have aK:i<O.length:=by omega
 have e:O.length-1-i=d:=by omega
 have hw:TT O (O.length-d) (pvec P i):=by rw[hi];exact s.pw i aK
 have M:=B.gp.toMon
 have:=M.ph_ind (Q:=λx=>mu O P C d (pvec P i) (iter (al O P C d i) (nx O i) x)=mu O P C d x (pvec P i)) ?_ ?_ (h:=unit O) (x:=nx x) (d:=d) (t:=O.length-d) λj h1 h2=>⟨s.unit (by omega) h1,?_⟩
 .have nf:=B.nf hx;rw[show Ph O (mu O P C d) (zv O) (unit O) d x=ph (mu O P C d) (zv O) (unit O) (nx x) (O.length-d) d from rfl]at nf;rw[nf]at this;exact this
 .rw[zDN (al_zv s B hi),M.r1 hw,M.l1 hw]
 .intro a b ha hb h1 h2;rw[zHy s B hi L _ ha hb,<-M.as hw (it_in s B hi _ ha) (it_in s B hi _ hb),h1,M.as ha hw (it_in s B hi _ hb),h2,<-M.as ha hb hw]
 .have:=L.inn j (by omega) (by omega)
  rw[e]at this;exact this
theorem zDq(s:Shp O P C)(B:Beh O P C d)(hi:O.length-d=i+1){a b:Int}{x y:L3}(hx:TT O (O.length-d) x)(hy:TT O (O.length-d) y):
  mu O P C (d+1) (x.set i a) (y.set i b)=if a+b ≥ at_ O i then(mu O P C d (pvec P i) (mu O P C d (iter (al O P C d i) b.toNat x) y)).set i (a+b-at_ O i)else(mu O P C d (iter (al O P C d i) b.toNat x) y).set i (a+b):=by
 have hle:=B.le;have aK:i<O.length:=by omega
 have h0:O.length-(d+1)=i:=by omega
 have xl:i<x.length:=by rw[hx.len];exact aK
 have yl:i<y.length:=by rw[hy.len];exact aK
 have zx:at_ x i=0:=hx.zero i (by omega);have zy:at_ y i=0:=hy.zero i (by omega);simp only[mu,h0];rw[zC7,zC7,ZA zx xl,ZA zy yl];have e1:at_ (x.set i a) i=a:=by rw[at_set xl,if_pos rfl]
 have e2:at_ (y.set i b) i=b:=by rw[at_set yl,if_pos rfl]
 show(if at_ (x.set i a) i+at_ (y.set i b) i ≥ _ then _ else _)=_
 have e3:nx (y.set i b) i=b.toNat:=by show(at_ _ i).toNat=_;rw[e2]
 rw[e1,e2,e3]
theorem pair(h:i<O.length){t:Nat}{x:L3}(hx:TT O i x)(aD:0<at_ O i):∃y a,TT O (i+1) y/\x=y.set i a/\0<=a/\a<at_ O i:=
 ⟨x.set i 0,at_ x i,hx.set0 h aD,(zL2 (by rw[hx.len];exact h)).symm,(hx.bd i h).1,(hx.bd i h).2⟩
theorem zPN(s:Shp O P C)(B:Beh O P C d)(hi:O.length-d=i+1)(L:Lv O P C i):Beh O P C (d+1):=by
 have hle:=B.le;have aK:i<O.length:=by omega
 have h0:O.length-(d+1)=i:=by omega
 have e:O.length-1-i=d:=by omega
 have aD:=s.pos aK;have hw:TT O (O.length-d) (pvec P i):=by rw[hi];exact s.pw i aK
 have M:=B.gp.toMon;have mp:=λ{a b:Int} {x y:L3} (hx:TT O (O.length-d) x) (hy:TT O (O.length-d) y)=>zDq s B hi (a:=a) (b:=b) hx hy;have ii:=λ(k:Nat) {x:L3} (hx:TT O (O.length-d) x)=>it_in s B hi k hx;have im:=λ(k:Nat) {x y:L3} (hx:TT O (O.length-d) x) (hy:TT O (O.length-d) y)=>zHy s B hi L k hx hy;have iw:∀k,iter (al O P C d i) k (pvec P i)=pvec P i:=λk=>zDN (by have:=L.fix;rw[e]at this;exact this) k;have iz:∀k,iter (al O P C d i) k (zv O)=zv O:=λk=>zDN (al_zv s B hi) k;have pr:∀{x:L3},TT O i x->∃y a,TT O (O.length-d) y/\x=y.set i a/\0<=a/\a<at_ O i:=λhx=>by rw[hi];exact pair aK (t:=0) hx aD
 have zs:zv O=(zv O).set i 0:=(ZA (ZB _ i) (by simp;exact aK)).symm;have hz:TT O (O.length-d) (zv O):=s.zv _;have l1:∀{a:L3},TT O i a->mu O P C (d+1) (zv O) a=a:=λ{a} ha=>by
  obtain⟨x,a,hx,rfl,b1,b2⟩:=pr ha;rw[zs,mp hz hx,if_neg (by omega),iz,M.l1 hx,Int.zero_add]
 have r1:∀{a:L3},TT O i a->mu O P C (d+1) a (zv O)=a:=λ{a} ha=>by
  obtain⟨x,a,hx,rfl,b1,b2⟩:=pr ha
  conv=>lhs;rw[zs]
  rw[mp hx hz,if_neg (by omega),Int.add_zero]
  show(mu O P C d x (zv O)).set i a=_
  rw[M.r1 hx]
 have cl:∀{a b:L3},TT O i a->TT O i b->TT O i (mu O P C (d+1) a b):=λ{a b} ha hb=>by
  have:=mu_tt s (d:=d+1) (by omega) (by rw[h0];exact ha) (by rw[h0];exact hb)
  rwa[h0]at this
 have vI:∀{a b c:L3},TT O i a->TT O i b->TT O i c->mu O P C (d+1) (mu O P C (d+1) a b) c=mu O P C (d+1) a (mu O P C (d+1) b c):=λ{a b c} ha hb hc=>by
  obtain⟨x,a,hx,rfl,a1,a2⟩:=pr ha;obtain⟨y,b,hy,rfl,b1,b2⟩:=pr hb;obtain⟨z,c,cq,rfl,c1,c2⟩:=pr hc;have A:=ii b.toNat hx;have Bc:=ii c.toNat hy;have AB:=M.cl A hy;have BZ:=M.cl Bc cq;have ka:=λ{u:L3} (hu:TT O (O.length-d) u)=>zQf s B hi L hu;have ic:iter (al O P C d i) c.toNat (iter (al O P C d i) b.toNat x)=iter (al O P C d i) (b.toNat+c.toNat) x:=(zEb _ _ _ _).symm;have X:=ii (b.toNat+c.toNat) hx;rw[mp hx hy,mp hy cq];by_cases h1:a+b ≥ at_ O i
  .rw[if_pos h1,mp (M.cl hw AB) cq,im _ hw AB,iw,im _ A hy,ic];by_cases h2:b+c ≥ at_ O i
   .rw[if_pos h2,mp hx (M.cl hw BZ)];have hk:(b+c-at_ O i).toNat+nx O i=b.toNat+c.toNat:=by show _+(at_ O i).toNat=_;omega
    have hX:=ka (ii (b+c-at_ O i).toNat hx);rw[<-zEb,hk]at hX;have e5:mu O P C d (iter (al O P C d i) (b+c-at_ O i).toNat x) (mu O P C d (pvec P i) (mu O P C d (iter (al O P C d i) c.toNat y) z))=mu O P C d (mu O P C d (pvec P i) (mu O P C d (iter (al O P C d i) (b.toNat+c.toNat) x) (iter (al O P C d i) c.toNat y))) z:=by
     rw[<-M.as (ii _ hx) hw BZ,<-hX,M.as hw X BZ,<-M.as X Bc cq,<-M.as hw (M.cl X Bc) cq]
    rw[e5];by_cases h3:a+b-at_ O i+c ≥ at_ O i
    .rw[if_pos h3,if_pos (by omega)];congr 1;omega
    .rw[if_neg h3,if_neg (by omega)];congr 1;omega
   .rw[if_neg h2,mp hx BZ,if_neg (by omega),if_pos (by omega),show(b+c).toNat=b.toNat+c.toNat by omega];rw[<-M.as X Bc cq,<-M.as hw (M.cl X Bc) cq];congr 1;omega
  .rw[if_neg h1,mp AB cq,im _ A hy,ic];by_cases h2:b+c ≥ at_ O i
   .rw[if_pos h2,mp hx (M.cl hw BZ),if_pos (by omega),if_neg (by omega)];have hk:(b+c-at_ O i).toNat+nx O i=b.toNat+c.toNat:=by show _+(at_ O i).toNat=_;omega
    have hX:=ka (ii (b+c-at_ O i).toNat hx);rw[<-zEb,hk]at hX;rw[<-M.as (ii _ hx) hw BZ,<-hX,M.as hw X BZ,<-M.as X Bc cq];congr 1;omega
   .rw[if_neg h2,mp hx BZ,show(b+c).toNat=b.toNat+c.toNat by omega,<-M.as X Bc cq];by_cases h3:a+b+c ≥ at_ O i
    .rw[if_pos h3,if_pos (by omega)];congr 1;omega
    .rw[if_neg h3,if_neg (by omega)];congr 1;omega
 have Mn:Mon (TT O (O.length-(d+1))) (mu O P C (d+1)) (zv O):=by
  rw[h0];exact⟨s.zv _,cl,vI,l1,r1⟩
 refine⟨by omega,Gp.of_right Mn ?_,?_⟩
 .rw[h0];intro a ha;obtain⟨x,a,hx,rfl,a1,a2⟩:=pr ha;by_cases Bz:a=0
  .subst Bz;obtain⟨y,hy,h1,_⟩:=B.gp.inv hx;refine⟨y.set i 0,(hy.mono (by omega)).set aK (vH _) ⟨by omega,aD⟩,?_⟩;rw[mp hx hy,if_neg (by omega)]
   show(mu O P C d x y).set i _=_
   rw[h1,Int.add_zero];exact zs.symm
  .obtain⟨y,hy,h1,_⟩:=B.gp.inv (M.cl hw (ii (at_ O i-a).toNat hx));refine⟨y.set i (at_ O i-a),(hy.mono (by omega)).set aK (vH _) ⟨by omega,by omega⟩,?_⟩;rw[mp hx hy,if_pos (by omega),<-M.as hw (ii _ hx) hy,h1,show a+(at_ O i-a)-at_ O i=0 by omega];exact zs.symm
 .rw[h0];intro x hx;obtain⟨y,a,hy,rfl,a1,a2⟩:=pr hx;have yl:i<y.length:=by rw[hy.len];exact aK
  have hu:∀k:Nat,(k:Int)<at_ O i->pw (mu O P C (d+1)) (zv O) (unit O i) k=(zv O).set i k:=by
   intro k
   induction k with
   |zero=>intro _;exact zs
   |succ k ih=>
    intro hk;show mu O P C (d+1) (pw _ _ _ k) (unit O i)=_;rw[ih (by omega),mp hz hz,if_neg (by omega)]
    show(mu O P C d (al O P C d i (zv O)) (zv O)).set i _=_
    rw[al_zv s B hi,M.l1 hz];congr 1
  have sub:∀{u v:L3},TT O (O.length-d) u->TT O (O.length-d) v->mu O P C (d+1) u v=mu O P C d u v:=λ{u v} hu hv=>by
   have ul:i<u.length:=by rw[hu.len];exact aK
   have vl:i<v.length:=by rw[hv.len];exact aK
   have h3:=mp (a:=0) (b:=0) hu hv;rw[ZA (hu.zero i (by omega)) ul,ZA (hv.zero i (by omega)) vl,if_neg (by omega)]at h3;rw[h3];have oa:=M.cl hu hv;exact ZA (oa.zero i (by omega)) (by show i<(mu O P C d u v).length;rw[oa.len];exact aK)
  have x6:∀{u:L3},TT O (O.length-d) u->∀k,pw (mu O P C (d+1)) (zv O) u k=pw (mu O P C d) (zv O) u k:=λ{u} hu k=>by
   induction k with
   |zero=>rfl
   |succ k ih=>show mu O P C (d+1) (pw _ _ u k) u=mu O P C d (pw _ _ u k) u;rw[ih,sub (M.pw hu k) hu]
  have yc:∀(c t:Nat),O.length-d<=t->t+c<=O.length->ph (mu O P C (d+1)) (zv O) (unit O) (nx (y.set i a)) t c=ph (mu O P C d) (zv O) (unit O) (nx y) t c:=by
   intro c
   induction c with
   |zero=>intro t _ _;rfl
   |succ c ih=>
    intro t h1 h2;have wR:TT O (O.length-d) (unit O t):=s.unit (by omega) h1;have fJ:nx (y.set i a) t=nx y t:=by show(at_ _ t).toNat=(at_ y t).toNat;rw[at_set yl,if_neg (by omega)]
    rw[ph,ph,ih (t+1) (by omega) (by omega),x6 wR,fJ,sub (M.pw wR _) (M.ph λj g1 g2=>s.unit (by omega) (by omega))]
  rw[zKd (by omega),h0,show Ph O (mu O P C (d+1)) (zv O) (unit O) d (y.set i a)=Ph O (mu O P C d) (zv O) (unit O) d y from yc d _ (vH _) (by omega),B.nf hy];have fJ:nx (y.set i a) i=a.toNat:=by show(at_ _ i).toNat=_;rw[at_set yl,if_pos rfl]
  have ys:y=y.set i 0:=(ZA (hy.zero i (by omega)) yl).symm;rw[fJ,hu _ (by omega)]
  conv=>lhs;rw[ys]
  rw[mp hz hy,if_neg (by omega)]
  show(mu O P C d (zv O) y).set i _=_
  rw[M.l1 hy];congr 1;omega
theorem zPM(s:Shp O P C):Beh O P C 0:=by
 have h0:∀{x:L3},TT O (O.length-0) x->x=zv O:=λ{x} hx=>hx.ext (s.zv _) λj h1 h2=>by omega
 refine⟨Nat.zero_le _,⟨⟨s.zv _,λ_ _=>s.zv _,λ_ _ _=>rfl,λh=>(h0 h).symm,λh=>(h0 h).symm⟩,λh=>⟨zv O,s.zv _,rfl,rfl⟩⟩,λh=>(h0 h).symm⟩
end
def Cons(O:L3)(P:L4)(C:L5):Prop:=∀i,i<O.length->Lv O P C i
end Go.Grp
namespace Go.Grp
open Go.Ab Go.Lie
variable{O:L3}{P:L4}{C:L5}{α:Type}{S:α->Prop}{m:α->α->α}{e:α}{h:Nat->α}{d i:Nat}
theorem zF6(s:Shp O P C)(hd:d+1<=O.length){u v:L3}(hu:TT O (O.length-d) u)(hv:TT O (O.length-d) v):mu O P C (d+1) u v=mu O P C d u v:=by
 have aK:O.length-(d+1)<O.length:=by omega
 have zu:=hu.zero (O.length-(d+1)) (by omega);have sv:=hv.zero (O.length-(d+1)) (by omega);have oa:=mu_tt s (by omega:d<=O.length) hu hv;have hp:=s.pos aK;simp only[mu];rw[ZA zu (by rw[hu.len];exact aK),ZA sv (by rw[hv.len];exact aK),zu,sv,if_neg (by omega)]
 have:nx v (O.length-(d+1))=0:=by show(at_ v _).toNat=0;rw[sv];rfl
 rw[this];exact ZA (oa.zero _ (by omega)) (by show _<(mu O P C d u v).length;rw[oa.len];exact aK)
theorem zM0(s:Shp O P C):∀{k:Nat},d+k<=O.length->∀{u v:L3},TT O (O.length-d) u->TT O (O.length-d) v->mu O P C (d+k) u v=mu O P C d u v
 |0,_,u,v,_,_=>rfl
 |k+1,hk,u,v,hu,hv=>by
  rw[show d+(k+1)=(d+k)+1 by omega,zF6 s (by omega) (hu.mono (by omega)) (hv.mono (by omega)),zM0 s (by omega) hu hv]
theorem zHP{m':α->α->α}(h:∀a b,S a->S b->m' a b=m a b)(M:Mon S m e){x:α}(hx:S x):∀k,pw m' e x k=pw m e x k
 |0=>rfl
 |k+1=>by show m' (pw m' e x k) x=m (pw m e x k) x;rw[zHP h M hx k,h _ _ (M.pw hx k) hx]
theorem zFC{m':α->α->α}(h:∀a b,S a->S b->m' a b=m a b)(M:Mon S m e){f:Nat->α}{x:Nat->Nat}:∀{c t:Nat},(∀j,t<=j->j<t+c->S (f j))->ph m' e f x t c=ph m e f x t c
 |0,t,_=>rfl
 |c+1,t,hf=>by
  have ht:=hf t (vH _) (by omega);have i:=zFC h M (f:=f) (x:=x) (c:=c) (t:=t+1) λj a b=>hf j (by omega) (by omega);rw[ph,ph,i,zHP h M ht];exact h _ _ (M.pw ht _) (M.ph λj a b=>hf j (by omega) (by omega))
theorem zRD{m:L3->L3->L3}(M:Mon (TT O (O.length-d)) m (zv O))(s:Shp O P C){f:Nat->L3}(hf:∀j,O.length-d<=j->j<O.length->TT O (O.length-d) (f j))(hd:d<=O.length){k:Nat}(h1:O.length-d<=k)(h2:k<O.length):Ph O m (zv O) f d (unit O k)=f k:=by
 have:∀(c t:Nat),O.length-d<=t->t+c=O.length->ph m (zv O) f (nx (unit O k)) t c=if t<=k then f k else zv O:=by
  intro c
  induction c with
  |zero=>intro t g1 g2;rw[ph,if_neg (by omega)]
  |succ c ih=>
   intro t g1 g2;have hn:nx (unit O k) t=if t=k then 1 else 0:=by
    show(at_ ((zv O).set k 1) t).toNat=_
    rw[at_set (by simp;exact h2)];split
    .rfl
    .rw[ZB];rfl
   rw[ph,ih (t+1) (by omega) (by omega),hn];have ft:=hf t g1 (by omega);by_cases e:t=k
   .subst e;rw[if_pos rfl,if_neg (by omega),if_pos (vH _),M.pw_one ft,M.r1 ft]
   .rw[if_neg e];show m (zv O) _=_;by_cases g:t<=k
    .rw[if_pos (by omega),if_pos g,M.l1 (hf k h1 h2)]
    .rw[if_neg (by omega),if_neg g,M.l1 M.one]
 have:=this d (O.length-d) (vH _) (by omega)
 rw[if_pos h1]at this;exact this
structure Full(O:L3)(P:L4)(C:L5)(d:Nat):Prop extends Beh O P C d where
 rel:Rel O P C (TT O (O.length-d)) (mu O P C d) (zv O) (unit O) (O.length-d)
theorem zNO(s:Shp O P C):Full O P C 0:=⟨zPM s,⟨λj h1 h2=>s.unit h2 h1,λj h1 h2=>by omega,λj k h1 h2 h3=>by omega⟩⟩
theorem zNP(s:Shp O P C)(B:Full O P C d)(hi:O.length-d=i+1)(L:Lv O P C i):Full O P C (d+1):=by
 have hle:=B.le;have aK:i<O.length:=by omega
 have h0:O.length-(d+1)=i:=by omega
 have B1:=zPN s B.toBeh hi L;refine⟨B1,?_⟩;have M:=B.gp.toMon;have aD:=s.pos aK;have hz:TT O (O.length-d) (zv O):=s.zv _;have hw:TT O (O.length-d) (pvec P i):=by rw[hi];exact s.pw i aK
 have sub:∀a b,TT O (O.length-d) a->TT O (O.length-d) b->mu O P C (d+1) a b=mu O P C d a b:=λa b ha hb=>zF6 s (by omega) ha hb;have un:∀j,O.length-d<=j->j<O.length->TT O (O.length-d) (unit O j):=λj h1 h2=>s.unit h2 h1;have mp:=λ{a b:Int} {x y:L3} (hx:TT O (O.length-d) x) (hy:TT O (O.length-d) y)=>zDq s B.toBeh hi (a:=a) (b:=b) hx hy;have zs:zv O=(zv O).set i 0:=(ZA (ZB _ i) (by simp;exact aK)).symm;have nfx:∀{j:Nat} {x:L3},i<=j->j<O.length->TT O (j+1) x->Ph O (mu O P C (d+1)) (zv O) (unit O) (O.length-(j+1)) x=x:=λ{j x} h1 h2 hx=>by
  have hn:=B.nf (hx.mono (by omega:O.length-d<=j+1));have e1:Ph O (mu O P C (d+1)) (zv O) (unit O) (O.length-(j+1)) x=Ph O (mu O P C d) (zv O) (unit O) (O.length-(j+1)) x:=zFC sub M λk a b=>un k (by omega) (by omega);rw[e1]
  have:=M.ph_skip (h:=unit O) (x:=nx x) (d:=O.length-(j+1)) (k:=j-i) (t:=O.length-d) (λt a b=>by show(at_ x t).toNat=0;rw[hx.zero t (by omega)];rfl) (λt a b=>un t (by omega) (by omega))
  rw[show j-i+(O.length-(j+1))=d by omega,show O.length-d+(j-i)=O.length-(O.length-(j+1)) by omega]at this;show ph _ _ _ _ _ _=x;rw[<-this];exact hn
 rw[h0];refine⟨λj h1 h2=>s.unit h2 h1,λj h1 h2=>?_,λj k h1 h2 h3=>?_⟩
 .rw[nfx h1 h2 (s.pw j h2)];by_cases e:j=i
  .subst e;have hu:∀k:Nat,(k:Int)<at_ O j->pw (mu O P C (d+1)) (zv O) (unit O j) k=(zv O).set j k:=by
    intro k
    induction k with
    |zero=>intro _;exact zs
    |succ k ih=>
     intro hk;show mu O P C (d+1) (pw _ _ _ k) (unit O j)=_;rw[ih (by omega),mp hz hz,if_neg (by omega)]
     show(mu O P C d (al O P C d j (zv O)) (zv O)).set j _=_
     rw[al_zv s B.toBeh hi,M.l1 hz];congr 1
   obtain⟨o,ho⟩:∃o:Nat,nx O j=o+1:=⟨nx O j-1,by show(at_ O j).toNat=_;have:nx O j=(at_ O j).toNat:=rfl;omega⟩
   have Cl:at_ O j=(o:Int)+1:=by have:nx O j=(at_ O j).toNat:=rfl;omega
   rw[ho];show mu O P C (d+1) (pw _ _ _ o) (unit O j)=_;rw[hu o (by omega),mp hz hz,if_pos (by omega)]
   show(mu O P C d (pvec P j) (mu O P C d (al O P C d j (zv O)) (zv O))).set j _=_
   rw[al_zv s B.toBeh hi,M.l1 hz,M.r1 hw,show(o:Int)+1-at_ O j=0 by omega];exact ZA (hw.zero j (by omega)) (by rw[hw.len];exact aK)
  .rw[zHP sub M (un j (by omega) h2),B.rel.pow j (by omega) h2];have hn:=nfx h1 h2 (s.pw j h2);have e1:Ph O (mu O P C (d+1)) (zv O) (unit O) (O.length-(j+1)) (pvec P j)=Ph O (mu O P C d) (zv O) (unit O) (O.length-(j+1)) (pvec P j):=zFC sub M λk a b=>un k (by omega) (by omega);rw[<-e1];exact hn
 .rw[nfx h1 (by omega) (s.cj j k h2 h3)];by_cases e:j=i
  .subst e;have hc:TT O (O.length-d) (cvec C j k):=by rw[hi];exact s.cj j k h2 h3
   have uk:=un k (by omega) h3;have zu:=uk.zero j (by omega);have zc:=hc.zero j (by omega);have e1:mu O P C (d+1) (unit O k) (unit O j)=(cvec C j k).set j 1:=by
    have:=mp (a:=0) (b:=1) uk hz
    rw[ZA zu (by rw[uk.len];exact aK),if_neg (by have:=(s.pr j aK).1;omega)]at this;rw[this]
    show(mu O P C d (al O P C d j (unit O k)) (zv O)).set j _=_
    rw[al_ph s B.toBeh hi,zRD M s (λq a b=>by rw[hi];exact s.cj j q (by omega) b) hle (by omega) h3,M.r1 hc];congr 1
   have e2:mu O P C (d+1) (unit O j) (cvec C j k)=(cvec C j k).set j 1:=by
    have:=mp (a:=1) (b:=0) hz hc
    rw[ZA zc (by rw[hc.len];exact aK),if_neg (by have:=(s.pr j aK).1;omega)]at this;rw[this]
    show(mu O P C d (zv O) (cvec C j k)).set j _=_
    rw[M.l1 hc];congr 1
   rw[e1,e2]
  .have AL:TT O (O.length-d) (cvec C j k):=(s.cj j k h2 h3).mono (by omega);have hn:=nfx h1 (by omega) (s.cj j k h2 h3);have e1:Ph O (mu O P C (d+1)) (zv O) (unit O) (O.length-(j+1)) (cvec C j k)=Ph O (mu O P C d) (zv O) (unit O) (O.length-(j+1)) (cvec C j k):=zFC sub M λk a b=>un k (by omega) (by omega);rw[e1]at hn
   have:=B.rel.cj j k (by omega) h2 h3
   rw[hn]at this;rw[sub _ _ (un k (by omega) h3) (un j (by omega) (by omega)),sub _ _ (un j (by omega) (by omega)) AL];exact this
theorem full_of(s:Shp O P C):∀{d:Nat},d<=O.length->(∀i,O.length-d<=i->i<O.length->Lv O P C i)->Full O P C d
 |0,_,_=>zNO s
 |d+1,hd,h=>zNP s (full_of s (by omega) λi h1 h2=>h i (by omega) h2) (by omega) (h (O.length-(d+1)) (vH _) (by omega))
theorem Mon.ph_app(M:Mon S m e){f:Nat->α}{x:Nat->Nat}{b:Nat}:∀{a t:Nat},(∀j,t<=j->j<t+a+b->S (f j))->Grp.ph m e f x t (a+b)=m (Grp.ph m e f x t a) (Grp.ph m e f x (t+a) b)
 |0,t,hf=>by
  rw[Nat.zero_add,Nat.add_zero];exact(M.l1 (M.ph λj h1 h2=>hf j (by omega) (by omega))).symm
 |a+1,t,hf=>by
  have ft:=hf t (vH _) (by omega);rw[show a+1+b=(a+b)+1 by omega,Grp.ph,Grp.ph,M.ph_app λj h1 h2=>hf j (by omega) (by omega),show t+(a+1)=t+1+a by omega,M.as (M.pw ft _) (M.ph λj h1 h2=>hf j (by omega) (by omega)) (M.ph λj h1 h2=>hf j (by omega) (by omega))]
def hdz(x:L3)(j:Nat):L3:=x.take (j+1)++List.replicate (x.length-(j+1)) 0
theorem zDu(x:L3)(j:Nat):(hdz x j).length=x.length:=by simp[hdz];omega
theorem zCN(x:L3)(j k:Nat):at_ (hdz x j) k=if k<=j then at_ x k else 0:=by
 simp only[hdz,at_,List.getD_eq_getElem?_getD];by_cases hk:k<=j
 .rw[if_pos hk];by_cases hl:k<x.length
  .rw[List.getElem?_append_left (by simp;omega),List.getElem?_take,if_pos (by omega)]
  .rw[List.getElem?_eq_none (by simp;omega),List.getElem?_eq_none (by omega)]
 .rw[if_neg hk];by_cases hl:k<x.length
  .rw[List.getElem?_append_right (by simp;omega),List.getElem?_replicate];split<;>rfl
  .rw[List.getElem?_eq_none (by simp;omega)];rfl
theorem zH3{t j:Nat}{x:L3}(hx:TT O t x)(hO:∀j,j<O.length->0<at_ O j):TT O t (hdz x j):=by
 refine⟨by rw[zDu,hx.len],λk hk=>?_,λk hk=>?_⟩
 .rw[zCN];split
  .exact hx.bd k hk
  .exact⟨by omega,hO k hk⟩
 .rw[zCN];split
  .exact hx.zero k hk
  .rfl
def tstep(O:L3)(P:L4)(C:L5)(m:L3->L3->L3)(x:L3)(j:Nat):L3:=
 fo m (cvec C j) (nx x) (j+1) (O.length-1-j) (if at_ x j+1=at_ O j then m ((hdz x j).set j 0) (pvec P j)else(hdz x j).set j (at_ x j+1))
theorem zNt(s:Shp O P C)(B:Full O P C d){x:L3}(hx:TT O (O.length-d) x){j:Nat}(h1:O.length-d<=j)(h2:j<O.length):tstep O P C (mu O P C d) x j=mu O P C d x (unit O j):=by
 have hle:=B.le;have M:=B.gp.toMon;have aD:=s.pos h2;have bx:=hx.bd j h2;have un:∀k,O.length-d<=k->k<O.length->TT O (O.length-d) (unit O k):=λk a b=>s.unit b a;have cv:∀k,j+1<=k->k<O.length->TT O (O.length-d) (cvec C j k):=λk a b=>(s.cj j k (by omega) b).mono (by omega);have gF:TT O (O.length-d) (pvec P j):=(s.pw j h2).mono (by omega);have uj:=un j h1 h2;have jl:j<(hdz x j).length:=by rw[zDu,hx.len];exact h2
 -- lR head, lR lO kX, lR rest
 let H:=ph (mu O P C d) (zv O) (unit O) (nx x) (O.length-d) (j-(O.length-d))
 have hH:TT O (O.length-d) H:=M.ph λk a b=>un k (by omega) (by omega);have wi:∀{y:L3},(∀k,k<j->at_ y k=at_ x k)->TT O (O.length-d) y->y=mu O P C d H (mu O P C d (pw (mu O P C d) (zv O) (unit O j) (nx y j)) (ph (mu O P C d) (zv O) (unit O) (nx y) (j+1) (O.length-1-j))):=λ{y} hy ht=>by
  have e1:=B.nf ht;have e2:Ph O (mu O P C d) (zv O) (unit O) d y=mu O P C d (ph (mu O P C d) (zv O) (unit O) (nx y) (O.length-d) (j-(O.length-d))) (ph (mu O P C d) (zv O) (unit O) (nx y) j (O.length-1-j+1)):=by
   have:=M.ph_app (f:=unit O) (x:=nx y) (a:=j-(O.length-d)) (b:=O.length-1-j+1) (t:=O.length-d) λk a b=>un k (by omega) (by omega)
   rw[show j-(O.length-d)+(O.length-1-j+1)=d by omega,show O.length-d+(j-(O.length-d))=j by omega]at this;exact this
  have e3:ph (mu O P C d) (zv O) (unit O) (nx y) (O.length-d) (j-(O.length-d))=H:=zCg λk a b=>⟨rfl,by show(at_ y k).toNat=(at_ x k).toNat;rw[hy k (by omega)]⟩
  rw[e3]at e2;exact e1.symm.trans e2
 have nB:∀{y:L3},(∀k,j<k->at_ y k=0)->ph (mu O P C d) (zv O) (unit O) (nx y) (j+1) (O.length-1-j)=zv O:=λ{y} hy=>by
  have e1:ph (mu O P C d) (zv O) (unit O) (nx y) (j+1) (O.length-1-j)=ph (mu O P C d) (zv O) (unit O) (nx (zv O)) (j+1) (O.length-1-j):=zCg λk a b=>⟨rfl,by show(at_ y k).toNat=(at_ (zv O) k).toNat;rw[hy k (by omega),ZB]⟩
  rw[e1]
  have:=Ph_zv (O:=O) (h:=unit O) M (O.length-1-j)
  show ph _ _ _ _ _ _=_;rw[show j+1=O.length-(O.length-1-j) by omega];exact this
 let R:=ph (mu O P C d) (zv O) (unit O) (nx x) (j+1) (O.length-1-j)
 let R':=ph (mu O P C d) (zv O) (cvec C j) (nx x) (j+1) (O.length-1-j)
 have hR:TT O (O.length-d) R:=M.ph λk a b=>un k (by omega) (by omega);have mP:TT O (O.length-d) R':=M.ph λk a b=>cv k a (by omega);have ka:mu O P C d R (unit O j)=mu O P C d (unit O j) R':=M.past_ph uj λk a b=>⟨un k (by omega) (by omega),cv k a (by omega),by
  have:=B.rel.cj j k h1 (by omega) (by omega)
  have yg:Ph O (mu O P C d) (zv O) (unit O) (O.length-(j+1)) (cvec C j k)=cvec C j k:=by
   have hc:=s.cj j k (by omega) (by omega);have hn:=B.nf (cv k a (by omega));have h3:=M.ph_skip (h:=unit O) (x:=nx (cvec C j k)) (d:=O.length-(j+1)) (k:=j+1-(O.length-d)) (t:=O.length-d) (λt a b=>by show(at_ _ t).toNat=0;rw[hc.zero t (by omega)];rfl) (λt a b=>un t (by omega) (by omega));rw[show j+1-(O.length-d)+(O.length-(j+1))=d by omega,show O.length-d+(j+1-(O.length-d))=O.length-(O.length-(j+1)) by omega]at h3;show ph _ _ _ _ _ _=_;rw[<-h3];exact hn
  rw[yg]at this;exact this⟩
 have pj:pw (mu O P C d) (zv O) (unit O j) (nx O j)=pvec P j:=by
  rw[B.rel.pow j h1 h2];have hc:=s.pw j h2;have hn:=B.nf gF;have h3:=M.ph_skip (h:=unit O) (x:=nx (pvec P j)) (d:=O.length-(j+1)) (k:=j+1-(O.length-d)) (t:=O.length-d) (λt a b=>by show(at_ _ t).toNat=0;rw[hc.zero t (by omega)];rfl) (λt a b=>un t (by omega) (by omega));rw[show j+1-(O.length-d)+(O.length-(j+1))=d by omega,show O.length-d+(j+1-(O.length-d))=O.length-(O.length-(j+1)) by omega]at h3;show ph _ _ _ _ _ _=_;rw[<-h3];exact hn
 have mY:∀k,TT O (O.length-d) (pw (mu O P C d) (zv O) (unit O j) k):=λk=>M.pw uj k
 -- both wj Dh H g^(e+1) R'
 have rhs:mu O P C d x (unit O j)=mu O P C d (mu O P C d H (pw (mu O P C d) (zv O) (unit O j) (nx x j+1))) R':=by
  conv=>lhs;rw[wi (λ_ _=>rfl) hx]
  rw[M.as hH (M.cl (mY _) hR) uj,M.as (mY _) hR uj,ka,<-M.as (mY _) uj mP,M.as hH (mY (nx x j+1)) mP];rfl
 have uN:∀{c:Int},0<=c->c<at_ O j->(hdz x j).set j c=mu O P C d H (pw (mu O P C d) (zv O) (unit O j) c.toNat):=λ{c} c0 c1=>by
  have ht:TT O (O.length-d) ((hdz x j).set j c):=(zH3 hx λk hk=>s.pos hk).set h2 h1 ⟨c0,c1⟩;have hs:=wi (y:=(hdz x j).set j c) (λk hk=>by rw[at_set jl,if_neg (by omega),zCN,if_pos (by omega)]) ht;rw[nB λk hk=>by rw[at_set jl,if_neg (by omega),zCN,if_neg (by omega)],M.r1 (mY _)]at hs;rw[hs];congr 2
  show(at_ _ j).toNat=_
  rw[at_set jl,if_pos rfl]
 have lhs:(if at_ x j+1=at_ O j then mu O P C d ((hdz x j).set j 0) (pvec P j)else(hdz x j).set j (at_ x j+1))=mu O P C d H (pw (mu O P C d) (zv O) (unit O j) (nx x j+1)):=by
  split
  .rename_i hc;rw[uN (Int.le_refl _) aD,<-pj,show nx O j=nx x j+1 by show(at_ O j).toNat=(at_ x j).toNat+1;omega];show mu O P C d (mu O P C d H (zv O)) _=_;rw[M.r1 hH]
  .rw[uN (by omega) (by omega),show(at_ x j+1).toNat=nx x j+1 by show _=(at_ x j).toNat+1;omega]
 rw[tstep,lhs,rhs];exact M.fo_eq (λk a b=>cv k a (by omega)) (M.cl hH (mY _))
end Go.Grp
namespace Go.Grp
end Go.Grp
namespace Go.Proofs
open Go.Ab Go.Lie Go.Grp
variable{U:PHeap}{O:L3}{P:L4}{C:L5}{vO vP vC:PV}{s:Nat}{x:L3}
structure IsPr(vO vP vC:PV)(O:L3)(P:L4)(C:L5):Prop where
 O:FI vO O
 P:FII vP P
 C:FIII vC C
structure PtrG(U:PHeap)(s:Nat)(vO vP vC:PV):Prop where
 obj:U.obj s=some [vO,vP,vC]
 lt:s<U.next
theorem PtrG.new(h:PtrG U s vO vP vC)(cs:List PV):PtrG (U.new cs) s vO vP vC:=⟨by have:=h.lt;simp only[Z3,seval,-ae,Nat.ne_of_lt this];exact h.obj,by have:=h.lt;simp only[Z3,seval,-ae];omega⟩
theorem PtrG.set(h:PtrG U s vO vP vC){t:Nat}(ht:s≠t)(cs:List PV):PtrG (U.set t cs) s vO vP vC:=⟨by simp only[Z3,seval,-ae,ht];exact h.obj,h.lt⟩
theorem PtrG.keep{h:PHeap}(hs:PtrG U s vO vP vC)(hk:Keep U h):PtrG h s vO vP vC:=⟨by rw[hk.obj s hs.lt];exact hs.obj,Nat.lt_of_lt_of_le hs.lt hk.next⟩
def isExp(O x:L3):Prop:=x.length=O.length/\∀j,j<x.length->0<=at_ x j/\at_ x j<=at_ O j-1
def zDO(O:L3)(t:Nat)(x:L3):Prop:=isExp O x/\isZ (x.take t)
def prodL:L3->Int
 |[]=>1
 |o::O=>o*prodL O
def rowPr(O:L3)(P:L4)(C:L5)(i:Nat):Prop:=zDO O (i+1) (P.getD i [])/\(C.getD i []).length=O.length-1-i/\∀k,k<(C.getD i []).length->zDO O (i+1) ((C.getD i []).getD k [])
def zAs(O:L3)(P:L4)(C:L5):Prop:=
 O.length<=6/\P.length=O.length/\C.length=O.length/\(∀o∈O,isP o)/\prodL O<=729/\∀i,i<O.length->rowPr O P C i
theorem zDO.tt{t:Nat}(h:zDO O t x):TT O t x:=by
 refine⟨h.1.1,λj hj=>by have:=h.1.2 j (by rw[h.1.1];exact hj);omega,λj hj=>?_⟩;rcases Nat.lt_or_ge j x.length with e|e
 .rw[at_eq e];exact h.2 _ (by rw[List.mem_take_iff_getElem];exact⟨j,by omega,rfl⟩)
 .exact at_ge e
theorem zAs.shp(h:zAs O P C):Shp O P C:=by
 obtain⟨h1,h2,h3,h4,h5,h6⟩:=h;refine⟨h1,λj hj=>?_,h2,h3,λi hi=>(h6 i hi).1.tt,λi hi=>(h6 i hi).2.1,λi j jB hj=>?_⟩
 .rw[at_eq hj];exact(h4 _ (List.getElem_mem hj)).bd
 .have:=(h6 i (by omega)).2.2 (j-i-1) (by rw[(h6 i (by omega)).2.1];omega)
  exact this.tt
variable{K:PV->PHeap->Prop}{vx:PV}{rP rC:List PV}
theorem pisAt{i:Nat}(h:i<x.length):(pis x)[i]? = some (.int .i64 (at_ x i)):=by rw[zQ,gi h,at_eq h];rfl
theorem pvRow(s:Shp O P C)(hP:All2 FI rP P){i:Nat}(hi:i<O.length):∃w a,rP[i]? = some (.fz w a O.length (pis (pvec P i))):=by
 have kI:i<P.length:=by rw[s.pl];exact hi
 obtain⟨w,a,h⟩:=hP.rowI kI;refine⟨w,a,?_⟩;have e:pvec P i=P[i]:=ZK kI;rw[h,e,show P[i].length=O.length by rw[<-e];exact(s.pw i hi).len]
theorem cvRow(s:Shp O P C)(hC:All2 FII rC C){i:Nat}(hi:i<O.length):∃w a rs,rC[i]? = some (.fz w a (O.length-1-i) rs)/\∀q,q<O.length-1-i->∃w' a',rs[q]? = some (.fz w' a' O.length (pis (cvec C i (i+(1+q))))):=by
 have rV:i<C.length:=by rw[s.cl];exact hi
 obtain⟨w,a,rs,h,e9⟩:=hC.rowL rV;have e:C.getD i []=C[i]:=qW rV;have hl:C[i].length=O.length-1-i:=by rw[<-e];exact s.row i hi
 refine⟨w,a,rs,by rw[h,hl],λq hq=>?_⟩;have cG:q<C[i].length:=by omega
 obtain⟨w',a',h'⟩:=e9.rowI cG;have e2:cvec C i (i+(1+q))=C[i][q]:=by
  show(C.getD i []).getD (i+(1+q)-i-1) []=_
  rw[e,show i+(1+q)-i-1=q by omega];exact ZK cG
 exact⟨w',a',by rw[h',e2,show C[i][q].length=O.length by rw[<-e2];exact(s.cj i _ (by omega) (by omega)).len]⟩
theorem FI.mk{w:Bool}{a:AV}{n:Nat}(h:x.length=n):FI (.fz w a n (pis x)) x:=⟨w,a,by rw[h]⟩
def AtOK(O:L3)(P:L4)(C:L5)(d i:Nat):Prop:=
 ∀{U:PHeap} {K:PV->PHeap->Prop} {a b:L3} {va vb vO vP vC:PV},IsPr vO vP vC O P C->TT O i a->TT O i b->FI va a->FI vb b->(∀v,FI v (mu O P C d a b)->K v U)->zA Tryz.prog 219 [.agg [vO,vP,vC],.int .i64 i,va,vb] U K
theorem zJc(s:Shp O P C){d i:Nat}(hi:O.length=d+(i+1))(jc:AtOK O P C d (i+1))(hR:IsPr vO vP vC O P C)(hx:TT O 0 x)(aW:FI vx x)(hk:∀v,FI v (Grp.img O C (mu O P C d) i x)->K v U):
  zA Tryz.prog 291 [.agg [vO,vP,vC],.int .i64 i,vx] U K:=by
 have aX:=s.le;have aM:=hR;have hl:=hx.len;have aK:i<O.length:=by omega
 have hm:∀a b,TT O (i+1) a->TT O (i+1) b->TT O (i+1) (mu O P C d a b):=λa b ha hb=>by
  have:=mu_tt s (d:=d) (a:=a) (b:=b) (by omega) (by rwa[show O.length-d=i+1 by omega]) (by rwa[show O.length-d=i+1 by omega])
  rwa[show O.length-d=i+1 by omega]at this
 obtain⟨⟨w0,a0,rfl⟩,⟨w1,a1,rP,rfl,hP⟩,⟨w3,a3,rC,rfl,hC⟩⟩:=hR;obtain⟨w5,a5,rs,cU,e9⟩:=cvRow s hC aK;have rV:i<C.length:=by rw[s.cl];exact aK
 obtain⟨wx,ax,rfl⟩:=aW;rw[hl];refine zA.gh ?_;refine zP mix Tryz.func291 cf291 rfl ?_;dsimp only[if291,eI,qD,eD,mI0,kI0,lI0,fI0,xI0,bI0,cI0,sI0,mD0,lD0,fD0,xD0,I0,zI0,R0,S0];simp only[Z3,seval,-ae,List.length_replicate,Zg,mk8 (n:=O.length) (by omega),mkL (n:=O.length) (by omega),wrapS aK (by omega:O.length<=4611686018427387904)];have ar:Keep U (((U.new [.fz w0 a0 O.length (pis O),.fz w1 a1 P.length rP,.fz w3 a3 C.length rC]).new (pis (zv O))).kill (U.next+1)):=((zD U _).new _).kill (by omega);refine zBR (λm vs h'=>∃(q:Nat) (vo:PV) (A:L3),q<=d/\m=d-q/\vs=[.int .i64 i,.fz wx ax O.length (pis x),.ptr U.next 0,.int .i64 O.length,vo,.int .i64 ((i+(1+q):Nat):Int)]/\
  h'=((U.new [.fz w0 a0 O.length (pis O),.fz w1 a1 P.length rP,.fz w3 a3 C.length rC]).new (pis (zv O))).kill (U.next+1)/\FI vo A/\TT O (i+1) A/\fo (mu O P C d) (cvec C i) (nx x) (i+(1+q)) (d-q) A=Grp.img O C (mu O P C d) i x) d ?_ ?_
 .refine .fz (U.next+1) (pis (zv O)) (by simp only[Z3,seval,-ae]) (zN _ _) λo1=>.here ?_;refine⟨0,.fz true (.sl o1 0 O.length (.known O.length)) O.length (pis (zv O)),zv O,by omega,by omega,?_,rfl,FI.mk (by simp),s.zv _,?_⟩
  .simp only[Z3,seval,-ae];simp only[sbs,sb,capOK,vH,decide_true,and_self,if_true]
  .show _=fo _ _ _ (i+1) (O.length-1-i) (zv O);rw[show O.length-1-i=d by omega];rfl
 rintro m vs h' ⟨q,vo,A,hq,rfl,rfl,rfl,ji,hA,bU⟩
 simp only[Z3,seval,-ae];refine iteI (λag=>?_) λaG=>?_;rotate_left
 .have w9:q=d:=by omega
  subst w9;rw[Nat.sub_self]at bU
  have:A=Grp.img O C (mu O P C q) i x:=bU
  rw[<-this]at hk;exact Gh.fin0 ar (ji.bel _) (hk _ ji)
 have w9:q<d:=by omega
 have fQ:i+(1+q)<x.length:=by omega
 have bx:=hx.bd (i+(1+q)) (by omega);have bO:=s.pr (i+(1+q)) (by omega);obtain⟨w6,a6,cE⟩:=e9 q (by omega);have Af:q<O.length-1-i:=by omega
 have bY:=s.cj i (i+(1+q)) (by omega) (by omega);have e3:IntKind.i64.wrap (((i+(1+q):Nat):Int)-(i:Int))=((1+q:Nat):Int):=by rw[wrap64 (by omega) (by omega)];omega
 have e4:IntKind.i64.wrap (((1+q:Nat):Int)-1)=(q:Int):=by rw[wrap64 (by omega) (by omega)];omega
 have e5:IntKind.i64.wrap (((i+(1+q):Nat):Int)+1)=((i+(1+(q+1)):Nat):Int):=by rw[wrap64 (by omega) (by omega)];omega
 rw[show d-q=(d-q-1)+1 by omega]at bU;refine zF (λm vs h'=>∃(k:Nat) (vo:PV) (A:L3),k<=nx x (i+(1+q))/\m=nx x (i+(1+q))-k/\vs=[.int .i64 i,.fz wx ax O.length (pis x),.ptr U.next 0,.int .i64 O.length,vo,.int .i64 ((i+(1+q):Nat):Int),.int .i64 k]/\
  h'=((U.new [.fz w0 a0 O.length (pis O),.fz w1 a1 P.length rP,.fz w3 a3 C.length rC]).new (pis (zv O))).kill (U.next+1)/\FI vo A/\TT O (i+1) A/\fo (mu O P C d) (cvec C i) (nx x) (i+(1+q)+1) (d-q-1) (rep (mu O P C d) (cvec C i (i+(1+q))) (nx x (i+(1+q))-k) A)=Grp.img O C (mu O P C d) i x) (nx x (i+(1+q))) ?_ ?_
 .exact⟨0,vo,A,by omega,by omega,rfl,rfl,ji,hA,bU⟩
 rintro m vs h' ⟨k,vo,A,cu,rfl,rfl,rfl,ji,hA,bU⟩
 have fJ:((nx x (i+(1+q)):Nat):Int)=at_ x (i+(1+q)):=Int.toNat_of_nonneg bx.1;simp only[Z3,seval,-ae,pisAt fQ,fQ,hl ▸ fQ];refine iteI (λan=>?_) λkL=>?_
 .have bJ:k<nx x (i+(1+q)):=by omega
  simp only[Z3,seval,-ae,wrapS aK (by omega:O.length<=4611686018427387904),rV,cU,e3,e4,Af,cE];refine jc aM hA bY ji (FI.mk bY.len) λv hv=>?_;simp only[Z3,seval,-ae,wrapS bJ (by omega:nx x (i+(1+q))<=4611686018427387904)];refine⟨_,by omega,k+1,v,_,by omega,rfl,rfl,hv,hm _ _ hA bY,?_⟩;rw[show nx x (i+(1+q))-k=(nx x (i+(1+q))-(k+1))+1 by omega]at bU;exact bU
 .have gg:k=nx x (i+(1+q)):=by omega
  subst gg;simp only[Z3,seval,-ae,e5];refine⟨d-(q+1),by omega,.here ⟨q+1,vo,A,by omega,rfl,rfl,rfl,ji,hA,?_⟩⟩;rw[Nat.sub_self]at bU;rw[show d-(q+1)=d-q-1 by omega];exact bU
theorem zBf(s:Shp O P C):∀{d i:Nat},O.length=d+i->AtOK O P C d i
 |0,i,hi=>by
  rename_i U K a b va vb vO vP vC;intro hR ha hb eN dg hk;have aX:=s.le;obtain⟨⟨w0,a0,rfl⟩,⟨w1,a1,rP,rfl,hP⟩,⟨w3,a3,rC,rfl,hC⟩⟩:=hR;refine zA.gh ?_;have aG:(O.length:Int)<=(i:Int):=by omega
  refine zP mix Tryz.func219 cf219 rfl ?_;dsimp only[if219,eI,nI,qD,eD,mI0,kI0,lI0,LI0,fI0,xI0,bI0,cI0,sI0,C1,C3,mD0,lD0,fD0,xD0,I0,zI0,vI0,R0,S0];simp only[Z3,seval,-ae,aG,List.length_replicate,Zg,mk8 (n:=O.length) (by omega),mkL (n:=O.length) (by omega)];exact Gh.finF (s:=U.next+1) ((zD U _).new _) (by simp only[Z3,seval,-ae];rfl) (by omega) (zN _ _) (by simp[capOK]) λo1=>hk _ (FI.mk (by simp[mu]))
 |d+1,i,hi=>by
  rename_i U K a b va vb vO vP vC;intro hR ha hb eN dg hk;have jc:AtOK O P C d (i+1):=zBf s (by omega);have aX:=s.le;have aM:=hR;have aK:i<O.length:=by omega
  have hO:=s.pr i aK;have cA:=ha.len;have kQ:=hb.len;have ba:=ha.bd i aK;have bb:=hb.bd i aK;have aD:=s.pos aK;have By:O.length-(d+1)=i:=by omega
  have hm:∀a b,TT O (i+1) a->TT O (i+1) b->TT O (i+1) (mu O P C d a b):=λa b ha hb=>by
   have:=mu_tt s (d:=d) (a:=a) (b:=b) (by omega) (by rwa[show O.length-d=i+1 by omega]) (by rwa[show O.length-d=i+1 by omega])
   rwa[show O.length-d=i+1 by omega]at this
  obtain⟨⟨w0,a0,rfl⟩,⟨w1,a1,rP,rfl,hP⟩,⟨w3,a3,rC,rfl,hC⟩⟩:=hR;obtain⟨w5,a5,cZ⟩:=pvRow s hP aK;have kI:i<P.length:=by rw[s.pl];exact aK
  have gF:=s.pw i aK;obtain⟨wa,aa,rfl⟩:=eN;obtain⟨wb,ab,rfl⟩:=dg;have jA:i<a.length:=by omega
  have gK:i<b.length:=by omega
  have aG:¬(O.length:Int)<=(i:Int):=by omega
  have sa:=ha.set0 aK aD;have sG:=hb.set0 aK aD;have BY:=sa.len;have BX:=sG.len;refine zA.gh ?_;refine zP mix Tryz.func219 cf219 rfl ?_;dsimp only[if219,eI,nI,qD,eD,mI0,kI0,lI0,LI0,fI0,xI0,bI0,cI0,sI0,C1,C3,mD0,lD0,fD0,xD0,I0,zI0,vI0,R0,S0];simp only[Z3,seval,-ae,aG];refine QR rfl (by omega) λfM lK=>?_;simp only[Z3,seval,-ae];refine QR rfl (by omega) λgU iD=>?_;have g1:i<a.length/\i+1<=a.length:=⟨jA,jA⟩;have g2:i<b.length/\i+1<=b.length:=⟨gK,gK⟩;simp only[Z3,seval,-ae,g1.1,g1.2,g2.1,g2.2,zK,qM jA,qM gK];refine zBR (λm vs h'=>∃(k:Nat) (vl vr:PV) (A:L3),k<=nx b i/\m=nx b i-k/\vs=[.int .i64 i,.fz wa aa a.length (pis a),.fz wb ab b.length (pis b),.ptr U.next 0,vl,vr,.int .i64 k]/\
   h'=((((U.new [.fz w0 a0 O.length (pis O),.fz w1 a1 P.length rP,.fz w3 a3 C.length rC]).new (pis (a.set i 0))).new (pis (b.set i 0))).kill (U.next+1)).kill (U.next+2)/\FI vl A/\FI vr (b.set i 0)/\TT O (i+1) A/\iter (Grp.img O C (mu O P C d) i) (nx b i-k) A=iter (Grp.img O C (mu O P C d) i) (nx b i) (a.set i 0)) (nx b i) ?_ ?_
  .refine .fz (U.next+1) (pis (a.set i 0)) (by simp only[Z3,seval,-ae]) (zN _ _) λo1=>.fz (U.next+2) (pis (b.set i 0)) (by simp only[Z3,seval,-ae]) (zN _ _) λo2=>.here ?_;refine⟨0,.fz true (.sl o1 0 a.length fM) a.length (pis (a.set i 0)),.fz true (.sl o2 0 b.length gU) b.length (pis (b.set i 0)),a.set i 0,by omega,by omega,?_,rfl,FI.mk (by simp),FI.mk (by simp),sa,rfl⟩;simp only[Z3,seval,-ae];have k1:=lK.ok;have k2:=iD.ok;have ai:¬(U.next+2=U.next+1):=by omega
   simp only[sbs,sb,k1,k2,ai,false_and,if_false,vH,decide_true,and_self,if_true];rfl
  rintro m vs h' ⟨k,vl,vr,A,cu,rfl,rfl,rfl,fF,wQ,hA,aY⟩
  have fJ:((nx b i:Nat):Int)=at_ b i:=Int.toNat_of_nonneg bb.1;have xu:=lK.ok;simp only[Z3,seval,-ae,pisAt gK,gK];refine iteI (λag=>?_) λkL=>?_
  .have bJ:k<nx b i:=by omega
   simp only[Z3,seval,-ae];refine zJc s (by omega) jc aM (hA.mono (Nat.zero_le _)) fF λv hv=>?_;simp only[Z3,seval,-ae,wrapS bJ (by omega:nx b i<=4611686018427387904)];refine⟨nx b i-(k+1),by omega,.here ⟨k+1,v,vr,_,by omega,rfl,rfl,rfl,hv,wQ,zCL s hm _,?_⟩⟩;rw[show nx b i-k=(nx b i-(k+1))+1 by omega]at aY;exact aY
  have gg:k=nx b i:=by omega
  subst gg;rw[Nat.sub_self]at aY;have Bp:A=iter (Grp.img O C (mu O P C d) i) (nx b i) (a.set i 0):=aY;subst Bp;simp only[Z3,seval,-ae,wrapS aK (by omega:O.length<=4611686018427387904)];have ir:=hm _ _ hA sG;have yv:=ir.len;refine jc aM hA sG fF wQ λv hv=>?_;have iG:IntKind.i64.wrap (at_ a i+at_ b i)=at_ a i+at_ b i:=wrap64 (by omega) (by omega);have uA:i<O.length:=aK;simp only[Z3,seval,-ae,pisAt jA,pisAt gK,jA,gK,pisAt aK,uA,iG];have xd:∀c e:L3,(if at_ a i+at_ b i ≥ at_ O i then(mu O P C d (pvec P i) (mu O P C d (iter (Grp.img O C (mu O P C d) i) (nx b i) (a.set i 0)) (b.set i 0))).set i (at_ a i+at_ b i-at_ O i)else(mu O P C d (iter (Grp.img O C (mu O P C d) i) (nx b i) (a.set i 0)) (b.set i 0)).set i (at_ a i+at_ b i))=mu O P C (d+1) a b:=λ_ _=>by
   simp only[mu,By]
  refine iteI (λkK=>?_) λbJ=>?_
  .have cN:IntKind.i64.wrap (at_ a i+at_ b i-at_ O i)=at_ a i+at_ b i-at_ O i:=wrap64 (by omega) (by omega);have e:=xd a b;rw[if_pos kK]at e;simp only[Z3,seval,-ae,pisAt aK,uA,cN,wrapS aK (by omega:O.length<=4611686018427387904),kI,cZ];have kY:=hm _ _ gF ir;have lY:i<(mu O P C d (pvec P i) (mu O P C d (iter (Grp.img O C (mu O P C d) i) (nx b i) (a.set i 0)) (b.set i 0))).length:=by rw[kY.len];exact aK
   refine jc aM gF ir (FI.mk gF.len) hv λv2 bX=>?_;obtain⟨w7,a7,rfl⟩:=bX;simp only[Z3,seval,-ae,pisAt aK,uA,cN,wrapS aK (by omega:O.length<=4611686018427387904),kI,cZ];refine QR rfl (by have:=kY.len;omega) λjT mJ=>?_;simp only[Z3,seval,-ae,lY,Nat.succ_le_of_lt lY,zK,qM lY];rw[<-e]at hk;exact Gh.finF (s:=U.next+1+2) ((((((zD U _).new _).new _).kill (by omega)).kill (by omega)).new _) (by simp only[Z3,seval,-ae]) (by omega) (zN _ _) mJ.ok λo1=>hk _ (FI.mk (by simp))
  .have e:=xd a b;rw[if_neg (by omega)]at e;have lX:i<(mu O P C d (iter (Grp.img O C (mu O P C d) i) (nx b i) (a.set i 0)) (b.set i 0)).length:=by rw[yv];exact aK
   obtain⟨w7,a7,rfl⟩:=hv;simp only[Z3,seval,-ae];refine QR rfl (by omega) λjT mJ=>?_;simp only[Z3,seval,-ae,lX,Nat.succ_le_of_lt lX,zK,qM lX];rw[<-e]at hk;exact Gh.finF (s:=U.next+1+2) ((((((zD U _).new _).new _).kill (by omega)).kill (by omega)).new _) (by simp only[Z3,seval,-ae]) (by omega) (zN _ _) mJ.ok λo1=>hk _ (FI.mk (by simp))
theorem pw_sq{α:Type}{S:α->Prop}{m:α->α->α}{e:α}(M:Mon S m e){x:α}(hx:S x):∀q,Grp.pw m e (m x x) q=Grp.pw m e x (q+q)
 |0=>rfl
 |q+1=>by
  rw[show q+1+(q+1)=(q+q)+1+1 by omega];show m (Grp.pw m e (m x x) q) (m x x)=m (m (Grp.pw m e x (q+q)) x) x;rw[pw_sq M hx q,M.as (M.pw hx _) hx hx]
theorem zRc{α:Type}{S:α->Prop}{m:α->α->α}{e:α}(M:Mon S m e){x:α}(hx:S x)(q:Nat):m x (Grp.pw m e (m x x) q)=Grp.pw m e x (q+q+1):=by
 rw[pw_sq M hx q];exact(M.pw_comm hx _).symm
theorem zDM(s:Shp O P C){d i:Nat}(hi:O.length=d+i)(jc:AtOK O P C d i)(M:Mon (TT O i) (mu O P C d) (zv O))(hR:IsPr vO vP vC O P C)(hx:TT O i x)(aW:FI vx x){k:Int}(dh:0<=k/\k<=1000)
  (hk:∀v,FI v (pw (mu O P C d) (zv O) x k.toNat)->K v U):zA Tryz.prog 272 [.agg [vO,vP,vC],.int .i64 i,vx,.int .i64 k] U K:=by
 have aX:=s.le;have aM:=hR;obtain⟨kn,rfl⟩:∃kn:Nat,k=kn:=⟨k.toNat,by omega⟩
 obtain⟨⟨w0,a0,rfl⟩,⟨w1,a1,rP,rfl,hP⟩,⟨w3,a3,rC,rfl,hC⟩⟩:=hR;refine zA.gh ?_;refine zB mix Tryz.func272 ?_
 conv=>arg 2;cbv
 refine zC rfl ?_;simp only[Z3,seval,-ae,List.length_replicate,Zg,mk8 (n:=O.length) (by omega),mkL (n:=O.length) (by omega)];have ar:Keep U (((U.new [.fz w0 a0 O.length (pis O),.fz w1 a1 P.length rP,.fz w3 a3 C.length rC]).new (pis (zv O))).kill (U.next+1)):=((zD U _).new _).kill (by omega);refine zBR (λm vs h'=>∃(k:Nat) (vo vb:PV) (A b:L3),k<=1000/\m=k/\vs=[.int .i64 i,.int .i64 k,.ptr U.next 0,vo,vb]/\
  h'=((U.new [.fz w0 a0 O.length (pis O),.fz w1 a1 P.length rP,.fz w3 a3 C.length rC]).new (pis (zv O))).kill (U.next+1)/\FI vo A/\FI vb b/\TT O i A/\TT O i b/\mu O P C d A (pw (mu O P C d) (zv O) b k)=pw (mu O P C d) (zv O) x kn) kn ?_ ?_
 .refine .fz (U.next+1) (pis (zv O)) (by simp only[Z3,seval,-ae]) (zN _ _) λo1=>.here ?_;refine⟨kn,.fz true (.sl o1 0 O.length (.known O.length)) O.length (pis (zv O)),vx,zv O,x,by omega,rfl,?_,rfl,FI.mk (by simp),aW,s.zv _,hx,M.l1 (M.pw hx _)⟩;simp only[Z3,seval,-ae];simp only[sbs,sb,capOK,vH,decide_true,and_self,if_true,aW.sb]
 rintro m vs h' ⟨k,vo,vb,A,b,eK,rfl,rfl,rfl,ji,dg,hA,hb,hinv⟩
 simp only[Z3,seval,-ae];refine iteI (λCF=>?_) λhle=>?_;rotate_left
 .have mr:m=0:=by omega
  subst mr;rw[show pw (mu O P C d) (zv O) b 0=zv O from rfl,M.r1 hA]at hinv;rw[show((kn:Int)).toNat=kn from Int.toNat_natCast kn,<-hinv]at hk;exact Gh.fin0 ar (ji.bel _) (hk _ ji)
 have wT:Int.tmod (m:Int) 2=((m % 2:Nat):Int):=by rw[Int.tmod_eq_emod_of_nonneg (by omega)];rfl
 have rG:Int.tdiv (m:Int) 2=((m / 2:Nat):Int):=by rw[Int.tdiv_eq_ediv_of_nonneg (by omega)];rfl
 have h2:¬((2:Int)=0):=by decide
 have wN:IntKind.i64.wrap ((m / 2:Nat):Int)=((m / 2:Nat):Int):=wrap64 (by omega) (by omega);have m6:IntKind.i64.wrap ((m % 2:Nat):Int)=((m % 2:Nat):Int):=wrap64 (by omega) (by omega);have uW:=M.cl hb hb;by_cases ho:m % 2=1
 .have cn:((m % 2:Nat):Int)=1:=by omega
  simp only[Z3,seval,-ae,h2,wT,cn,eq_true cn];refine jc aM hA hb ji dg λv hv=>?_;simp only[Z3,seval,-ae];refine jc aM hb hb dg dg λv2 bX=>?_;simp only[Z3,seval,-ae,h2,rG,wN];refine⟨m / 2,by omega,.here ⟨m / 2,v,v2,_,_,by omega,rfl,rfl,rfl,hv,bX,M.cl hA hb,uW,?_⟩⟩;rw[M.as hA hb (M.pw uW _),zRc M hb,show m / 2+m / 2+1=m by omega];exact hinv
 .have cn:¬((m % 2:Nat):Int)=1:=by omega
  simp only[Z3,seval,-ae,h2,wT,cn];refine jc aM hb hb dg dg λv2 bX=>?_;simp only[Z3,seval,-ae,h2,rG,wN];refine⟨m / 2,by omega,.here ⟨m / 2,vo,v2,_,_,by omega,rfl,rfl,rfl,ji,bX,hA,uW,?_⟩⟩;rw[pw_sq M hb,show m / 2+m / 2=m by omega];exact hinv
variable{vf:PV}{y f:L3}{d:Nat}
theorem zPi{s off l:Nat}{cap:Cap}{ys:L3}(hs:s<U.next)(hr:U.rd s off l=some (pis ys))(hl:ys.length=l)(hb:l<=1048576)(hk:∀a,K (.fz true a l (pis ys)) U):zA Tryz.prog 206 [.sl s off l cap] U K:=by
 refine zA.gh ?_;have ai:¬s=U.next:=Nat.ne_of_lt hs;refine zB mix Tryz.func206 ?_
 conv=>arg 2;cbv
 refine zC rfl ?_;simp only[Z3,seval,-ae];refine PSl.app (b:=0) (news:=pis ys) (m:=l) (zD U _) (Nat.zero_le _) (PSl.new _ 1 rfl (vH _)) rfl (λh0=>?_) (by rw[zK,hl,Nat.mul_one]) (by omega) (by omega) λv' h' k1 k2=>?_
 .rw[Qq];simp only[h0,if_false,vH,if_true,Nat.mul_one,zAb,ai];exact hr
 .simp only[Z3,seval,-ae]at k2 ⊢;exact k2.fin k1 (zN _ _) λo cap=>hk _
theorem zKO{α:Type}{m:α->α->α}{h:Nat->α}{x:Nat->Nat}{c:Nat}:∀{k t:Nat} {a:α},(∀j,t<=j->j<t+k->x j=0)->fo m h x t (k+c) a=fo m h x (t+k) c a
 |0,t,a,_=>by rw[Nat.zero_add,Nat.add_zero]
 |k+1,t,a,h0=>by
  rw[show k+1+c=(k+c)+1 by omega,fo,h0 t (vH _) (by omega)];show fo _ _ _ (t+1) (k+c) a=_;rw[zKO (λj h1 h2=>h0 j (by omega) (by omega)),show t+1+k=t+(k+1) by omega]
theorem zQu(s:Shp O P C)(F:Full O P C d)(hx:TT O (O.length-d) x)(hf:TT O (O.length-d) f):fo (mu O P C d) (Grp.unit O) (nx f) 0 O.length x=mu O P C d x f:=by
 have hle:=F.le;have M:=F.gp.toMon;have h1:=zKO (m:=mu O P C d) (h:=Grp.unit O) (x:=nx f) (c:=d) (k:=O.length-d) (t:=0) (a:=x) λj _ h2=>by show(at_ f j).toNat=0;rw[hf.zero j (by omega)];rfl
 rw[show O.length-d+d=O.length by omega,Nat.zero_add]at h1;rw[h1,M.fo_eq (λj h1 h2=>s.unit (by omega) h1) hx];congr 1;exact F.nf hf
def TGok(O:L3)(P:L4)(C:L5)(d j:Nat):Prop:=
 ∀(U:PHeap) (K:PV->PHeap->Prop) (sp se:Nat) (cap:Cap) (x:L3) (vO vP vC:PV),PtrG U sp vO vP vC->IsPr vO vP vC O P C->U.obj se=some (pis x)->se<U.next->sp≠se->full 1 cap O.length->TT O (O.length-d) x->
  K (.tup []) (U.set se (pis (mu O P C d x (Grp.unit O j))))->zA Tryz.prog 286 [.ptr sp 0,.sl se 0 O.length cap,.int .i64 j] U K
theorem Qu(s:Shp O P C)(F:Full O P C d){t:Nat}(ht:O.length-d<=t)(pG:∀j,t<=j->j<O.length->TGok O P C d j){sp se:Nat}{cap:Cap}(hs:PtrG U sp vO vP vC)(hR:IsPr vO vP vC O P C)
  (he:U.obj se=some (pis x)) (lb:se<U.next) (ai:sp≠se) (bE:full 1 cap O.length) (hx:TT O (O.length-d) x) (hf:TT O t f) (nW:FI vf f) (hk:K (.tup []) (U.set se (pis (mu O P C d x f)))):zA Tryz.prog 215 [.ptr sp 0,.sl se 0 O.length cap,vf] U K:=by
 have aX:=s.le;have CH:=hf.len;have M:=F.gp.toMon;obtain⟨wf,af,rfl⟩:=nW;refine zB mix Tryz.func215 ?_
 conv=>arg 2;cbv
 refine zC rfl ?_;simp only[Z3,seval,-ae];refine zF (λm vs h'=>∃(q:Nat) (y:L3),q<=O.length/\m=O.length-q/\vs=[.ptr sp 0,.sl se 0 O.length cap,.fz wf af f.length (pis f),.int .i64 f.length,.int .i64 q]/\h'=U.set se (pis y)/\TT O (O.length-d) y/\fo (mu O P C d) (Grp.unit O) (nx f) q (O.length-q) y=mu O P C d x f) O.length ?_ ?_
 .exact⟨0,x,by omega,by omega,rfl,(zER he).symm,hx,zQu s F hx (hf.mono ht)⟩
 rintro m vs h' ⟨q,y,hq,rfl,rfl,rfl,hy,bU⟩
 simp only[Z3,seval,-ae];refine iteI (λag=>?_) λaG=>?_;rotate_left
 .have ln:q=O.length:=by omega
  subst ln;rw[Nat.sub_self]at bU;rw[<-bU]at hk;exact hk
 have rK:q<O.length:=by omega
 have bf:=hf.bd q rK;have bO:=s.pr q rK;have fJ:((nx f q:Nat):Int)=at_ f q:=Int.toNat_of_nonneg bf.1;rw[show O.length-q=(O.length-(q+1))+1 by omega]at bU;simp only[Z3,seval,-ae,pisAt ag,ag];refine zF (λm vs h'=>∃(k:Nat) (y:L3),k<=nx f q/\m=nx f q-k/\vs=[.ptr sp 0,.sl se 0 O.length cap,.int .i64 q,.fz wf af f.length (pis f),.int .i64 f.length,.int .i64 q,.int .i64 (at_ f q),.int .i64 k]/\h'=U.set se (pis y)/\TT O (O.length-d) y/\fo (mu O P C d) (Grp.unit O) (nx f) (q+1) (O.length-(q+1)) (rep (mu O P C d) (Grp.unit O q) (nx f q-k) y)=mu O P C d x f) (nx f q) ?_ ?_
 .exact⟨0,y,by omega,by omega,rfl,rfl,hy,bU⟩
 rintro m vs h' ⟨k,y,cu,rfl,rfl,rfl,hy,bU⟩
 simp only[Z3,seval,-ae];refine iteI (λan=>?_) λkL=>?_
 .have bJ:k<nx f q:=by omega
  have yF:t<=q:=by
   rcases Nat.lt_or_ge q t with h|h
   .have:=hf.zero q h;omega
   .exact h
  have hu:TT O (O.length-d) (Grp.unit O q):=s.unit rK (by omega);refine pG q yF rK _ _ sp se cap y vO vP vC (hs.set ai _) hR (by simp only[Z3,seval,-ae]) lb ai bE hy ?_;simp only[Z3,seval,-ae,wrapS bJ (by omega:nx f q<=4611686018427387904)];refine⟨_,by omega,k+1,_,by omega,rfl,rfl,rfl,M.cl hy hu,?_⟩;rw[show nx f q-k=(nx f q-(k+1))+1 by omega]at bU;exact bU
 .have gg:k=nx f q:=by omega
  subst gg;rw[Nat.sub_self]at bU;simp only[Z3,seval,-ae,wrapS ag (by omega:f.length<=4611686018427387904)];exact⟨_,by omega,q+1,y,by omega,rfl,rfl,rfl,hy,bU⟩
variable{j:Nat}
def zr(x:L3)(j:Nat):Nat->L3
 |0=>x
 |k+1=>(zr x j k).set (j+(1+k)) 0
theorem zCB:∀k,(zr x j k).length=x.length
 |0=>rfl
 |k+1=>by rw[zr,List.length_set];exact zCB k
theorem zr_at:∀{k:Nat},j+(1+k)<=x.length->∀t,at_ (zr x j k) t=if j<t/\t<j+(1+k)then 0 else at_ x t
 |0,_,t=>by rw[if_neg (by omega)];rfl
 |k+1,h,t=>by
  rw[zr,at_set (by rw[zCB];omega)];split
  .rename_i e;rw[if_pos (by omega)]
  .rename_i e;rw[zr_at (by omega)];by_cases g:j<t/\t<j+(1+k)
   .rw[if_pos g,if_pos (by omega)]
   .rw[if_neg g,if_neg (by omega)]
theorem zRG(hj:j<x.length):zr x j (x.length-1-j)=hdz x j:=by
 refine Qc (by rw[zCB,zDu]) λt ht=>?_;rw[zCB]at ht;rw[zr_at (by omega),zCN];by_cases g:t<=j
 .rw[if_neg (by omega),if_pos g]
 .rw[if_pos (by omega),if_neg g]
theorem zI7{se n:Nat}{cap:Cap}(hc:full 1 cap n)(hj:j+1<=n):∃off fN,Z9 1 (.sl se 0 n cap) (some (.int .i64 ((j+1:Nat):Int))) none none=some (.sl se off (n-(j+1)) fN)/\(off=j+1\/(off=0/\n-(j+1)=0)):=by
 have e:(0:Int)<=((j+1:Nat):Int)/\((j+1:Nat):Int)<=(n:Int):=⟨by omega,by omega⟩
 rcases hc with rfl|rfl
 .refine⟨j+1,.grown 1,?_,.inl rfl⟩;rw[zDE];simp only[zBa,zBZ,zCh,Option.bind_some,if_pos e,Int.toNat_natCast];simp
 .rw[zDD];simp only[zBa,zBZ,zCh,Option.bind_some,if_pos e,Int.toNat_natCast];by_cases h:n=j+1
  .refine⟨0,.known (n-(j+1)),?_,.inr ⟨rfl,by omega⟩⟩;rw[if_pos h];simp
  .refine⟨j+1,.known (n-(j+1)),?_,.inl rfl⟩;rw[if_neg h];simp
theorem QJ(s:Shp O P C)(F:Full O P C d):∀(r:Nat) {j:Nat},O.length-d<=j->j<O.length->O.length-j<=r->TGok O P C d j
 |0,j,h1,h2,h3=>by omega
 |r+1,j,h1,h2,h3=>by
  intro U K sp se cap x vO vP vC hs hR he lb ai bE hx hk;have pG:∀j',j+1<=j'->j'<O.length->TGok O P C d j':=λj' g1 g2=>QJ s F r (by omega) g2 (by omega);have aX:=s.le;have aM:=hR;have tH:=hs;have aV:=hx.len;have Ad:j<x.length:=by omega
  have bx:=hx.bd j h2;have bO:=s.pr j h2;have M:=F.gp.toMon;rw[<-zNt s F hx h1 h2]at hk;obtain⟨⟨w0,a0,rfl⟩,⟨w1,a1,rP,rfl,hP⟩,⟨w3,a3,rC,rfl,hC⟩⟩:=hR;obtain⟨w5,a5,rs,cU,e9⟩:=cvRow s hC h2;obtain⟨w6,a6,cZ⟩:=pvRow s hP h2;have xj:j<C.length:=by rw[s.cl];exact h2
  have Ah:j<P.length:=by rw[s.pl];exact h2
  have gF:=s.pw j h2;have e0:U.rd1 sp 0=some (.fz w0 a0 O.length (pis O)):=by rw[zG hs.obj];rfl
  have e1:U.rd1 sp 1=some (.fz w1 a1 P.length rP):=by rw[zG hs.obj];rfl
  have e2:U.rd1 sp 2=some (.fz w3 a3 C.length rC):=by rw[zG hs.obj];rfl
  have CS:∀t,U.rd1 se t=(pis x)[t]?:=λt=>zG he t;obtain⟨off,fN,gA,tY⟩:=zI7 (se:=se) bE (Nat.succ_le_of_lt h2);have vK:IntKind.i64.wrap ((j:Int)+1)=((j+1:Nat):Int):=wrapS h2 (by omega);refine zB mix Tryz.func286 ?_
  conv=>arg 2;cbv
  refine zC rfl ?_;simp only[Z3,seval,-ae,vK,gA];have gO:(x.drop (j+1)).length=O.length-(j+1):=by simp[aV]
  refine zPi lb (ys:=x.drop (j+1)) ?_ gO (by omega) λav=>?_
  .rw[ZT he,zK];rcases tY with rfl|⟨rfl,h0⟩
   .rw[if_pos (by omega),<-zOU,List.take_of_length_le (by rw[List.length_drop,zK];omega)]
   .rw[h0,if_pos (by omega),List.take_zero,List.drop_eq_nil_of_le (by omega)];rfl
  simp only[Z3,seval,-ae,zK];refine zF (λm vs h'=>∃k:Nat,k<=O.length-(j+1)/\m=O.length-(j+1)-k/\vs=[.ptr sp 0,.sl se 0 O.length cap,.int .i64 j,.fz true av (O.length-(j+1)) (pis (x.drop (j+1))),.int .i64 ((O.length-(j+1):Nat):Int),.int .i64 k]/\h'=U.set se (pis (zr x j k))) (O.length-(j+1)) ?_ ?_
  .exact⟨0,by omega,by omega,rfl,(zER he).symm⟩
  .rintro m vs h' ⟨k,eK,rfl,rfl,rfl⟩
   simp only[Z3,seval,-ae];refine iteI (λag=>?_) λaG=>?_
   .have e3:IntKind.i64.wrap (((j+1:Nat):Int)+(k:Int))=((j+(1+k):Nat):Int):=by rw[wrap64 (by omega) (by omega)];omega
    have fQ:j+(1+k)<O.length:=by omega
    have mz:j+(1+k)<(zr x j k).length:=by rw[zCB];omega
    have eQ:(pis (zr x j k)).take (j+(1+k))++[.int .i64 0]++(pis (zr x j k)).drop (j+(1+(k+1)))=pis (zr x j (k+1)):=by rw[show j+(1+(k+1))=j+(1+k)+1 by omega];exact qM mz
    have mw:j+(1+(k+1))<=O.length:=by omega
    simp only[Z3,seval,-ae,vK,e3,fQ,zK,zCB,aV,mw,eQ,wrapS ag (by omega:O.length-(j+1)<=4611686018427387904)];exact⟨_,by omega,k+1,by omega,rfl,rfl,rfl⟩
   have gg:k=x.length-1-j:=by omega
   subst gg;rw[zRG Ad];have dT:(hdz x j).length=O.length:=by rw[zDu];exact aV
   have mz:j<(hdz x j).length:=by omega
   have uL:at_ (hdz x j) j=at_ x j:=by rw[zCN,if_pos (vH _)]
   have vJ:IntKind.i64.wrap (at_ x j+1)=at_ x j+1:=wrap64 (by omega) (by omega);have cM:j<((hdz x j).set j (at_ x j+1)).length:=by rw[List.length_set];exact mz
   have pD:at_ ((hdz x j).set j (at_ x j+1)) j=at_ x j+1:=by rw[at_set mz,if_pos rfl]
   have p1:=pisAt mz;have p2:=pisAt cM;rw[uL]at p1;rw[pD]at p2;have ma:j+1<=O.length:=h2;simp only[Z3,seval,-ae,h2,dT,zK,p1,vJ,ma,qM mz,zAa];simp only[Z3,seval,-ae,h2,dT,zK,p1,p2,vJ,ma,qM mz,zAa,ai,e0,pisAt h2];refine iteI (λheq=>?_) λju=>?_
   .have Ar:((hdz x j).set j (at_ x j+1)).set j 0=(hdz x j).set j 0:=by rw[List.set_set]
    simp only[Z3,seval,-ae,h2,dT,List.length_set,zK,ma,qM cM,Ar,ai,e1,Ah,cZ];have rI:TT O (O.length-d) ((hdz x j).set j 0):=(zH3 hx λt ht=>s.pos ht).set h2 h1 ⟨by omega,by omega⟩;refine Qu s F (t:=j+1) (by omega) pG (tH.set ai (pis ((hdz x j).set j 0))) aM (x:=(hdz x j).set j 0) (by simp only[Z3,seval,-ae]) lb ai bE rI gF (FI.mk gF.len) ?_;simp only[Z3,seval,-ae,zAa];have hY:TT O (O.length-d) (mu O P C d ((hdz x j).set j 0) (pvec P j)):=M.cl rI (gF.mono (by omega));have jF:fo (mu O P C d) (cvec C j) (nx x) (j+(1+0)) (O.length-(j+1)-0) (mu O P C d ((hdz x j).set j 0) (pvec P j))=tstep O P C (mu O P C d) x j:=by
     rw[tstep,if_pos heq,show O.length-1-j=O.length-(j+1)-0 by omega]
    generalize mu O P C d ((hdz x j).set j 0) (pvec P j)=Y at hY jF ⊢;refine zF (λm vs h'=>∃(k:Nat) (y:L3),k<=O.length-(j+1)/\m=O.length-(j+1)-k/\vs=[.ptr sp 0,.sl se 0 O.length cap,.int .i64 j,.fz true av (O.length-(j+1)) (pis (x.drop (j+1))),.int .i64 ((O.length-(j+1):Nat):Int),.int .i64 k]/\h'=U.set se (pis y)/\TT O (O.length-d) y/\fo (mu O P C d) (cvec C j) (nx x) (j+(1+k)) (O.length-(j+1)-k) y=tstep O P C (mu O P C d) x j) (O.length-(j+1)) ?_ ?_
    .exact⟨0,Y,by omega,by omega,rfl,rfl,hY,jF⟩
    rintro m vs h' ⟨k,y,eK,rfl,rfl,rfl,hy,bU⟩
    simp only[Z3,seval,-ae];refine iteI (λag=>?_) λaG=>?_;rotate_left
    .have gg:O.length-(j+1)-k=0:=by omega
     rw[gg]at bU;rw[<-bU]at hk;exact hk
    have fQ:j+(1+k)<O.length:=by omega
    have oX:k<(x.drop (j+1)).length:=by omega
    have jH:at_ (x.drop (j+1)) k=at_ x (j+(1+k)):=by
     simp only[at_,List.getD_eq_getElem?_getD,List.getElem?_drop,show j+1+k=j+(1+k) by omega]
    have pk:=pisAt oX;rw[jH]at pk;have bk:=hx.bd (j+(1+k)) fQ;have BN:=s.pr _ fQ;have fJ:((nx x (j+(1+k)):Nat):Int)=at_ x (j+(1+k)):=Int.toNat_of_nonneg bk.1;obtain⟨w7,a7,cE⟩:=e9 k (by omega);have bY:=s.cj j (j+(1+k)) (by omega) fQ;have uu:k<O.length-1-j:=by omega
    rw[show O.length-(j+1)-k=(O.length-(j+1)-k-1)+1 by omega]at bU;simp only[Z3,seval,-ae,pk,oX,ag];refine zF (λm vs h'=>∃(q:Nat) (y:L3),q<=nx x (j+(1+k))/\m=nx x (j+(1+k))-q/\vs=[.ptr sp 0,.sl se 0 O.length cap,.int .i64 j,.int .i64 k,.fz true av (O.length-(j+1)) (pis (x.drop (j+1))),.int .i64 ((O.length-(j+1):Nat):Int),.int .i64 k,.int .i64 (at_ x (j+(1+k))),.int .i64 q]/\h'=U.set se (pis y)/\TT O (O.length-d) y/\fo (mu O P C d) (cvec C j) (nx x) (j+(1+k)+1) (O.length-(j+1)-k-1) (rep (mu O P C d) (cvec C j (j+(1+k))) (nx x (j+(1+k))-q) y)=tstep O P C (mu O P C d) x j) (nx x (j+(1+k))) ?_ ?_
    .exact⟨0,y,by omega,by omega,rfl,rfl,hy,bU⟩
    rintro m vs h' ⟨q,y,wZ,rfl,rfl,rfl,hy,bU⟩
    simp only[Z3,seval,-ae];refine iteI (λan=>?_) λkL=>?_
    .have bJ:q<nx x (j+(1+k)):=by omega
     simp only[Z3,seval,-ae,ai,e2,xj,cU,uu,cE];refine Qu s F (t:=j+1) (by omega) pG (tH.set ai (pis y)) aM (x:=y) (by simp only[Z3,seval,-ae]) lb ai bE hy bY (FI.mk bY.len) ?_;simp only[Z3,seval,-ae,zAa,wrapS bJ (by omega:nx x (j+(1+k))<=4611686018427387904)];refine⟨_,by omega,q+1,_,by omega,rfl,rfl,rfl,M.cl hy (bY.mono (by omega)),?_⟩;rw[show nx x (j+(1+k))-q=(nx x (j+(1+k))-(q+1))+1 by omega]at bU;exact bU
    .have ln:q=nx x (j+(1+k)):=by omega
     subst ln;rw[Nat.sub_self]at bU;simp only[Z3,seval,-ae,wrapS ag (by omega:O.length-(j+1)<=4611686018427387904)];refine⟨_,by omega,k+1,y,by omega,rfl,rfl,rfl,hy,?_⟩;rw[show O.length-(j+1)-(k+1)=O.length-(j+1)-k-1 by omega];exact bU
   .have hY:TT O (O.length-d) ((hdz x j).set j (at_ x j+1)):=(zH3 hx λt ht=>s.pos ht).set h2 h1 ⟨by omega,by omega⟩;have jF:fo (mu O P C d) (cvec C j) (nx x) (j+(1+0)) (O.length-(j+1)-0) ((hdz x j).set j (at_ x j+1))=tstep O P C (mu O P C d) x j:=by
     rw[tstep,if_neg ju,show O.length-1-j=O.length-(j+1)-0 by omega]
    clear p2 pD cM;generalize (hdz x j).set j (at_ x j+1)=Y at hY jF ⊢;refine zF (λm vs h'=>∃(k:Nat) (y:L3),k<=O.length-(j+1)/\m=O.length-(j+1)-k/\vs=[.ptr sp 0,.sl se 0 O.length cap,.int .i64 j,.fz true av (O.length-(j+1)) (pis (x.drop (j+1))),.int .i64 ((O.length-(j+1):Nat):Int),.int .i64 k]/\h'=U.set se (pis y)/\TT O (O.length-d) y/\fo (mu O P C d) (cvec C j) (nx x) (j+(1+k)) (O.length-(j+1)-k) y=tstep O P C (mu O P C d) x j) (O.length-(j+1)) ?_ ?_
    .exact⟨0,Y,by omega,by omega,rfl,rfl,hY,jF⟩
    rintro m vs h' ⟨k,y,eK,rfl,rfl,rfl,hy,bU⟩
    simp only[Z3,seval,-ae];refine iteI (λag=>?_) λaG=>?_;rotate_left
    .have gg:O.length-(j+1)-k=0:=by omega
     rw[gg]at bU;rw[<-bU]at hk;exact hk
    have fQ:j+(1+k)<O.length:=by omega
    have oX:k<(x.drop (j+1)).length:=by omega
    have jH:at_ (x.drop (j+1)) k=at_ x (j+(1+k)):=by
     simp only[at_,List.getD_eq_getElem?_getD,List.getElem?_drop,show j+1+k=j+(1+k) by omega]
    have pk:=pisAt oX;rw[jH]at pk;have bk:=hx.bd (j+(1+k)) fQ;have BN:=s.pr _ fQ;have fJ:((nx x (j+(1+k)):Nat):Int)=at_ x (j+(1+k)):=Int.toNat_of_nonneg bk.1;obtain⟨w7,a7,cE⟩:=e9 k (by omega);have bY:=s.cj j (j+(1+k)) (by omega) fQ;have uu:k<O.length-1-j:=by omega
    rw[show O.length-(j+1)-k=(O.length-(j+1)-k-1)+1 by omega]at bU;simp only[Z3,seval,-ae,pk,oX,ag];refine zF (λm vs h'=>∃(q:Nat) (y:L3),q<=nx x (j+(1+k))/\m=nx x (j+(1+k))-q/\vs=[.ptr sp 0,.sl se 0 O.length cap,.int .i64 j,.int .i64 k,.fz true av (O.length-(j+1)) (pis (x.drop (j+1))),.int .i64 ((O.length-(j+1):Nat):Int),.int .i64 k,.int .i64 (at_ x (j+(1+k))),.int .i64 q]/\h'=U.set se (pis y)/\TT O (O.length-d) y/\fo (mu O P C d) (cvec C j) (nx x) (j+(1+k)+1) (O.length-(j+1)-k-1) (rep (mu O P C d) (cvec C j (j+(1+k))) (nx x (j+(1+k))-q) y)=tstep O P C (mu O P C d) x j) (nx x (j+(1+k))) ?_ ?_
    .exact⟨0,y,by omega,by omega,rfl,rfl,hy,bU⟩
    rintro m vs h' ⟨q,y,wZ,rfl,rfl,rfl,hy,bU⟩
    simp only[Z3,seval,-ae];refine iteI (λan=>?_) λkL=>?_
    .have bJ:q<nx x (j+(1+k)):=by omega
     simp only[Z3,seval,-ae,ai,e2,xj,cU,uu,cE];refine Qu s F (t:=j+1) (by omega) pG (tH.set ai (pis y)) aM (x:=y) (by simp only[Z3,seval,-ae]) lb ai bE hy bY (FI.mk bY.len) ?_;simp only[Z3,seval,-ae,zAa,wrapS bJ (by omega:nx x (j+(1+k))<=4611686018427387904)];refine⟨_,by omega,q+1,_,by omega,rfl,rfl,rfl,M.cl hy (bY.mono (by omega)),?_⟩;rw[show nx x (j+(1+k))-q=(nx x (j+(1+k))-(q+1))+1 by omega]at bU;exact bU
    .have ln:q=nx x (j+(1+k)):=by omega
     subst ln;rw[Nat.sub_self]at bU;simp only[Z3,seval,-ae,wrapS ag (by omega:O.length-(j+1)<=4611686018427387904)];refine⟨_,by omega,k+1,y,by omega,rfl,rfl,rfl,hy,?_⟩;rw[show O.length-(j+1)-(k+1)=O.length-(j+1)-k-1 by omega];exact bU
theorem zAX(s:Shp O P C)(F:Full O P C d){sp se:Nat}{cap:Cap}(hs:PtrG U sp vO vP vC)(hR:IsPr vO vP vC O P C)
  (he:U.obj se=some (pis x)) (lb:se<U.next) (ai:sp≠se) (bE:full 1 cap O.length) (hx:TT O (O.length-d) x) (hf:TT O (O.length-d) f) (nW:FI vf f) (hk:K (.tup []) (U.set se (pis (mu O P C d x f)))):zA Tryz.prog 215 [.ptr sp 0,.sl se 0 O.length cap,vf] U K:=
 Qu s F (vH _) (λj h1 h2=>QJ s F O.length h1 h2 (by omega)) hs hR he lb ai bE hx hf nW hk
variable{va vb:PV}{a b:L3}{sp:Nat}
theorem zE0{v:PV}{sp:Nat}(hf:f=[])(nW:FI vf f)(hk:K (.tup []) U):zA Tryz.prog 215 [.ptr sp 0,v,vf] U K:=by
 obtain⟨wf,af,rfl⟩:=nW;subst hf;refine zB mix Tryz.func215 ?_
 conv=>arg 2;cbv
 refine zC rfl ?_;simp only[Z3,seval,-ae];refine zF (λm vs h'=>m=0/\vs=[.ptr sp 0,v,.fz wf af ([]:L3).length (pis []),.int .i64 (([]:L3).length:Nat),.int .i64 (0:Nat)]/\U=h') 0 ⟨rfl,rfl,rfl⟩ ?_
 rintro m vs h' ⟨rfl,rfl,rfl⟩
 simp only[Z3,seval,-ae];exact hk
theorem zED(s:Shp O P C)(F:Full O P C d)(hs:PtrG U sp vO vP vC)(hR:IsPr vO vP vC O P C)(ha:TT O (O.length-d) a)(hb:TT O (O.length-d) b)(eN:FI va a)(dg:FI vb b)(hk:ResI U K (mu O P C d a b)):
  zA Tryz.prog 127 [.ptr sp 0,va,vb] U K:=by
 have aX:=s.le;have cA:=ha.len;have fK:=(F.gp.cl ha hb).len;have ai:sp≠U.next:=Nat.ne_of_lt hs.lt;obtain⟨wa,aa,rfl⟩:=eN;refine zA.gh ?_;refine zB mix Tryz.func127 ?_
 conv=>arg 2;cbv
 refine zC rfl ?_;simp only[Z3,seval,-ae];refine Qa rfl (by omega) ⟨λh0=>?_,λcap hc=>?_⟩
 .have j4:b=[]:=List.eq_nil_of_length_eq_zero (by rw[hb.len,<-cA,h0];rfl);simp only[Z3,seval,-ae];refine zE0 j4 dg ?_;simp only[Z3,seval,-ae];exact Gh.fin0 (Keep.refl U) trivial (hk.1 (List.eq_nil_of_length_eq_zero (by show(mu O P C d a b).length=0;rw[fK,<-cA,h0];rfl)))
 .rw[cA]at hc;rw[cA];simp only[Z3,seval,-ae];refine zAX s F (hs.new _) hR (x:=a) (by simp only[Z3,seval,-ae]) (by simp only[Z3,seval,-ae]) ai hc ha hb dg ?_;simp only[Z3,seval,-ae];rw[show O.length=(mu O P C d a b).length from fK.symm]at hc ⊢;exact Gh.finS (zD U _) (by simp only[Z3,seval,-ae]) (vH _) (zN _ _) (hk.2 cap hc)
theorem zB8(s:Shp O P C)(F:Full O P C d)(hs:PtrG U sp vO vP vC)(hR:IsPr vO vP vC O P C)(ha:TT O (O.length-d) a)(hb:TT O (O.length-d) b)(eN:FI va a)(dg:FI vb b)(hk:∀v,FI v (mu O P C d a b)->K v U):
  zA Tryz.prog 127 [.ptr sp 0,va,vb] U K:=zA.fzI (λK'=>zED s F hs hR ha hb eN dg) λa=>hk _ ⟨_,_,rfl⟩
theorem zHT(s:Shp O P C)(F:Full O P C d)(hs:PtrG U sp vO vP vC)(hR:IsPr vO vP vC O P C)(ha:TT O (O.length-d) a)(eN:FI va a){k:Int}(dh:0<=k/\k<=1000000)(hk:ResI U K (pw (mu O P C d) (zv O) a k.toNat)):
  zA Tryz.prog 158 [.ptr sp 0,va,.int .i64 k] U K:=by
 have aX:=s.le;have cA:=ha.len;have M:=F.gp.toMon;have ai:sp≠U.next:=Nat.ne_of_lt hs.lt;have nX:=eN;obtain⟨wa,aa,rfl⟩:=eN;rw[cA]at nX ⊢;refine zA.gh ?_;refine zB mix Tryz.func158 ?_
 conv=>arg 2;cbv
 refine zC rfl ?_;simp only[Z3,seval,-ae,List.length_replicate,Zg,mk8 (n:=O.length) (by omega),mkL (n:=O.length) (by omega)];refine zF (λm vs h'=>∃q:Nat,q<=k.toNat/\m=k.toNat-q/\vs=[.ptr sp 0,.fz wa aa O.length (pis a),.sl U.next 0 O.length (.known O.length),.int .i64 k,.int .i64 q]/\h'=U.new (pis (pw (mu O P C d) (zv O) a q))) k.toNat ?_ ?_
 .exact⟨0,by omega,by omega,rfl,rfl⟩
 rintro m vs h' ⟨q,hq,rfl,rfl,rfl⟩
 simp only[Z3,seval,-ae];refine iteI (λag=>?_) λaG=>?_
 .have bJ:q<k.toNat:=by omega
  have hp:=M.pw ha q;refine zAX s F (hs.new _) hR (x:=pw (mu O P C d) (zv O) a q) (by simp only[Z3,seval,-ae]) (by simp only[Z3,seval,-ae]) ai (.inr rfl) hp ha nX ?_;simp only[Z3,seval,-ae,wrapS bJ (by omega:k.toNat<=4611686018427387904)];exact⟨_,by omega,q+1,by omega,rfl,rfl,rfl⟩
 .have ln:q=k.toNat:=by omega
  subst ln;have fK:=(M.pw ha k.toNat).len;have hc:full 1 (.known O.length) (pw (mu O P C d) (zv O) a k.toNat).length:=.inr (by rw[fK]);refine Gh.finS (zD U _) (by simp only[Z3,seval,-ae];rfl) (vH _) (zN _ _) ?_
  have:=hk.2 _ hc
  rwa[fK]at this
theorem zHU(s:Shp O P C)(F:Full O P C d)(hs:PtrG U sp vO vP vC)(hR:IsPr vO vP vC O P C)(ha:TT O (O.length-d) a)(eN:FI va a){k:Int}(dh:0<=k/\k<=1000000)(hk:∀v,FI v (pw (mu O P C d) (zv O) a k.toNat)->K v U):
  zA Tryz.prog 158 [.ptr sp 0,va,.int .i64 k] U K:=zA.fzI (λK'=>zHT s F hs hR ha eN dh) λa=>hk _ ⟨_,_,rfl⟩
theorem mu_step(s:Shp O P C){i:Nat}(hd:O.length-d<=i)(hle:d<=O.length)(hi:i<O.length)(hx:TT O i x):TT O i (mu O P C d x (Grp.unit O i))/\at_ (mu O P C d x (Grp.unit O i)) i=if at_ x i+1=at_ O i then 0 else at_ x i+1:=by
 have hu:TT O i (Grp.unit O i):=s.unit hi (vH _);obtain⟨e,he⟩:∃e,O.length-i=e+1:=⟨O.length-i-1,by omega⟩
 have aI:O.length-(e+1)=i:=by omega
 have e1:mu O P C d x (Grp.unit O i)=mu O P C (e+1) x (Grp.unit O i):=by
  have:=zM0 s (d:=e+1) (k:=d-(e+1)) (u:=x) (v:=Grp.unit O i) (by omega) (by rw[aI];exact hx) (by rw[aI];exact hu)
  rwa[show e+1+(d-(e+1))=d by omega]at this
 have h1:=mu_tt s (d:=e+1) (a:=x) (b:=Grp.unit O i) (by omega) (by rw[aI];exact hx) (by rw[aI];exact hu);rw[aI]at h1;rw[e1];refine⟨h1,?_⟩;have bx:=hx.bd i hi;have bO:=s.pr i hi;have fE:at_ (Grp.unit O i) i=1:=by rw[at_set (by simp;exact hi),if_pos rfl]
 have aD:=s.pos hi;have hm:∀a b,TT O (i+1) a->TT O (i+1) b->TT O (i+1) (mu O P C e a b):=λa b ha hb=>by
  have:=mu_tt s (d:=e) (a:=a) (b:=b) (by omega) (by rwa[show O.length-e=i+1 by omega]) (by rwa[show O.length-e=i+1 by omega])
  rwa[show O.length-e=i+1 by omega]at this
 have ir:=hm _ _ (zBH (λx _=>zCL s hm x) (nx (Grp.unit O i) i) (hx.set0 hi aD)) (hu.set0 hi aD);simp only[mu,aI];rw[fE];split
 .have kY:=hm _ _ (s.pw i hi) ir;rw[at_set (by rw[kY.len];exact hi),if_pos rfl];split<;>omega
 .rw[at_set (by rw[ir.len];exact hi),if_pos rfl,if_neg (by omega)]
end Go.Proofs
