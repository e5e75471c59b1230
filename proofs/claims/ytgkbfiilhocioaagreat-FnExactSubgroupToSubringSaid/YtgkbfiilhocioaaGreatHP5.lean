/- . -/
import Derived.Test.YtgkbfiilhocioaaGreatHP4
open Nat renaming le_refl→vM
open Int renaming reduceNatCast'->ae
set_option maxRecDepth 100000
set_option linter.unusedSimpArgs false
set_option linter.unusedVariables false
namespace Go.Proofs
open Go.Ab Go.Lie
variable{U:PHeap}{K:PV->PHeap->Prop}{p:Int}{n:Nat}{W:L4}{B:L5}{vP vB vU vV:PV}{s:Nat}
theorem zEQ(hR:IsR vP vB W B)(lH:W.length=n)(hn:n<=1048576)(hk:∀v,FII v (units n)->K v U):zA Tryz.prog 146 [.agg [.int .i64 p,vP,vB]] U K:=by
 have h1:=hR.P.one;have h2:=hR.B.one;have BW:=hR;obtain⟨⟨wp,ap,rp,rfl,lR⟩,hB⟩:=hR;refine zA.gh ?_;refine zB mix Tryz.func146 ?_
 conv=>arg 2;cbv
 refine zC rfl ?_;simp only[Z3,seval,-ae,h1,h2];generalize hH:U.new [.int .i64 p,.fz wp ap W.length rp,vB]=H;have oi:H.next=U.next+1:=by rw[<-hH];simp only[Z3,seval,-ae]
 have ju:Keep U H:=by rw[<-hH];exact zD U _
 have jm:H.obj U.next=some [.int .i64 p,.fz wp ap W.length rp,vB]:=by rw[<-hH];simp only[Z3,seval,-ae]
 refine zF (λm vs h'=>∃(i:Nat) (v:PV) (rows:List PV),i<=n/\m=n-i/\vs=[.ptr U.next 0,v,.int .i64 i]/\Keep H h'/\PSl H.next 1 h' v i rows/\All2 FI rows ((units n).take i)) n ?_ ?_
 .refine⟨0,_,[],by omega,by omega,rfl,zD H _,?_,by rw[List.take_zero];exact All2.nil _⟩;rw[<-oi];exact PSl.new H.next 1 rfl (vM _)
 rintro m vs h' ⟨i,v,rows,hi,rfl,rfl,aq,ha,ar⟩
 have gH:h'.obj U.next=some [.int .i64 p,.fz wp ap W.length rp,vB]:=by rw[aq.obj _ (by omega)];exact jm
 have nN:h'.rd1 U.next 1=some (.fz wp ap W.length rp):=by rw[zG gH];rfl
 have kX:h'.rd U.next 0 3=some [.int .i64 p,.fz wp ap W.length rp,vB]:=by rw[ZN gH];rfl
 simp only[Z3,seval,-ae,nN,lH];refine iteI (λag=>?_) λaF=>?_
 .simp only[Z3,seval,-ae,kX];refine Zf BW lH hn ag λa1=>?_;simp only[Z3,seval,-ae];refine PSl.push (bytes:=24) aq ha (by omega) (by omega) λv' h2 k2 a2=>?_;simp only[Z3,seval,-ae,wrapS ag (by omega:n<=4611686018427387904)];refine⟨_,by omega,i+1,v',_,by omega,rfl,rfl,k2,a2,?_⟩;rw[zFB ag];exact ar.snoc ⟨true,a1,by rw[ZM]⟩
 .have aJ:i=n:=by omega
  subst aJ;rw[List.take_of_length_le (by rw[Zd];exact vM _)]at ar;obtain⟨s',cap,rfl,hc,q2,q3,q4,q5⟩:=ha;exact Gh.finF (ju.trans aq) q2 (by omega) (ar.bI 0) hc.ok λo1=>hk _ ⟨true,.sl o1 0 i cap,rows,by rw[Zd],ar⟩
theorem zQo{b:Nat}{u:L4}(hb:U.rd1 b 0=some (.ptr s 0))(hs:PtrR U s p vP vB)(hR:IsR vP vB W B)(o:OkW p n W)(q:OkB p n B)(hp:isP p)(hU:FII vU u)(eu:Els p n u)(c6:u.length<=6)
  (hk:∀v out,Canon p n W (brL p W B n u (units n)) out->FII v out->K v U):zA Tryz.prog 254 [vU,.ptr b 0] U K:=by
 have aW:=o.le;have wH:=hU;obtain⟨wu,au,ru,rfl,fG⟩:=hU;refine zB mix Tryz.func254 ?_
 conv=>arg 2;cbv
 refine zC rfl ?_;simp only[Z3,seval,-ae,hb];refine zED hs hR.P o.len (by omega) λvV hV=>?_;have oe:=hV;obtain⟨wv,av,rv,rfl,iY⟩:=hV;simp only[Z3,seval,-ae,hb];refine zKD hs hR o q wH oe eu (zDB o.pr) c6 (by rw[Zd];exact aW) λvZ hZ=>?_;have BQ:=hZ;obtain⟨wz,az,rz,rfl,nM⟩:=hZ;have eQ:(brL p W B n u (units n)).length<=1048576:=by
  rw[zBI,Zd]
  have:u.length*n<=6*6:=Nat.mul_le_mul c6 aW
  omega
 simp only[Z3,seval,-ae,hb];refine zLU hs hR.P o hp BQ (zD4 o q _ _) eQ λv out hc hv=>?_;simp only[Z3,seval,-ae];exact hk v out hc hv
theorem zRH(o:OkW p n W)(q:OkB p n B){a b:L3}{k:Nat}(ha:∀j,j<k->at_ a j=0):∀j,j<k+1->at_ (br p W B n a b) j=0:=by
 have hs:∀t,t<k+1->at_ (bsum B a b n) t=0:=λt ht=>by
  rw[bsum,bi_at q t (vM _)];refine ZI _ λi hi=>ZI _ λj hj=>?_;rcases Nat.lt_or_ge (i+1+j) k with x|x
  .rw[coef,ha i (by omega),ha _ x,Int.zero_mul,Int.zero_mul,Int.sub_zero,Int.zero_mul]
  .rw[(q.get hi hj).2 t (by omega),Int.mul_zero]
 intro j hj;rcases Nat.lt_or_ge j n with x|x
 .exact zAs o (ZX q) (d:=min (k+1) n) (Nat.min_le_right _ _) (λj hj=>hs j (by omega)) j (by omega)
 .exact at_ge (by rw[(br_el o q).1];exact x)
theorem zCe(o:OkW p n W)(q:OkB p n B){u out:L4}(hc:Canon p n W (brL p W B n u (units n)) out){m:Nat}(hu:∀x∈u,m<=dep x):∀y∈out,m+1<=dep y:=λy hy=>by
 have hl:=hc.base.led y hy;have hg:Gen p n W (brL p W B n u (units n)) (at_ y):=(hc.gen _).2 (qO hy);have hz:=zCu o (m:=min (m+1) n) (zD4 o q _ _) (Nat.min_le_right _ _) (λv hv j hj=>by
  obtain⟨x,hx,h⟩:=List.mem_flatMap.1 hv;obtain⟨e,he,rfl⟩:=List.mem_map.1 h;exact zRH o q (k:=m) (λj hj=>qF (by have:=hu x hx;omega)) j (by omega)) hl.1 hg
 have hd:=zAS (v:=y) (d:=min (m+1) n) (by rw[hl.1.1];exact Nat.min_le_right _ _) hz
 have:=hl.2.1
 omega
theorem zOB(o:OkW p n W)(q:OkB p n B){u:L4}(hc:Canon p n W (brL p W B n u (units n)) u):u=[]:=by
 have h:∀m:Nat,∀x∈u,m<=dep x:=λm=>by
  induction m with
  |zero=>exactλx hx=>Nat.zero_le _
  |succ m ih=>exact zCe o q hc ih
 cases u with
 |nil=>rfl
 |cons x t=>
  have h1:=h n x (by simp);have h2:=(hc.base.led x (by simp)).2.1;omega
theorem zQn(o:OkW p n W)(q:OkB p n B){out:L4}(hc:Canon p n W (brL p W B n [] (units n)) out):out=[]:=by
 cases out with
 |nil=>rfl
 |cons y t=>
  have h1:=zCe o q hc (m:=n) (λx hx=>by cases hx) y (by simp);have h2:=(hc.base.led y (by simp)).2.1;omega
inductive Low(p:Int)(n:Nat)(W:L4)(B:L5):Nat->L4->Prop where
 |zero:Low p n W B 0 (units n)
 |succ {k:Nat} {u out:L4} (h:Low p n W B k u) (hc:Canon p n W (brL p W B n u (units n)) out):Low p n W B (k+1) out
theorem Low.unique(o:OkW p n W):∀{k:Nat} {u v:L4},Low p n W B k u->Low p n W B k v->u=v
 |_,_,_,.zero,.zero=>rfl
 |_,_,_,.succ h hc,.succ h' jf=>by
  have:=Low.unique o h h'
  subst this;exact hc.unique o jf
theorem Low.els(o:OkW p n W):∀{k:Nat} {u:L4},Low p n W B k u->Els p n u/\u.length<=n
 |_,_,.zero=>⟨zDB o.pr,by rw[Zd];exact vM _⟩
 |_,_,.succ _ hc=>⟨hc.base.els,QK (λv hv=>(hc.base.led v hv).2.1) hc.base.asc⟩
theorem Low.dep(o:OkW p n W)(q:OkB p n B):∀{k:Nat} {u:L4},Low p n W B k u->∀x∈u,k<=Go.Lie.dep x
 |_,_,.zero=>λx hx=>Nat.zero_le _
 |_,_,.succ h hc=>zCe o q hc (Low.dep o q h)
theorem Low.le(o:OkW p n W)(q:OkB p n B){k:Nat}{u:L4}(h:Low p n W B k u)(hu:u≠[]):k<=n:=by
 cases u with
 |nil=>exact absurd rfl hu
 |cons x t=>
  have h1:=h.dep o q x (by simp);have h2:=QR x;have h3:=((h.els o).1 x (by simp)).1;omega
def Cls(p:Int)(n:Nat)(W:L4)(B:L5)(c:Nat):Prop:=Low p n W B c []/\∀k u,k<c->Low p n W B k u->u≠[]
theorem Cls.unique{c d:Nat}(h:Cls p n W B c)(g:Cls p n W B d):c=d:=by
 rcases Nat.lt_trichotomy c d with x|x|x
 .exact absurd rfl (g.2 c _ x h.1)
 .exact x
 .exact absurd rfl (h.2 d _ x g.1)
theorem zRu:okF Tryz.prog 277=true:=by kernel_rfl
theorem zIy{xs ys:L4}(hU:FII vU xs)(hV:FII vV ys)(hx:xs.length<=1048576)(aV:∀x∈xs,x.length<=1048576)(hk:∀t:Bool,(t=true↔xs=ys)->K (.bool t) U):
  zA Tryz.prog 276 [vU,vV,.clo 277 [] []] U K:=by
 have fl:∀{A:Prop},¬A->((false=true)↔A):=λh=>⟨λx=>(by cases x),λx=>absurd x h⟩
 obtain⟨wu,au,ru,rfl,fG⟩:=hU;obtain⟨wv,av,rv,rfl,iY⟩:=hV;refine zB mix Tryz.func276 ?_
 conv=>arg 2;cbv
 refine zC rfl ?_;by_cases hl:xs.length=ys.length
 .simp only[Z3,seval,-ae,hl];refine zF (λm vs h'=>∃i:Nat,i<=ys.length/\m=ys.length-i/\vs=[.fz wv av ys.length rv,.clo 277 [] [],.fz wu au ys.length ru,.int .i64 ys.length,.int .i64 i]/\U=h'/\xs.take i=ys.take i) ys.length ?_ ?_
  .exact⟨0,by omega,by omega,rfl,rfl,by simp⟩
  rintro m vs h' ⟨i,hi,rfl,rfl,rfl,heq⟩
  simp only[Z3,seval,-ae];refine iteI (λag=>?_) λaF=>?_
  .have ga:i<xs.length:=by omega
   obtain⟨w4,a4,hr⟩:=fG.rowI ga;obtain⟨w5,a5,pD⟩:=iY.rowI ag;simp only[Z3,seval,-ae,ag,hr,pD];refine⟨zRu,zAj rfl rfl (by have:=aV _ (List.getElem_mem ga);omega) ?_⟩;by_cases he:xs[i]=ys[i]
   .simp only[Z3,seval,-ae,he,wrapS ag (by omega:ys.length<=4611686018427387904)];exact⟨_,by omega,i+1,by omega,rfl,rfl,zIU hl ga heq he⟩
   .simp only[Z3,seval,-ae,he];refine hk _ (fl λe=>?_);subst e;exact he rfl
  .have aJ:i=ys.length:=by omega
   subst aJ;refine hk _ ⟨λ_=>?_,λ_=>rfl⟩;rw[List.take_of_length_le (by omega),List.take_of_length_le (vM _)]at heq;exact heq
 .have AW:((xs.length:Int)=(ys.length:Int))=False:=by simp;omega
  simp only[Z3,seval,-ae,AW];exact hk _ (fl λe=>hl (by rw[e]))
theorem zEI{xs ys:L4}(hU:FII vU xs)(hV:FII vV ys)(hx:xs.length<=1048576)(aV:∀x∈xs,x.length<=1048576)(hk:∀t:Bool,(t=true↔xs=ys)->K (.bool t) U):
  zA Tryz.prog 187 [vU,vV] U K:=by
 refine zB mix Tryz.func187 ?_
 conv=>arg 2;cbv
 refine zC rfl ?_;simp only[Z3,seval,-ae];refine zIy hU hV hx aV λt ht=>?_;simp only[Z3,seval,-ae];exact hk t ht
theorem zRt:okF Tryz.prog 254=true:=by kernel_rfl
theorem zMJ{b:Nat}(hb:U.obj b=some [.ptr s 0])(kH:b<U.next)(hs:PtrR U s p vP vB)(hR:IsR vP vB W B)(o:OkW p n W)(q:OkB p n B)(hp:isP p)(hU:FII vU (units n))
  (hk:∀c a rows,Cls p n W B c->K (.fz true a (c+1) rows) U):zA Tryz.prog 253 [vU,.clo 254 [] [.ptr b 0]] U K:=by
 have aW:=o.le;have h1:=hU.one;have Ck:=hU.cells;refine zA.gh ?_;refine zB mix Tryz.func253 ?_
 conv=>arg 2;cbv
 refine zC rfl ?_;simp only[Z3,seval,-ae,h1,Ck];refine zF (λm vs h'=>∃k u us rows v,m=n+1-k/\k<=n+1/\vs=[.clo 254 [] [.ptr b 0],v]/\Keep U h'/\PSl U.next 1 h' v (k+1) rows/\All2 FII rows us/\us.length=k+1/\us[k]? = some u/\Low p n W B k u/\∀j u',j<k->Low p n W B j u'->u'≠[]) (n+1) ?_ ?_
 .exact⟨0,units n,[units n],[vU],_,by omega,by omega,rfl,zD U _,PSl.new _ 1 rfl (vM _),All2.nil _ |>.snoc hU,rfl,rfl,.zero,λj u' hj=>by omega⟩
 rintro m vs h' ⟨k,u,us,rows,v,rfl,cw,rfl,aq,ha,ah,c6,xL,fu,j4⟩
 obtain⟨s',cap,rfl,hc,q2,q3,q4,q5⟩:=ha;have fH:k<us.length:=by omega
 obtain⟨vk,Ar,mi⟩:=ah.get fH;have uw:us[k]=u:=by rw[List.getElem?_eq_getElem fH]at xL;exact Option.some.inj xL
 rw[uw]at mi;have bg:h'.rd1 s' k=some vk:=by rw[zG q2];exact Ar
 have hw:IntKind.i64.wrap (((k+1:Nat):Int)-1)=(k:Int):=by rw[wrap64 (by omega) (by omega)];omega
 have jQ:k<k+1:=Nat.lt_succ_self k;obtain⟨e1,e2⟩:=fu.els o;have iT:h'.rd1 b 0=some (.ptr s 0):=by rw[zG (by rw[aq.obj b kH];exact hb)];rfl
 have tj:=mi;obtain⟨wk,ak,rk,rfl,cb⟩:=mi;simp only[Z3,seval,-ae,hw,jQ,bg];refine⟨zRt,zQo iT (hs.keep aq) hR o q hp tj e1 (by omega) λvo out c5 yo=>?_⟩;have rY:=yo;obtain⟨wo,ao,ro,rfl,iZ⟩:=yo;have lX:out.length<=n:=QK (λv hv=>(c5.base.led v hv).2.1) c5.base.asc;simp only[Z3,seval,-ae,hw,jQ,bg];refine zEI rY tj (by omega) (λx hx=>by rw[(c5.base.els x hx).1];omega) λt ht=>?_;cases t
 .have ai:out≠u:=λe=>by have:=ht.2 e;cases this
  have o8:u≠[]:=λe=>by
   subst e;exact ai (zQn o q c5)
  have cH:=fu.le o q o8;simp only[Z3,seval,-ae];refine PSl.push (bytes:=24) (σb:=U) aq ⟨s',cap,rfl,hc,q2,q3,q4,q5⟩ (by omega) (by omega) λv2 h2 k2 a2=>?_;simp only[Z3,seval,-ae];refine⟨_,?_,k+1,out,us++[out],_,v2,rfl,by omega,rfl,k2,a2,ah.snoc rY,by rw[List.length_append,c6];rfl,?_,.succ fu c5,λj u' hj hl=>?_⟩
  .omega
  .rw[List.getElem?_append_right (by omega),c6,Nat.sub_self];rfl
  .by_cases x:j=k
   .subst x;rw[hl.unique o fu];exact o8
   .exact j4 j u' (by omega) hl
 .obtain rfl:out=u:=ht.1 rfl;obtain rfl:out=[]:=zOB o q c5;simp only[Z3,seval,-ae];exact Gh.finF aq q2 q4 (ah.bL 0) hc.ok λo1=>hk k _ _ ⟨fu,j4⟩
theorem zJf(hs:PtrR U s p vP vB)(hR:IsR vP vB W B)(o:OkW p n W)(q:OkB p n B)(hp:isP p)(hk:∀c a rows,Cls p n W B c->K (.fz true a (c+1) rows) U):zA Tryz.prog 164 [.ptr s 0] U K:=by
 have aW:=o.le;refine zA.gh ?_;refine zB mix Tryz.func164 ?_
 conv=>arg 2;cbv
 refine zC rfl ?_;simp only[Z3,seval,-ae];have fD:=hs.new [.ptr s 0];refine zED fD hR.P o.len (by omega) λvV hV=>?_;have oe:=hV;obtain⟨wv,av,rv,rfl,iY⟩:=hV;simp only[Z3,seval,-ae];refine zMJ (b:=U.next) (by simp only[Z3,seval,-ae]) (by simp only[Z3,seval,-ae]) fD hR o q hp oe λc a rows hc=>?_;simp only[Z3,seval,-ae];exact Gh.fin0 (zD U _) trivial (hk c a rows hc)
def isLz(p:Int)(n:Nat)(W:L4)(B:L5):Prop:=∃c,Cls p n W B c/\(c:Int)<p
theorem zNH{c:Nat}(h:Cls p n W B c):isLz p n W B↔(c:Int)<p:=⟨λ⟨d,h1,h2⟩=>by rw[h.unique h1];exact h2,λe=>⟨c,h,e⟩⟩
theorem zJz(hs:PtrR U s p vP vB)(hR:IsR vP vB W B)(o:OkW p n W)(q:OkB p n B)(hp:isP p)(hk:∀t:Bool,(t=true↔isLz p n W B)->K (.bool t) U):zA Tryz.prog 92 [.ptr s 0] U K:=by
 have aW:=o.le;have gr:U.rd1 s 0=some (.int .i64 p):=by rw[zG hs.obj];rfl
 refine zB mix Tryz.func92 ?_
 conv=>arg 2;cbv
 refine zC rfl ?_;simp only[Z3,seval,-ae,gr];refine zJf hs hR o q hp λc a rows hc=>?_;have By:c<=n+1:=by
  rcases Nat.lt_or_ge n c with x|x
  .obtain⟨c',rfl⟩:∃c',c=c'+1:=⟨c-1,by omega⟩
   obtain⟨h1,h2⟩:=hc;cases h1 with
   |succ h c5=>exact Nat.succ_le_succ (h.le o q (h2 _ _ (Nat.lt_succ_self _) h))
  .omega
 have hw:IntKind.i64.wrap (((c+1:Nat):Int)-1)=(c:Int):=by rw[wrap64 (by omega) (by omega)];omega
 simp only[Z3,seval,-ae,hw];refine⟨gr,hk _ ?_⟩;rw[zNH hc,decide_eq_true_eq]
theorem zGS{u v:L4}(hR:IsR vP vB W B)(o:OkW p n W)(q:OkB p n B)(hp:isP p)(hU:FII vU u)(hV:FII vV v)(eu:Els p n u)(ev:Els p n v)(c6:u.length<=6)(gA:v.length<=6)
  (hk:∀z out,Canon p n W (brL p W B n u v) out->FII z out->K z U):zA Tryz.prog 85 [.agg [.int .i64 p,vP,vB],vU,vV] U K:=by
 have h1:=hR.P.one;have h2:=hR.B.one;obtain⟨wu,au,ru,rfl,fG⟩:=hU;obtain⟨wv,av,rv,rfl,iY⟩:=hV;have bnd:∀(i j:Nat),i<u.length->j<=v.length->(brL p W B n (u.take i) v++(v.take j).map λy=>br p W B n (u.getD i []) y).length<=42:=λi j hi hj=>by
  rw[List.length_append,zBI,List.length_map,List.length_take,List.length_take]
  have:min i u.length*v.length<=6*6:=Nat.mul_le_mul (by omega) gA
  omega
 refine zA.gh ?_;refine zB mix Tryz.func85 ?_
 conv=>arg 2;cbv
 refine zC rfl ?_;simp only[Z3,seval,-ae,h1,h2];generalize hH:U.new [.int .i64 p,vP,vB]=H;have oi:H.next=U.next+1:=by rw[<-hH];simp only[Z3,seval,-ae]
 have ju:Keep U H:=by rw[<-hH];exact zD U _
 have jm:H.obj U.next=some [.int .i64 p,vP,vB]:=by rw[<-hH];simp only[Z3,seval,-ae]
 refine zF (λm vs h'=>∃(i:Nat) (z:PV) (rows:List PV),i<=u.length/\m=u.length-i/\vs=[.fz wu au u.length ru,.fz wv av v.length rv,.ptr U.next 0,z,.int .i64 i]/\Keep H h'/\PSl H.next 1 h' z (brL p W B n (u.take i) v).length rows/\All2 FI rows (brL p W B n (u.take i) v)) u.length ?_ ?_
 .refine⟨0,_,[],by omega,by omega,rfl,zD H _,?_,by rw[List.take_zero];exact All2.nil _⟩;rw[<-oi];exact PSl.new H.next 1 rfl (vM _)
 rintro m vs h' ⟨i,z,rows,hi,rfl,rfl,aq,ha,ar⟩
 simp only[Z3,seval,-ae];refine iteI (λag=>?_) λaF=>?_
 .obtain⟨w4,a4,hr⟩:=fG.rowI ag;have cY:=eu _ (List.getElem_mem ag);have fK:u.getD i []=u[i]:=by simp[List.getD_eq_getElem?_getD,ag]
  refine zF (λm vs h'=>∃(j:Nat) (z:PV) (rows:List PV),j<=v.length/\m=v.length-j/\vs=[.fz wu au u.length ru,.fz wv av v.length rv,.ptr U.next 0,z,.int .i64 i,.int .i64 j]/\Keep H h'/\
   PSl H.next 1 h' z (brL p W B n (u.take i) v++(v.take j).map λy=>br p W B n (u.getD i []) y).length rows/\All2 FI rows (brL p W B n (u.take i) v++(v.take j).map λy=>br p W B n (u.getD i []) y)) v.length ?_ ?_
  .exact⟨0,z,rows,by omega,by omega,rfl,aq,by simpa using ha,by simpa using ar⟩
  clear aq ha ar z rows
  rintro m vs h' ⟨j,z,rows,hj,rfl,rfl,aq,ha,ar⟩
  have gH:h'.obj U.next=some [.int .i64 p,vP,vB]:=by rw[aq.obj _ (by omega)];exact jm
  have kX:h'.rd U.next 0 3=some [.int .i64 p,vP,vB]:=by rw[ZN gH];rfl
  simp only[Z3,seval,-ae];refine iteI (λjN=>?_) λBf=>?_
  .obtain⟨w5,a5,pD⟩:=iY.rowI jN;have uo:=ev _ (List.getElem_mem jN);simp only[Z3,seval,-ae,jN,pD,ag,hr,kX];refine qx hR o q cY uo rfl rfl λa6=>?_;have hb:=bnd i j ag hj;simp only[Z3,seval,-ae];refine PSl.push (bytes:=24) aq ha (by omega) (by omega) λv' h2 k2 a2=>?_;simp only[Z3,seval,-ae,wrapS jN (by omega:v.length<=4611686018427387904)];have e:(brL p W B n (u.take i) v++(v.take (j+1)).map λy=>br p W B n (u.getD i []) y)=(brL p W B n (u.take i) v++(v.take j).map λy=>br p W B n (u.getD i []) y)++[br p W B n u[i] v[j]]:=by
    rw[List.take_succ_eq_append_getElem jN,List.map_append,List.append_assoc,fK];rfl
   refine⟨_,by omega,j+1,v',rows++[.fz true a6 n (pis (br p W B n u[i] v[j]))],by omega,rfl,rfl,k2,?_,?_⟩
   .rw[e,List.length_append];exact a2
   .rw[e];exact ar.snoc ⟨true,a6,by rw[(br_el o q).1]⟩
  .have jr:j=v.length:=by omega
   subst jr;have e:(brL p W B n (u.take i) v++(v.take v.length).map λy=>br p W B n (u.getD i []) y)=brL p W B n (u.take (i+1)) v:=by
    rw[List.take_length,List.take_succ_eq_append_getElem ag,zIm,fK]
   rw[e]at ha ar;simp only[Z3,seval,-ae,wrapS ag (by omega:u.length<=4611686018427387904)];exact⟨_,by omega,i+1,z,rows,by omega,rfl,rfl,aq,ha,ar⟩
 .have aJ:i=u.length:=by omega
  subst aJ;rw[List.take_length]at ha ar;obtain⟨s',cap,rfl,hc,q2,q3,q4,q5⟩:=ha;have gH:h'.obj U.next=some [.int .i64 p,vP,vB]:=by rw[aq.obj _ (by omega)];exact jm
  have kX:h'.rd U.next 0 3=some [.int .i64 p,vP,vB]:=by rw[ZN gH];rfl
  simp only[Z3,seval,-ae,kX];refine zA.frz q2 (ar.bI 0) λo1=>?_;have hl:(brL p W B n u v).length<=1048576:=by
   rw[zBI]
   have:u.length*v.length<=6*6:=Nat.mul_le_mul c6 gA
   omega
  obtain⟨⟨wp,ap,rp,rfl,lR⟩,wb,ab,rb,rfl,cu⟩:=hR;simp only[sbs,sb,hc.ok,and_self,if_true];refine zFa ⟨⟨wp,ap,rp,rfl,lR⟩,wb,ab,rb,rfl,cu⟩ o hp ⟨true,_,rows,rfl,ar⟩ (zD4 o q _ _) hl λz out c5 hz=>?_;obtain⟨wz,az,rz,rfl,nM⟩:=hz;simp only[Z3,seval,-ae];exact Gh.fin0 ((ju.trans aq).kill (by omega)) trivial (hk _ out c5 ⟨wz,az,rz,rfl,nM⟩)
theorem zJl(hR:IsR vP vB W B)(o:OkW p n W)(q:OkB p n B)(hp:isP p)(hk:∀c a rows,Cls p n W B c->K (.fz true a (c+1) rows) U):zA Tryz.prog 269 [.agg [.int .i64 p,vP,vB]] U K:=by
 have aW:=o.le;have h1:=hR.P.one;have h2:=hR.B.one;refine zA.gh ?_;refine zB mix Tryz.func269 ?_
 conv=>arg 2;cbv
 refine zC rfl ?_;simp only[Z3,seval,-ae,h1,h2];generalize hH:U.new [.int .i64 p,vP,vB]=H;have oi:H.next=U.next+1:=by rw[<-hH];simp only[Z3,seval,-ae]
 have ju:Keep U H:=by rw[<-hH];exact zD U _
 have jm:H.obj U.next=some [.int .i64 p,vP,vB]:=by rw[<-hH];simp only[Z3,seval,-ae]
 refine zEQ hR o.len (by omega) λvV hV=>?_;have oe:=hV;obtain⟨wv,av,rv,rfl,iY⟩:=hV;simp only[Z3,seval,-ae];refine zF (λm vs h'=>∃k u us rows v vU,m=n+1-k/\k<=n+1/\vs=[.ptr U.next 0,vU,v]/\Keep H h'/\PSl H.next 1 h' v (k+1) rows/\All2 FII rows us/\us.length=k+1/\FII vU u/\Low p n W B k u/\∀j u',j<k->Low p n W B j u'->u'≠[]) (n+1) ?_ ?_
 .refine⟨0,units n,[units n],[_],_,_,by omega,by omega,rfl,zD H _,PSl.new _ 1 rfl (vM _),All2.nil _ |>.snoc oe,rfl,oe,.zero,λj u' hj=>by omega⟩
 rintro m vs h' ⟨k,u,us,rows,v,vU,rfl,cw,rfl,aq,ha,ah,c6,yp,fu,j4⟩
 have gH:h'.obj U.next=some [.int .i64 p,vP,vB]:=by rw[aq.obj _ (by omega)];exact jm
 have kX:h'.rd U.next 0 3=some [.int .i64 p,vP,vB]:=by rw[ZN gH];rfl
 obtain⟨e1,e2⟩:=fu.els o;have tj:=yp;obtain⟨wk,ak,rk,rfl,cb⟩:=yp;by_cases hu:u=[]
 .subst hu;obtain⟨s',cap,rfl,hc,q2,q3,q4,q5⟩:=ha;simp only[Z3,seval,-ae,List.length_nil];exact Gh.finF (ju.trans aq) q2 (by omega) (ah.bL 0) hc.ok λo1=>hk k _ _ ⟨fu,j4⟩
 .have cH:=fu.le o q hu;have aD:(0:Int)<(u.length:Int):=by
   have:0<u.length:=List.length_pos_iff.2 hu
   omega
  simp only[Z3,seval,-ae,aD,kX];refine zEQ hR o.len (by omega) λvW hW=>?_;have BS:=hW;obtain⟨ww,aw,CO,rfl,fh⟩:=hW;simp only[Z3,seval,-ae,kX];refine zGS hR o q hp tj BS e1 (zDB o.pr) (by omega) (by rw[Zd];omega) λz out c5 hz=>?_;have fF:=hz;obtain⟨wz,az,rz,rfl,nM⟩:=hz;simp only[Z3,seval,-ae,kX];refine PSl.push (bytes:=24) aq ha (by omega) (by omega) λv2 h2 k2 a2=>?_;simp only[Z3,seval,-ae];refine⟨_,?_,k+1,out,us++[out],_,v2,_,rfl,by omega,rfl,k2,a2,ah.snoc fF,by rw[List.length_append,c6];rfl,fF,.succ fu c5,λj u' hj hl=>?_⟩
  .omega
  .by_cases x:j=k
   .subst x;rw[hl.unique o fu];exact hu
   .exact j4 j u' (by omega) hl
theorem Cls.le(o:OkW p n W)(q:OkB p n B){c:Nat}(hc:Cls p n W B c):c<=n+1:=by
 rcases Nat.lt_or_ge n c with x|x
 .obtain⟨c',rfl⟩:∃c',c=c'+1:=⟨c-1,by omega⟩
  obtain⟨h1,h2⟩:=hc;cases h1 with
  |succ h c5=>exact Nat.succ_le_succ (h.le o q (h2 _ _ (Nat.lt_succ_self _) h))
 .omega
theorem zJm(hR:IsR vP vB W B)(o:OkW p n W)(q:OkB p n B)(hp:isP p)(hk:∀c:Nat,Cls p n W B c->K (.int .i64 c) U):zA Tryz.prog 174 [.agg [.int .i64 p,vP,vB]] U K:=by
 have aW:=o.le;have h1:=hR.P.one;have h2:=hR.B.one;refine zA.gh ?_;refine zB mix Tryz.func174 ?_
 conv=>arg 2;cbv
 refine zC rfl ?_;simp only[Z3,seval,-ae,h1,h2];refine zJl hR o q hp λc a rows hc=>?_;have By:=hc.le o q;have hw:IntKind.i64.wrap (((c+1:Nat):Int)-1)=(c:Int):=by rw[wrap64 (by omega) (by omega)];omega
 simp only[Z3,seval,-ae,hw];exact Gh.fin0 (zD U _) trivial (hk c hc)
theorem zO8(hR:IsR vP vB W B)(o:OkW p n W)(q:OkB p n B)(hp:isP p)(hk:∀t:Bool,(t=true↔isLz p n W B)->K (.bool t) U):zA Tryz.prog 83 [.agg [.int .i64 p,vP,vB]] U K:=by
 have h1:=hR.P.one;have h2:=hR.B.one;refine zA.gh ?_;refine zB mix Tryz.func83 ?_
 conv=>arg 2;cbv
 refine zC rfl ?_;simp only[Z3,seval,-ae,h1,h2];refine zJm hR o q hp λc hc=>?_;simp only[Z3,seval,-ae,h1,h2];refine Gh.fin0 (zD U _) trivial (hk _ ?_);rw[zNH hc,decide_eq_true_eq]
structure EucI(m a r nx x y:Int):Prop where
 cof:∃s u v:Int,(s=1\/s=-1)/\0<=u/\u<=m/\0<=v/\x=s*u/\y=-s*v/\r*v+nx*u=m
 pos:0<r/\r<=m/\0<=nx/\nx<r
 xa:∃t,x*a=r+t*m
 ya:∃t,y*a=nx+t*m
 dm:∃c d,m=c*r+d*nx
 da:∃c d,a=c*r+d*nx
theorem zDT{a b m:Int}(ha:1<=a)(hb:0<=b)(h:a*b<=m):b<=m:=by
 have:=Int.mul_le_mul_of_nonneg_right ha hb
 omega
theorem EucI.start{m a:Int}(h1:0<=a)(h2:a<m):EucI m a m a 0 1 where
 cof:=⟨-1,0,1,.inr rfl,by omega,by omega,by omega,by omega,by omega,by omega⟩
 pos:=by omega
 xa:=⟨-1,by omega⟩
 ya:=⟨0,by omega⟩
 dm:=⟨1,0,by omega⟩
 da:=⟨0,1,by omega⟩
theorem EucI.step{m a r nx x y:Int}(h:EucI m a r nx x y)(hn:nx≠0):EucI m a nx (r-r / nx*nx) y (x-r / nx*y)/\
  (-m<=x/\x<=m/\-m<=y/\y<=m/\-m<=r / nx*y/\r / nx*y<=m/\0<=r / nx/\r / nx<=m/\0<=r / nx*nx/\r / nx*nx<=m/\-m<=x-r / nx*y/\x-r / nx*y<=m):=by
 obtain⟨s,u,v,hs,hu,C5,hv,hx,hy,he⟩:=h.cof;obtain⟨p1,p2,p3,p5⟩:=h.pos;obtain⟨tx,Ap⟩:=h.xa;obtain⟨ty,mC⟩:=h.ya;obtain⟨cm,dm,Bp⟩:=h.dm;obtain⟨ca,da,Bu⟩:=h.da;have jG:0<=r / nx:=Int.ediv_nonneg (by omega) p3;have e1:=Int.emod_nonneg r hn;have e2:=Int.emod_lt_of_pos r (show 0<nx by omega);have e3:r % nx=r-r / nx*nx:=by have:=Int.mul_ediv_add_emod r nx;rw[Int.mul_comm];omega
 generalize r / nx=q at *
 rw[e3]at e1 e2;have C7:0<=q*v:=Int.mul_nonneg jG hv;have uH:0<=q*nx:=Int.mul_nonneg jG p3;have k1:nx*(u+q*v)+(r-q*nx)*v=m:=by grind
 have k2:0<=(r-q*nx)*v:=Int.mul_nonneg e1 hv;have k3:u+q*v<=m:=zDT (a:=nx) (by omega) (by omega) (by omega);have k4:0<=nx*u:=Int.mul_nonneg p3 hu;have k5:v<=m:=zDT (a:=r) (by omega) hv (by omega);have k6:q<=m:=zDT (a:=nx) (by omega) jG (by rw[Int.mul_comm];omega);refine⟨⟨⟨-s,v,u+q*v,by omega,hv,k5,by omega,by grind,by grind,by omega⟩,by omega,⟨ty,mC⟩,⟨tx-q*ty,by grind⟩,⟨dm+cm*q,cm,by grind⟩,⟨da+ca*q,ca,by grind⟩⟩,?_⟩;have k7:q*y=-s*(q*v):=by grind
 have k8:x-q*y=s*(u+q*v):=by grind
 rcases hs with rfl|rfl<;>omega
theorem zJ0{a m:Int}(ha:0<=a)(BN:a<m)(hm:m<=1000000)(hk:∀(x:Int) (b:Bool),0<=x->x<m->((∃z w:Int,a*z=1+w*m)->∃t,a*x=1+t*m)->K (.tup [.int .i64 x,.bool b]) U):zA Tryz.prog 203 [.int .i64 a,.int .i64 m] U K:=by
 refine zB mix Tryz.func203 ?_
 conv=>arg 2;cbv
 refine zC rfl ?_;simp only[Z3,seval,-ae];refine zF (λk vs h'=>∃r nx x y:Int,k=nx.toNat/\vs=[.int .i64 m,.int .i64 r,.int .i64 nx,.int .i64 x,.int .i64 y]/\U=h'/\EucI m a r nx x y) a.toNat ?_ ?_
 .exact⟨m,a,0,1,rfl,rfl,rfl,EucI.start ha BN⟩
 rintro k vs h' ⟨r,nx,x,y,rfl,rfl,rfl,hI⟩
 obtain⟨p1,p2,p3,p5⟩:=hI.pos;by_cases h0:nx=0
 .subst h0;simp only[Z3,seval,-ae];refine zCk (by omega) (by omega) ?_;simp only[Z3,seval,-ae];refine hk _ _ (Int.emod_nonneg _ (by omega)) (Int.emod_lt_of_pos _ (by omega)) λ⟨z,w,hz⟩=>?_;obtain⟨tx,Ap⟩:=hI.xa;obtain⟨cm,dm,Bp⟩:=hI.dm;obtain⟨ca,da,Bu⟩:=hI.da;have e:r*(ca*z-w*cm)=1:=by grind
  have nN:r=1:=by
   have hd:r∣1:=⟨_,e.symm⟩
   have:=Int.le_of_dvd (by omega) hd
   omega
  have em:=Int.mul_ediv_add_emod x m;exact⟨tx-a*(x / m),by grind⟩
 .obtain⟨jt,b⟩:=hI.step h0;have ht:r.tdiv nx=r / nx:=Int.tdiv_eq_ediv_of_nonneg (by omega);obtain⟨CU,tL,CT,CS⟩:=jt.pos;simp only[Z3,seval,-ae,h0,ht,wrap64 (n:=r / nx) (by omega) (by omega),wrap64 (n:=r / nx*nx) (by omega) (by omega),wrap64 (n:=r / nx*y) (by omega) (by omega),wrap64 (n:=r-r / nx*nx) (by omega) (by omega),wrap64 (n:=x-r / nx*y) (by omega) (by omega)];exact⟨_,by omega,_,_,_,_,rfl,rfl,jt⟩
theorem zCT:∀n:Nat,ipow p n=pw_ p n
 |0=>rfl
 |n+1=>by rw[ipow,pw_,zCT n,Int.mul_comm]
def Cop(p k:Int):Prop:=∃e t:Int,k*e=1+p*t
structure DivL(p:Int)(n:Nat)(W:L4)(k:Int)(x z:L3):Prop where
 el:El p n z
 nil:isZ x->z=x
 eqv:Cop p k->Eqv p n W (λj=>k*at_ z j) (at_ x)
theorem zBS{k:Int}(h:Cop p k)(hn:0<n):∃z w:Int,k*z=1+w*pw_ p n:=by
 obtain⟨e,t,h⟩:=h;obtain⟨f,s,g⟩:=zGU (p:=p) t n hn;exact⟨e*f,s,by grind⟩
theorem DivL.unique(o:OkW p n W){k:Int}{x z z':L3}(hx:El p n x)(h:DivL p n W k x z)(h':DivL p n W k x z')(hk:isZ x\/Cop p k):z=z':=by
 rcases hk with hk|hk
 .rw[h.nil hk,h'.nil hk]
 .rcases Nat.eq_zero_or_pos n with hn|hn
  .have e1:=h.el.1;have e2:=h'.el.1;rw[List.eq_nil_of_length_eq_zero (e1.trans hn),List.eq_nil_of_length_eq_zero (e2.trans hn)]
  .obtain⟨a,w,ha⟩:=zBS (p:=p) hk hn;have e:Eqv p n W (λj=>k*at_ z j) (λj=>k*at_ z' j):=(h.eqv hk).trans (h'.eqv hk).symm;have e2:=e.mul a;have one:∀{v:L3},El p n v->Eqv p n W (λj=>a*(k*at_ v j)) (at_ v):=λ{v} hv=>by
    have k1:=(zAf o (f:=at_ v) (λj hj=>hv.beyond hj)).mul w;have k2:=(Eqv.refl (p:=p) (n:=n) (W:=W) (at_ v)).add k1;exact((Eqv.of_eq λj=>by grind).trans k2).trans (Eqv.of_eq λj=>by omega)
   exact ZZ o h.el.1 h'.el.1 h.el.2 h'.el.2 (((one h.el).symm.trans e2).trans (one h'.el))
theorem DivL.mk'(o:OkW p n W){k y m:Int}{x:L3}(hx:El p n x)(hz:¬isZ x)(hm:Eqv p n W (λj=>m*at_ x j) λ_=>0)(hy:Cop p k->∃t,k*y=1+t*m):DivL p n W k x (lmul p W y x) where
 el:=(QD o hx y).1
 nil:=λh=>absurd h hz
 eqv:=λhk=>by
  obtain⟨t,ht⟩:=hy hk;have k1:=(QD o hx y).2.mul k;have k2:=(Eqv.refl (p:=p) (n:=n) (W:=W) (at_ x)).add (hm.mul t);exact(k1.trans (Eqv.of_eq λj=>by grind)).trans (k2.trans (Eqv.of_eq λj=>by omega))
theorem zHh(hp:okp p):∀k:Nat,1<=pw_ p k
 |0=>by simp[pw_]
 |k+1=>by
  have h:=zHh hp k
  have:=Int.mul_le_mul_of_nonneg_right (show(1:Int)<=p by have:=hp.1;omega) (show 0<=pw_ p k by omega)
  rw[pw_];omega
theorem zDs(hp:okp p){j:Nat}:∀{k:Nat},j<=k->pw_ p j<=pw_ p k
 |0,h=>by
   have:j=0:=by omega
   subst this;exact Int.le_refl _
 |k+1,h=>by
  by_cases e:j=k+1
  .subst e;exact Int.le_refl _
  .have h1:=zDs hp (j:=j) (k:=k) (by omega);have h2:=zHh hp k
   have:=Int.mul_le_mul_of_nonneg_right (show(1:Int)<=p by have:=hp.1;omega) (show 0<=pw_ p k by omega)
   have e2:pw_ p (k+1)=p*pw_ p k:=rfl;omega
theorem zJo{l:Nat}{w:Bool}{av:AV}{x:L3}(hR:IsR vP vB W B)(o:OkW p n W)(jH:ipow p n<=729)(hx:El p n x)(hl:l=x.length)
  (hk:∀j,j<=n->Eqv p n W (λi=>pw_ p j*at_ x i) (λ_=>0)->K (.int .i64 (pw_ p j)) U):zA Tryz.prog 320 [.agg [.int .i64 p,vP,vB],.fz w av l (pis x)] U K:=by
 have h1:=hR.P.one;have h2:=hR.B.one;have aW:=o.le;have cQ:=o.pr;have jb:=cQ;unfold okp at jb;have aV:=hx.1;subst hl;refine zA.gh ?_;refine zB mix Tryz.func320 ?_
 conv=>arg 2;cbv
 refine zC rfl ?_;simp only[Z3,seval,-ae,h1,h2];generalize hH:U.new [.int .i64 p,vP,vB]=H;have ju:Keep U H:=by rw[<-hH];exact zD U _
 have jg:H.rd U.next 0 3=some [.int .i64 p,vP,vB]:=by rw[<-hH];simp only[Z3,seval,-ae]
 have fQ:H.rd1 U.next 0=some (.int .i64 p):=by rw[<-hH];simp only[Z3,seval,-ae]
 refine zF (λm vs h'=>∃(j:Nat) (y:L3) (wy:Bool) (vy:AV),m=n-dep y/\j<=dep y/\vs=[.fz wy vy n (pis y),.ptr U.next 0,.int .i64 (pw_ p j)]/\H=h'/\El p n y/\Eqv p n W (at_ y) λi=>pw_ p j*at_ x i) (n-dep x) ?_ ?_
 .exact⟨0,x,w,av,rfl,by omega,by rw[aV];rfl,rfl,hx,Eqv.of_eq λi=>by simp[pw_]⟩
 rintro m vs h' ⟨j,y,wy,vy,rfl,hj,rfl,rfl,hy,he⟩
 have gk:=hy.1;have gb:=QR y;simp only[Z3,seval,-ae];refine zBF gk.symm (by omega) ?_;by_cases hz:isZ y
 .simp only[Z3,seval,-ae,hz,decide_true];refine Gh.fin0 ju trivial (hk j (by omega) (he.symm.trans (Eqv.of_eq λi=>QG hz i)))
 .have hd:dep y<n:=by have:=zCF hz;omega
  have Dl:pw_ p (j+1)<=pw_ p n:=zDs cQ (by omega);have A4:=zHh cQ (j+1);rw[zCT]at jH;have hc:pw_ p j*p=pw_ p (j+1):=by rw[pw_,Int.mul_comm]
  have hw:IntKind.i64.wrap (pw_ p j*p)=pw_ p (j+1):=by rw[hc];exact wrap64 (by omega) (by omega)
  simp only[Z3,seval,-ae,hz,decide_false,jg,fQ];refine ZB hR o hy hy gk.symm gk.symm (by omega) (by decide) λv1=>?_;have eU:=zHl o hy hd;obtain⟨z1,z2⟩:=QD o hy p;simp only[Z3,seval,-ae,fQ,hw];refine⟨_,?_,j+1,_,true,v1,rfl,by omega,rfl,z1,(z2.trans (he.mul p)).trans (Eqv.of_eq λi=>by rw[<-hc];grind)⟩;omega
theorem zFZ{l:Nat}{w:Bool}{av:AV}{k:Int}{x:L3}(hR:IsR vP vB W B)(o:OkW p n W)(jH:ipow p n<=729)(hx:El p n x)(hl:l=x.length)
  (hk:∀w v z,DivL p n W k x z->K (.fz w v n (pis z)) U):zA Tryz.prog 293 [.agg [.int .i64 p,vP,vB],.fz w av l (pis x),.int .i64 k] U K:=by
 have h1:=hR.P.one;have h2:=hR.B.one;have aW:=o.le;have cQ:=o.pr;have aV:=hx.1;subst hl;refine zA.gh ?_;refine zB mix Tryz.func293 ?_
 conv=>arg 2;cbv
 refine zC rfl ?_;simp only[Z3,seval,-ae,h1,h2];generalize hH:U.new [.int .i64 p,vP,vB]=H;have ju:Keep U H:=by rw[<-hH];exact zD U _
 have jg:H.rd U.next 0 3=some [.int .i64 p,vP,vB]:=by rw[<-hH];simp only[Z3,seval,-ae]
 refine zBF rfl (by omega) ?_;by_cases hz:isZ x
 .simp only[Z3,seval,-ae,hz,decide_true];refine Gh.fin0 ju trivial ?_;rw[aV];exact hk _ _ x ⟨hx,λ_=>rfl,λ_=>Eqv.of_eq λj=>by rw[QG hz,Int.mul_zero]⟩
 .have c8:dep x<n:=by have:=zCF hz;omega
  simp only[Z3,seval,-ae,hz,decide_false,jg];refine zJo hR o jH hx rfl λj hj he=>?_;have A4:j≠0:=λe=>by
   subst e;have e0:Eqv p n W (at_ x) λ_=>0:=(Eqv.of_eq λi=>by simp[pw_]).trans he
   have:=zEv o hx e0 (vM n) (λ_ _=>rfl) (dep x) c8
   exact Zg (by omega) this
  have x5:pw_ p j<=pw_ p n:=zDs cQ hj;have AO:pw_ p 1<=pw_ p j:=zDs cQ (by omega);have De:pw_ p 1=p:=by simp[pw_]
  rw[zCT]at jH;have kZ:=cQ.1;generalize hm:pw_ p j=m at *
  simp only[Z3,seval,-ae];refine zF (λq vs h'=>∃y:Int,q=(m-y).toNat/\1<=y/\y<=m/\vs=[.fz w av x.length (pis x),.int .i64 k,.ptr U.next 0,.int .i64 m,.int .i64 y]/\H=h'/\∀y',1<=y'->y'<y->k % m*y' % m≠1) (m-1).toNat ?_ ?_
  .exact⟨1,rfl,by omega,by omega,rfl,rfl,λy' _ _=>by omega⟩
  rintro q vs h' ⟨y,rfl,jA,C4,rfl,rfl,ah⟩
  have Cy:=Int.emod_nonneg k (show m≠0 by omega);have DE:=Int.emod_lt_of_pos k (show 0<m by omega);have em:=Int.mul_ediv_add_emod k m;have fin:(Cop p k->∃t,k*y=1+t*m)->∀v,Gh U K (.fz true v n (pis (lmul p W y x))) H:=λh v=>Gh.fin0 ju trivial (hk _ v _ (DivL.mk' o hx hz he h));by_cases ag:y<m
  .have hb:0<=k % m*y/\k % m*y<=531441:=by
    have a1:=Int.mul_le_mul (show k % m<=729 by omega) (show y<=729 by omega) (by omega) (by omega);have a2:=Int.mul_nonneg Cy (show 0<=y by omega);omega
   simp only[Z3,seval,-ae,ag,decide_true];refine zGj (by omega) (by omega) ?_;have pT:m≠0:=by omega
   have ht:(k % m*y).tmod m=k % m*y % m:=Int.tmod_eq_emod_of_nonneg hb.1;by_cases h1:k % m*y % m=1
   .simp only[Z3,seval,-ae,ag,pT,wrap64 (n:=k % m*y) (by omega) (by omega),ht,h1,jg];refine ZB hR o hx hx rfl rfl (by omega) (by decide) λv1=>?_;simp only[Z3,seval,-ae];refine fin (λ_=>?_) v1;have e:=Int.mul_ediv_add_emod (k % m*y) m;exact⟨k % m*y / m+k / m*y,by grind⟩
   .simp only[Z3,seval,-ae,ag,pT,wrap64 (n:=k % m*y) (by omega) (by omega),ht,h1,wrap64 (n:=y+1) (by omega) (by omega)];refine⟨_,?_,y+1,rfl,by omega,by omega,rfl,λy' h2 h3=>?_⟩
    .omega
    .by_cases e:y'=y
     .subst e;exact h1
     .exact ah y' h2 (by omega)
  .have xH:y=m:=by omega
   simp only[Z3,seval,-ae,ag,decide_false,jg];refine ZB hR o hx hx rfl rfl (by omega) (by decide) λv1=>?_;simp only[Z3,seval,-ae];refine fin (λhc=>?_) v1;exfalso;obtain⟨z,w',ue⟩:=zBS (p:=p) hc (show 0<j by omega);rw[hm]at ue;have f1:=Int.emod_nonneg z (show m≠0 by omega);have f2:=Int.emod_lt_of_pos z (show 0<m by omega);have f3:=Int.mul_ediv_add_emod z m;have aK:k % m*(z % m) % m=1:=by
    have e1:k % m*(z % m)=1+(w'-k / m*z-k % m*(z / m))*m:=by grind
    rw[e1,Int.add_mul_emod_self_right];exact Int.emod_eq_of_lt (by omega) (by omega)
   have fT:z % m≠0:=λe=>by
    rw[e,Int.mul_zero,Int.zero_emod]at aK;omega
   exact ah (z % m) (by omega) (by omega) aK
variable{vL:PV}
def CodeL(p:Int)(W:L4)(B:L5)(xs:L4)(c:Int):Prop:=
 (¬(isLie p W B/\Els p W.length xs)/\c=1)\/((isLie p W B/\Els p W.length xs)/\¬isLz p W.length W B/\c=5)\/((isLie p W B/\Els p W.length xs)/\isLz p W.length W B/\c=0)
theorem CodeL.unique{xs:L4}{c d:Int}(h:CodeL p W B xs c)(g:CodeL p W B xs d):c=d:=by
 rcases h with ⟨h1,h2⟩|⟨h1,h2,h3⟩|⟨h1,h2,h3⟩<;>rcases g with ⟨g1,g2⟩|⟨g1,g2,g3⟩|⟨g1,g2,g3⟩<;>first|omega|exact absurd g1 h1|exact absurd h1 g1|exact absurd g2 h2|exact absurd h2 g2
theorem zHA{xs:L4}(hs:PtrR U s p vP vB)(hR:IsR vP vB W B)(fM:SzR W B)(hL:FII vL xs)(sz:SzL xs)(hk:∀c:Int,CodeL p W B xs c->K (.int .i64 c) U):zA Tryz.prog 106 [.ptr s 0,vL] U K:=by
 have wQ:=hL;obtain⟨wl,al,rl,rfl,aR⟩:=hL;refine zB mix Tryz.func106 ?_
 conv=>arg 2;cbv
 refine zC rfl ?_;simp only[Z3,seval,-ae];refine zGP hs hR fM wQ sz λt ht=>?_;cases t
 .simp only[Z3,seval,-ae];exact hk 1 (.inl ⟨λh=>(by have:=ht.2 h;simp at this),rfl⟩)
 .have hl:=ht.1 rfl;simp only[Z3,seval,-ae];refine zJz hs hR hl.1.1.w hl.1.1.b hl.1.1.1 λt ht=>?_;cases t
  .simp only[Z3,seval,-ae];exact hk 5 (.inr (.inl ⟨hl,λh=>(by have:=ht.2 h;simp at this),rfl⟩))
  .simp only[Z3,seval,-ae];exact hk 0 (.inr (.inr ⟨hl,ht.1 rfl,rfl⟩))
theorem zLX{xs:L4}(hR:IsR vP vB W B)(fM:SzR W B)(hL:FII vL xs)(sz:SzL xs)(hk:∀c:Int,CodeL p W B xs c->K (.int .i64 c) U):zA Tryz.prog 102 [.agg [.int .i64 p,vP,vB],vL] U K:=by
 have h1:=hR.P.one;have h2:=hR.B.one;have wQ:=hL;obtain⟨wl,al,rl,rfl,aR⟩:=hL;refine zA.gh ?_;refine zB mix Tryz.func102 ?_
 conv=>arg 2;cbv
 refine zC rfl ?_;simp only[Z3,seval,-ae,h1,h2];refine zLZ hR fM λt ht=>?_;cases t
 .simp only[Z3,seval,-ae];exact Gh.fin0 (zD U _) trivial (hk 1 (.inl ⟨λh=>(by have:=ht.2 h.1;simp at this),rfl⟩))
 .have hl:=ht.1 rfl;simp only[Z3,seval,-ae,h1,h2];refine zGR hR wQ sz hl.1.1.bd λt ht=>?_;cases t
  .simp only[Z3,seval,-ae];exact Gh.fin0 (zD U _) trivial (hk 1 (.inl ⟨λh=>(by have:=ht.2 h.2;simp at this),rfl⟩))
  .have he:=ht.1 rfl;simp only[Z3,seval,-ae,h1,h2];refine zO8 hR hl.1.w hl.1.b hl.1.1 λt ht=>?_;cases t
   .simp only[Z3,seval,-ae];exact Gh.fin0 (zD U _) trivial (hk 5 (.inr (.inl ⟨⟨hl,he⟩,λh=>(by have:=ht.2 h;simp at this),rfl⟩)))
   .simp only[Z3,seval,-ae];exact Gh.fin0 (zD U _) trivial (hk 0 (.inr (.inr ⟨⟨hl,he⟩,ht.1 rfl,rfl⟩)))
def brv(B:L5)(n:Nat)(f g:Vec):Vec:=λt=>sumN n λi=>sumN (n-1-i) λj=>(f i*g (i+1+j)-f (i+1+j)*g i)*at_ ((B.getD i []).getD j []) t
theorem zEz(q:OkB p n B)(a b:L3)(t:Nat):at_ (bsum B a b n) t=brv B n (at_ a) (at_ b) t:=bi_at q t (vM _)
theorem QS(f f' g:Vec)(t:Nat):brv B n (λj=>f j+f' j) g t=brv B n f g t+brv B n f' g t:=by
 simp only[brv];rw[<-Qr];refine qw λi _=>?_;rw[<-Qr];refine qw λj _=>?_;grind
theorem ZG(k:Int)(f g:Vec)(t:Nat):brv B n (λj=>k*f j) g t=k*brv B n f g t:=by
 simp only[brv];rw[<-Z6];refine qw λi _=>?_;rw[<-Z6];refine qw λj _=>?_;grind
theorem zm(f g:Vec)(t:Nat):brv B n f g t=-1*brv B n g f t:=by
 simp only[brv];rw[<-Z6];refine qw λi _=>?_;rw[<-Z6];refine qw λj _=>?_;grind
theorem zA0{f f' g g':Vec}(h:∀j,j<n->f j=f' j)(h':∀j,j<n->g j=g' j)(t:Nat):brv B n f g t=brv B n f' g' t:=by
 simp only[brv];refine qw λi hi=>qw λj hj=>?_;rw[h i hi,h _ (by omega:i+1+j<n),h' i hi,h' _ (by omega:i+1+j<n)]
theorem zBT(g:Vec)(t:Nat):∀(m:Nat) (F:Nat->Vec),brv B n (λj=>sumN m λk=>F k j) g t=sumN m λk=>brv B n (F k) g t
 |0,F=>by
  simp only[sumN]
  have:=ZG (B:=B) (n:=n) 0 (λ_=>0) g t
  simpa using this
 |m+1,F=>by
  simp only[sumN];rw[QS,zBT g t m F]
theorem zCv:∀(m:Nat) (F:Nat->Vec),(∀k,k<m->Eqv p n W (F k) λ_=>0)->Eqv p n W (λj=>sumN m λk=>F k j) λ_=>0
 |0,F,_=>Eqv.of_eq λj=>rfl
 |m+1,F,h=>((zCv m F λk hk=>h k (by omega)).add (h m (by omega))).trans (Eqv.of_eq λj=>rfl)
theorem zAA{j i:Nat}(hj:j<n):at_ (unitL n j) i=if i=j then 1 else 0:=by
 rw[unitL,at_set (by simpa using hj),ZF]
theorem zF4(g:Vec){i:Nat}(hi:i<n):g i=sumN n λk=>g k*at_ (unitL n k) i:=by
 rw[zAa hi λk hk ai=>by rw[zAA hk,if_neg (λe=>ai e.symm),Int.mul_zero]];rw[zAA hi,if_pos rfl,Int.mul_one]
theorem zRG(o:OkW p n W)(q:OkB p n B)(nf:Zm p W B n){i:Nat}(hi:i<n)(g:Vec):Eqv p n W (brv B n (rel p W i) g) λ_=>0:=by
 have one:∀j,j<n->Eqv p n W (brv B n (rel p W i) (at_ (unitL n j))) λ_=>0:=λj hj=>by
  have hF:=nf.1 i j hi hj;unfold F1 at hF;have ha:=(QD o (br_el o q (a:=unitL n i) (b:=unitL n j)) p).2;have hb:Eqv p n W (at_ (br p W B n (unitL n i) (unitL n j))) (at_ (bsum B (unitL n i) (unitL n j) n)):=ZJ o (ZX q);have hc:Eqv p n W (at_ (br p W B n (W.getD i []) (unitL n j))) (at_ (bsum B (W.getD i []) (unitL n j) n)):=ZJ o (ZX q);rw[<-hF]at hc;have hd:Eqv p n W (λt=>p*at_ (bsum B (unitL n i) (unitL n j) n) t) (at_ (bsum B (W.getD i []) (unitL n j) n)):=((hb.mul p).symm.trans ha.symm).trans hc;have he:=hd.symm.add (Eqv.refl (p:=p) (n:=n) (W:=W) λt=>-1*(p*at_ (bsum B (unitL n i) (unitL n j) n) t));refine(Eqv.of_eq λt=>?_).trans (he.trans (Eqv.of_eq λt=>by grind));rw[zEz q,zEz q,<-ZG,<-ZG,<-QS];refine zA0 (λk hk=>?_) (λ_ _=>rfl) t;rw[zAA hi,rel];by_cases e:k=i
  .rw[if_pos e,if_pos e];grind
  .rw[if_neg e,if_neg e];grind
 refine(Eqv.of_eq λt=>?_).trans (zCv n (λk t=>g k*brv B n (rel p W i) (at_ (unitL n k)) t) λk hk=>((one k hk).mul (g k)).trans (Eqv.of_eq λt=>by grind));rw[zm,zA0 (f':=λj=>sumN n λk=>g k*at_ (unitL n k) j) (g':=rel p W i) (λj hj=>zF4 g hj) (λ_ _=>rfl),zBT (t:=t) (g:=rel p W i) n (λk j=>g k*at_ (unitL n k) j),<-Z6];refine qw λk hk=>?_;rw[ZG,zm (f:=at_ (unitL n k))];grind
theorem zBU(o:OkW p n W)(q:OkB p n B)(nf:Zm p W B n){f f':Vec}(g:Vec)(h:Eqv p n W f f'):Eqv p n W (brv B n f g) (brv B n f' g):=by
 obtain⟨c,hc⟩:=h;have h0:=zCv n (λi t=>c i*brv B n (rel p W i) g t) λk hk=>((zRG o q nf hk g).mul (c k)).trans (Eqv.of_eq λt=>by grind);refine(Eqv.of_eq λt=>?_).trans (((Eqv.refl (brv B n f' g)).add h0).trans (Eqv.of_eq λt=>by grind));rw[zA0 (f':=λj=>f' j+sumN n λi=>c i*rel p W i j) (g':=g) (λj _=>hc j) (λ_ _=>rfl),QS,zBT (t:=t) (g:=g) n (λi j=>c i*rel p W i j)];congr 1;exact qw λk hk=>by rw[ZG]
theorem zIk(o:OkW p n W)(q:OkB p n B)(nf:Zm p W B n){g g':Vec}(f:Vec)(h:Eqv p n W g g'):Eqv p n W (brv B n f g) (brv B n f g'):=
 ((Eqv.of_eq λt=>zm f g t).trans ((zBU o q nf f h).mul (-1))).trans (Eqv.of_eq λt=>(zm f g' t).symm)
theorem QT(o:OkW p n W)(q:OkB p n B)(a b:L3):Eqv p n W (at_ (br p W B n a b)) (brv B n (at_ a) (at_ b)):=
 (ZJ o (ZX q)).trans (Eqv.of_eq λt=>zEz q a b t)
theorem Zk(o:OkW p n W){x:L3}(hx:El p n x)(k:Int):Eqv p n W (at_ (lmul p W k x)) λj=>k*at_ x j:=(QD o hx k).2
theorem Ze(o:OkW p n W){x y:L3}(hx:El p n x)(hy:El p n y):Eqv p n W (at_ (ladd p W x y)) λj=>at_ x j+at_ y j:=
 (ZJ o (by rw[zM (hx.1.trans hy.1.symm)];exact hx.1)).trans (Eqv.of_eq λj=>by rw[qY (hx.1.trans hy.1.symm)];omega)
theorem Qf(k:Int)(f g:Vec)(t:Nat):brv B n f (λj=>k*g j) t=k*brv B n f g t:=by
 rw[zm,ZG,zm g f];grind
theorem third(o:OkW p n W)(q:OkB p n B)(nf:Zm p W B n){x y b:L3}(hb:El p n b):
  ladd p W (br p W B n x b) (br p W B n y (lmul p W (-1) b))=norm p W (lmix 1 (br p W B n x b) (-1) (br p W B n y b)):=by
 have e1:El p n (br p W B n x b):=br_el o q;have e2:El p n (br p W B n y b):=br_el o q;have e3:El p n (br p W B n y (lmul p W (-1) b)):=br_el o q;have k1:Eqv p n W (at_ (br p W B n y (lmul p W (-1) b))) λj=>-1*at_ (br p W B n y b) j:=
  (QT o q _ _).trans (((zIk o q nf (at_ y) (Zk o hb (-1))).trans (Eqv.of_eq λt=>Qf (-1) _ _ t)).trans ((QT o q y b).symm.mul (-1)))
 refine zFU o (by rw[zM (e1.1.trans e3.1.symm)];exact e1.1) (by rw[zM (e1.1.trans e2.1.symm)];exact e1.1) ?_;refine(Eqv.of_eq λj=>?_).trans (((Eqv.refl (at_ (br p W B n x b))).add k1).trans (Eqv.of_eq λj=>?_))
 .rw[qY (e1.1.trans e3.1.symm)];omega
 .rw[qY (e1.1.trans e2.1.symm)];omega
theorem zB7(g f:Vec)(t:Nat):brv B n f g t=sumN n λk=>g k*brv B n f (at_ (unitL n k)) t:=by
 rw[zm,zA0 (f':=λj=>sumN n λk=>g k*at_ (unitL n k) j) (g':=f) (λj hj=>zF4 g hj) (λ_ _=>rfl),zBT (t:=t) (g:=f) n (λk j=>g k*at_ (unitL n k) j),<-Z6];refine qw λk hk=>?_;rw[ZG,zm (f:=at_ (unitL n k))];grind
theorem zR6(o:OkW p n W)(q:OkB p n B)(nf:Zm p W B n){u:L4}{f:Vec}(hf:Gen p n W u f):∀g:Vec,Gen p n W (brL p W B n u (units n)) (brv B n f g):=by
 have hS:=zQ (p:=p) (n:=n) (W:=W) (brL p W B n u (units n));refine zIO (S:=λf=>∀g:Vec,Gen p n W (brL p W B n u (units n)) (brv B n f g)) ⟨λg=>?_,λf f' h h' g=>?_,λk f h g=>?_,λf f' h h' g=>?_⟩ (λv hv g=>?_) hf
 .refine hS.eqv _ _ (Eqv.of_eq λt=>?_) hS.zero
  have:=ZG (B:=B) (n:=n) 0 (λ_=>0) g t
  simpa using this
 .exact hS.eqv _ _ (Eqv.of_eq λt=>QS f f' g t) (hS.add _ _ (h g) (h' g))
 .exact hS.eqv _ _ (Eqv.of_eq λt=>ZG k f g t) (hS.mul k _ (h g))
 .exact hS.eqv _ _ (zBU o q nf g h) (h' g)
 .refine hS.eqv _ _ (Eqv.of_eq λt=>zB7 g (at_ v) t) (hS.sum λk hk=>hS.mul (g k) _ ?_);refine hS.eqv _ _ (QT o q v (unitL n k)).symm (qO (List.mem_flatMap.2 ⟨v,hv,List.mem_map.2 ⟨unitL n k,?_,rfl⟩⟩));exact List.mem_map.2 ⟨k,List.mem_range.2 hk,rfl⟩
theorem zGp(o:OkW p n W){x:L3}(hx:El p n x):Gen p n W (units n) (at_ x):=by
 have hS:=zQ (p:=p) (n:=n) (W:=W) (units n);refine hS.eqv _ _ (Eqv.of_eq λt=>?_) (hS.sum (m:=n) (F:=λk j=>at_ x k*at_ (unitL n k) j) λk hk=>hS.mul (at_ x k) _ (qO (List.mem_map.2 ⟨k,List.mem_range.2 hk,rfl⟩)));rcases Nat.lt_or_ge t n with h|h
 .exact zF4 (at_ x) h
 .rw[hx.beyond h,ZI];intro k hk;rw[zAA hk,if_neg (by omega),Int.mul_zero]
theorem zQu(o:OkW p n W)(q:OkB p n B)(nf:Zm p W B n){u out:L4}(hc:Canon p n W (brL p W B n u (units n)) out){f:Vec}(hf:Gen p n W u f)(g:Vec):Gen p n W out (brv B n f g):=
 (hc.gen _).1 (zR6 o q nf hf g)
theorem zKi(o:OkW p n W)(q:OkB p n B){c:Nat}(h:Cls p n W B c):∀k,∃u,Low p n W B k u/\(c<=k->u=[])\/k<c:=λk=>by
 rcases Nat.lt_or_ge k c with x|x
 .exact⟨[],.inr x⟩
 .obtain⟨d,rfl⟩:∃d,k=c+d:=⟨k-c,by omega⟩
  have:Low p n W B (c+d) []:=by
   clear x
   induction d with
   |zero=>exact h.1
   |succ d ih=>
    refine .succ ih ?_;have hb:brL p W B n [] (units n)=[]:=rfl;rw[hb];exact⟨.nil,List.Pairwise.nil,λf=>Iff.rfl⟩
  exact⟨[],.inl ⟨this,λ_=>rfl⟩⟩
theorem QL(o:OkW p n W){z:L3}(hz:El p n z)(h:Eqv p n W (at_ z) λ_=>0):isZ z:=by
 have h1:=zEv o hz h (vM n) λ_ _=>rfl;intro x hx;obtain⟨j,hj,rfl⟩:=List.mem_iff_getElem.1 hx;rw[<-at_eq hj];exact h1 j (by rw[<-hz.1];exact hj)
end Go.Proofs
namespace Go.Grp
open Go.Ab Go.Lie
structure Mon{α:Type}(S:α->Prop)(m:α->α->α)(e:α):Prop where
 one:S e
 cl:∀{a b},S a->S b->S (m a b)
 «as»:∀{a b c},S a->S b->S c->m (m a b) c=m a (m b c)
 l1:∀{a},S a->m e a=a
 r1:∀{a},S a->m a e=a
section
variable{α:Type}{S:α->Prop}{m:α->α->α}{e:α}
def pw(m:α->α->α)(e x:α):Nat->α
 |0=>e
 |k+1=>m (pw m e x k) x
def rep(m:α->α->α)(x:α):Nat->α->α
 |0,a=>a
 |k+1,a=>rep m x k (m a x)
def ph(m:α->α->α)(e:α)(h:Nat->α)(x:Nat->Nat):Nat->Nat->α
 |t,0=>e
 |t,d+1=>m (pw m e (h t) (x t)) (ph m e h x (t+1) d)
def fo(m:α->α->α)(h:Nat->α)(x:Nat->Nat):Nat->Nat->α->α
 |t,0,a=>a
 |t,d+1,a=>fo m h x (t+1) d (rep m (h t) (x t) a)
theorem Mon.pw(M:Mon S m e){x:α}(hx:S x):∀k,S (pw m e x k)
 |0=>M.one
 |k+1=>M.cl (M.pw hx k) hx
theorem Mon.pw_add(M:Mon S m e){x:α}(hx:S x)(a:Nat):∀b,Grp.pw m e x (a+b)=m (Grp.pw m e x a) (Grp.pw m e x b)
 |0=>(M.r1 (M.pw hx a)).symm
 |b+1=>by
  show m (Grp.pw m e x (a+b)) x=m _ (m (Grp.pw m e x b) x);rw[M.pw_add hx a b,M.as (M.pw hx a) (M.pw hx b) hx]
theorem Mon.pw_one(M:Mon S m e){x:α}(hx:S x):Grp.pw m e x 1=x:=M.l1 hx
theorem Mon.pw_comm(M:Mon S m e){x:α}(hx:S x)(a:Nat):m (Grp.pw m e x a) x=m x (Grp.pw m e x a):=by
 have h1:=M.pw_add hx a 1;have h2:=M.pw_add hx 1 a;rw[M.pw_one hx]at h1 h2;rw[<-h1,<-h2,Nat.add_comm]
theorem Mon.rep_eq(M:Mon S m e){x:α}(hx:S x):∀(k:Nat) {a:α},S a->rep m x k a=m a (Grp.pw m e x k)
 |0,a,ha=>(M.r1 ha).symm
 |k+1,a,ha=>by
  show rep m x k (m a x)=m a (m (Grp.pw m e x k) x);rw[M.rep_eq hx k (M.cl ha hx),M.as ha hx (M.pw hx k),M.pw_comm hx k]
theorem Mon.ph(M:Mon S m e){h:Nat->α}{x:Nat->Nat}:∀{d t:Nat},(∀j,t<=j->j<t+d->S (h j))->S (ph m e h x t d)
 |0,t,_=>M.one
 |d+1,t,hh=>M.cl (M.pw (hh t (vM _) (by omega)) _) (M.ph λj h1 h2=>hh j (by omega) (by omega))
theorem Mon.fo_eq(M:Mon S m e){h:Nat->α}{x:Nat->Nat}:∀{d t:Nat} {a:α},(∀j,t<=j->j<t+d->S (h j))->S a->fo m h x t d a=m a (Grp.ph m e h x t d)
 |0,t,a,_,ha=>(M.r1 ha).symm
 |d+1,t,a,hh,ha=>by
  have ht:=hh t (vM _) (by omega);show fo m h x (t+1) d (rep m (h t) (x t) a)=m a (m _ _);rw[M.rep_eq ht _ ha,M.fo_eq (λj h1 h2=>hh j (by omega) (by omega)) (M.cl ha (M.pw ht _)),M.as ha (M.pw ht _) (M.ph λj h1 h2=>hh j (by omega) (by omega))]
theorem zCp{h h':Nat->α}{x x':Nat->Nat}:∀{d t:Nat},(∀j,t<=j->j<t+d->h j=h' j/\x j=x' j)->Grp.ph m e h x t d=Grp.ph m e h' x' t d
 |0,t,_=>rfl
 |d+1,t,hh=>by
  simp only[Grp.ph];rw[(hh t (vM _) (by omega)).1,(hh t (vM _) (by omega)).2,zCp λj h1 h2=>hh j (by omega) (by omega)]
theorem Mon.past_pw(M:Mon S m e){g u v:α}(hg:S g)(hu:S u)(hv:S v)(h:m u g=m g v):∀k,m (Grp.pw m e u k) g=m g (Grp.pw m e v k)
 |0=>by rw[Grp.pw,Grp.pw,M.l1 hg,M.r1 hg]
 |k+1=>by
  show m (m (Grp.pw m e u k) u) g=m g (m (Grp.pw m e v k) v);rw[M.as (M.pw hu k) hu hg,h,<-M.as (M.pw hu k) hg hv,M.past_pw hg hu hv h k,M.as hg (M.pw hv k) hv]
theorem Mon.past_ph(M:Mon S m e){g:α}(hg:S g){h h':Nat->α}{x:Nat->Nat}:∀{d t:Nat},(∀j,t<=j->j<t+d->S (h j)/\S (h' j)/\m (h j) g=m g (h' j))->m (Grp.ph m e h x t d) g=m g (Grp.ph m e h' x t d)
 |0,t,_=>by rw[Grp.ph,Grp.ph,M.l1 hg,M.r1 hg]
 |d+1,t,hh=>by
  obtain⟨h1,h2,h3⟩:=hh t (vM _) (by omega);have i1:=M.ph (x:=x) (λj a b=>(hh j (show t<=j by omega) (by omega)).1) (d:=d) (t:=t+1);have i2:=M.ph (x:=x) (λj a b=>(hh j (show t<=j by omega) (by omega)).2.1) (d:=d) (t:=t+1);show m (m _ _) g=m g (m _ _);rw[M.as (M.pw h1 _) i1 hg,M.past_ph hg λj a b=>hh j (by omega) (by omega),<-M.as (M.pw h1 _) hg i2,M.past_pw hg h1 h2 h3,M.as hg (M.pw h2 _) i2]
end
variable{O:L3}{P:L4}{C:L5}
structure TT(O:L3)(t:Nat)(x:L3):Prop where
 len:x.length=O.length
 bd:∀j,j<O.length->0<=at_ x j/\at_ x j<at_ O j
 zero:∀j,j<t->at_ x j=0
abbrev nx(x:L3)(j:Nat):Nat:=(at_ x j).toNat
abbrev cvec(C:L5)(i j:Nat):L3:=(C.getD i []).getD (j-i-1) []
abbrev pvec(P:L4)(i:Nat):L3:=P.getD i []
abbrev zv(O:L3):L3:=List.replicate O.length 0
structure Shp(O:L3)(P:L4)(C:L5):Prop where
 le:O.length<=6
 pr:∀j,j<O.length->2<=at_ O j/\at_ O j<=7
 pl:P.length=O.length
 cl:C.length=O.length
 pw:∀i,i<O.length->TT O (i+1) (pvec P i)
 row:∀i,i<O.length->(C.getD i []).length=O.length-1-i
 cj:∀i j,i<j->j<O.length->TT O (i+1) (cvec C i j)
def img(O:L3)(C:L5)(m:L3->L3->L3)(i:Nat)(x:L3):L3:=fo m (cvec C i) (nx x) (i+1) (O.length-1-i) (zv O)
def iter{α:Type}(f:α->α):Nat->α->α
 |0,a=>a
 |k+1,a=>iter f k (f a)
theorem zEo{α:Type}(f:α->α)(a b:Nat)(x:α):iter f (a+b) x=iter f b (iter f a x):=by
 induction a generalizing x with
 |zero=>rw[Nat.zero_add];rfl
 |succ a ih=>rw[show a+1+b=(a+b)+1 by omega];exact ih (f x)
def mu(O:L3)(P:L4)(C:L5):Nat->L3->L3->L3
 |0,_,_=>zv O
 |d+1,a,b=>
  let i:=O.length-(d+1)
  let r:=mu O P C d (iter (img O C (mu O P C d) i) (nx b i) (a.set i 0)) (b.set i 0)
  if at_ a i+at_ b i ≥ at_ O i then(mu O P C d (pvec P i) r).set i (at_ a i+at_ b i-at_ O i)else r.set i (at_ a i+at_ b i)
theorem TT.zv(t:Nat)(h:∀j,j<O.length->0<at_ O j):TT O t (zv O):=⟨by simp,λj hj=>by rw[ZF];exact⟨by omega,h j hj⟩,λj _=>ZF _ j⟩
theorem TT.mono{t t':Nat}{x:L3}(h:TT O t x)(ht:t'<=t):TT O t' x:=⟨h.len,h.bd,λj hj=>h.zero j (by omega)⟩
theorem TT.set{t i:Nat}{x:L3}(h:TT O t x)(hi:i<O.length)(sN:t<=i){c:Int}(hc:0<=c/\c<at_ O i):TT O t (x.set i c):=by
 have hl:i<x.length:=by rw[h.len];exact hi
 refine⟨by rw[List.length_set,h.len],λj hj=>?_,λj hj=>?_⟩
 .rw[at_set hl];split
  .rename_i e;subst e;exact hc
  .exact h.bd j hj
 .rw[at_set hl,if_neg (by omega)];exact h.zero j hj
theorem TT.set0{i:Nat}{x:L3}(h:TT O i x)(hi:i<O.length)(hO:0<at_ O i):TT O (i+1) (x.set i 0):=by
 have hl:i<x.length:=by rw[h.len];exact hi
 have h1:=h.set hi (vM _) (c:=0) ⟨by omega,hO⟩;refine⟨h1.len,h1.bd,λj hj=>?_⟩;rw[at_set hl];split
 .rfl
 .exact h.zero j (by omega)
theorem TT.ext{t:Nat}{x y:L3}(h:TT O t x)(g:TT O t y)(he:∀j,t<=j->j<O.length->at_ x j=at_ y j):x=y:=by
 refine Qi (by rw[h.len,g.len]) λj hj=>?_;rcases Nat.lt_or_ge j t with e|e
 .rw[h.zero j e,g.zero j e]
 .exact he j e (by rw[<-h.len];exact hj)
theorem Shp.pos(s:Shp O P C){j:Nat}(hj:j<O.length):0<at_ O j:=by have:=(s.pr j hj).1;omega
theorem Shp.zv(s:Shp O P C)(t:Nat):TT O t (zv O):=TT.zv t λj hj=>s.pos hj
theorem zMP{α:Type}{S:α->Prop}{m:α->α->α}{x:α}(h:∀a,S a->S (m a x)):∀(k:Nat) {a:α},S a->S (rep m x k a)
 |0,a,ha=>ha
 |k+1,a,ha=>zMP h k (h a ha)
theorem fo_in{α:Type}{S:α->Prop}{m:α->α->α}{h:Nat->α}{x:Nat->Nat}:∀{d t:Nat} {a:α},(∀j,t<=j->j<t+d->∀a,S a->S (m a (h j)))->S a->S (fo m h x t d a)
 |0,t,a,_,ha=>ha
 |d+1,t,a,hh,ha=>by
  show S (fo m h x (t+1) d (rep m (h t) (x t) a));exact fo_in (λj h1 h2=>hh j (by omega) (by omega)) (zMP (hh t (vM _) (by omega)) (x t) ha)
theorem zBO{α:Type}{S:α->Prop}{f:α->α}(h:∀a,S a->S (f a)):∀(k:Nat) {a:α},S a->S (iter f k a)
 |0,a,ha=>ha
 |k+1,a,ha=>zBO h k (h a ha)
theorem zBk(s:Shp O P C){m:L3->L3->L3}{i:Nat}(hm:∀a b,TT O (i+1) a->TT O (i+1) b->TT O (i+1) (m a b))(x:L3):TT O (i+1) (img O C m i x):=
 fo_in (λj h1 h2 a ha=>hm a _ ha (s.cj i j (by omega) (by omega))) (s.zv _)
theorem mu_tt(s:Shp O P C):∀{d:Nat} {a b:L3},d<=O.length->TT O (O.length-d) a->TT O (O.length-d) b->TT O (O.length-d) (mu O P C d a b)
 |0,a,b,_,ha,hb=>s.zv _
 |d+1,a,b,hd,ha,hb=>by
  have hi:O.length-(d+1)<O.length:=by omega
  have e:O.length-d=O.length-(d+1)+1:=by omega
  have hm:∀a b,TT O (O.length-(d+1)+1) a->TT O (O.length-(d+1)+1) b->TT O (O.length-(d+1)+1) (mu O P C d a b):=by
   rw[<-e];exactλa b h1 h2=>mu_tt s (by omega) h1 h2
  have aD:=s.pos hi;have ba:=ha.bd _ hi;have bb:=hb.bd _ hi;have ir:=hm _ _ (zBO (λx _=>zBk s hm x) (nx b (O.length-(d+1))) (ha.set0 hi aD)) (hb.set0 hi aD);simp only[mu];split
  .exact((hm _ _ (s.pw _ hi) ir).mono (Nat.le_succ _)).set hi (vM _) ⟨by omega,by omega⟩
  .exact(ir.mono (Nat.le_succ _)).set hi (vM _) ⟨by omega,by omega⟩
end Go.Grp
namespace Go.Grp
open Go.Ab Go.Lie
variable{O:L3}{P:L4}{C:L5}{α:Type}{S:α->Prop}{m:α->α->α}{e:α}{h:Nat->α}{t0:Nat}
abbrev Ph(O:L3)(m:α->α->α)(e:α)(h:Nat->α)(d:Nat)(x:L3):α:=ph m e h (nx x) (O.length-d) d
structure Rel(O:L3)(P:L4)(C:L5)(S:α->Prop)(m:α->α->α)(e:α)(h:Nat->α)(t0:Nat):Prop where
 mem:∀j,t0<=j->j<O.length->S (h j)
 pow:∀j,t0<=j->j<O.length->pw m e (h j) (nx O j)=Ph O m e h (O.length-(j+1)) (pvec P j)
 cj:∀j k,t0<=j->j<k->k<O.length->m (h k) (h j)=m (h j) (Ph O m e h (O.length-(j+1)) (cvec C j k))
theorem Ph_in(M:Mon S m e)(r:Rel O P C S m e h t0){d:Nat}(hd:d<=O.length-t0)(x:L3):S (Ph O m e h d x):=M.ph λj h1 h2=>r.mem j (by omega) (by omega)
theorem zF1{d i:Nat}(hi:i<O.length-d){x:L3}(hx:x.length=O.length)(c:Int):Ph O m e h d (x.set i c)=Ph O m e h d x:=
 zCp λj h1 h2=>⟨rfl,by show(at_ _ j).toNat=(at_ x j).toNat;rw[at_set (by omega),if_neg (by omega)]⟩
theorem zKp{d:Nat}(hd:d<O.length)(x:L3):Ph O m e h (d+1) x=m (pw m e (h (O.length-(d+1))) (nx x (O.length-(d+1)))) (Ph O m e h d x):=by
 show ph m e h (nx x) _ (d+1)=_;rw[ph,show O.length-(d+1)+1=O.length-d by omega]
theorem Ph_zv(M:Mon S m e):∀d:Nat,Ph O m e h d (zv O)=e:=by
 intro d
 have:∀(d t:Nat),ph m e h (nx (zv O)) t d=e:=by
  intro d
  induction d with
  |zero=>intro t;rfl
  |succ d ih=>
   intro t;have h0:nx (zv O) t=0:=by show(at_ (zv O) t).toNat=0;rw[ZF];rfl
   rw[ph,ih,h0];exact M.l1 M.one
 exact this d _
theorem Ph_fo(M:Mon S m e){T:L3->Prop}{mm:L3->L3->L3}{F:L3->α}(hF:∀a b,T a->T b->T (mm a b)/\F (mm a b)=m (F a) (F b)){c:Nat->L3}{x:Nat->Nat}:
  ∀{d t:Nat} {a:L3},(∀j,t<=j->j<t+d->T (c j))->T a->T (fo mm c x t d a)/\F (fo mm c x t d a)=fo m (λj=>F (c j)) x t d (F a)
 |0,t,a,_,ha=>⟨ha,rfl⟩
 |d+1,t,a,hc,ha=>by
  have hr:∀(k:Nat) {a:L3},T a->T (rep mm (c t) k a)/\F (rep mm (c t) k a)=rep m (F (c t)) k (F a):=by
   intro k
   induction k with
   |zero=>exactλha=>⟨ha,rfl⟩
   |succ k ih=>
    intro a ha;obtain⟨h1,h2⟩:=hF a (c t) ha (hc t (vM _) (by omega));obtain⟨h3,h4⟩:=ih h1;exact⟨h3,by show F (rep mm (c t) k (mm a (c t)))=rep m (F (c t)) k (m (F a) (F (c t)));rw[h4,h2]⟩
  obtain⟨h1,h2⟩:=hr (x t) ha;obtain⟨h3,h4⟩:=Ph_fo M hF (c:=c) (x:=x) (d:=d) (t:=t+1) (λj h1 h2=>hc j (by omega) (by omega)) h1;refine⟨h3,?_⟩;show F (fo mm c x (t+1) d _)=fo m _ x (t+1) d (rep m (F (c t)) (x t) (F a));rw[h4,h2]
theorem dyck(s:Shp O P C)(M:Mon S m e)(r:Rel O P C S m e h t0):∀{d:Nat},d<=O.length-t0->∀{a b:L3},TT O (O.length-d) a->TT O (O.length-d) b->Ph O m e h d (mu O P C d a b)=m (Ph O m e h d a) (Ph O m e h d b)
 |0,_,a,b,_,_=>(M.l1 M.one).symm
 |d+1,hd,a,b,ha,hb=>by
  have hi:O.length-(d+1)<O.length:=by omega
  have aZ:t0<=O.length-(d+1):=by omega
  have e1:O.length-d=O.length-(d+1)+1:=by omega
  have e2:O.length-1-(O.length-(d+1))=d:=by omega
  have e3:O.length-(O.length-(d+1)+1)=d:=by omega
  have aD:=s.pos hi;have ba:=ha.bd _ hi;have bb:=hb.bd _ hi;have hS:=r.mem _ aZ hi;have ih:∀{a b:L3},TT O (O.length-d) a->TT O (O.length-d) b->Ph O m e h d (mu O P C d a b)=m (Ph O m e h d a) (Ph O m e h d b):=λh1 h2=>dyck s M r (by omega) h1 h2;have cl:∀{a b:L3},TT O (O.length-d) a->TT O (O.length-d) b->TT O (O.length-d) (mu O P C d a b):=λh1 h2=>mu_tt s (by omega) h1 h2;have ck:∀x,S (Ph O m e h d x):=λx=>Ph_in M r (by omega) x;generalize aJ:O.length-(d+1)=i at *
  have A6:∀{x:L3},TT O (O.length-d) x->TT O (O.length-d) (img O C (mu O P C d) i x)/\m (Ph O m e h d x) (h i)=m (h i) (Ph O m e h d (img O C (mu O P C d) i x)):=by
   intro x hx;have hc:∀j,i+1<=j->j<i+1+d->TT O (O.length-d) (cvec C i j):=λj h1 h2=>by rw[e1];exact s.cj i j (by omega) (by omega)
   have fF:TT O (O.length-d) (zv O):=s.zv _;obtain⟨f1,f2⟩:=Ph_fo M (T:=TT O (O.length-d)) (mm:=mu O P C d) (F:=Ph O m e h d) (λa b h1 h2=>⟨cl h1 h2,ih h1 h2⟩) (c:=cvec C i) (x:=nx x) hc fF;have Cz:img O C (mu O P C d) i x=fo (mu O P C d) (cvec C i) (nx x) (i+1) d (zv O):=by rw[img,e2]
   rw[Cz];refine⟨f1,?_⟩;rw[f2,Ph_zv M,M.fo_eq (λj _ _=>ck _) M.one,M.l1 (M.ph λj _ _=>ck _)];show m (ph m e h (nx x) (O.length-d) d) (h i)=_;rw[e1];refine M.past_ph hS λj h1 h2=>⟨r.mem j (by omega) (by omega),ck _,?_⟩
   have:=r.cj i j aZ (by omega) (by omega)
   rw[e3]at this;exact this
  have m8:∀(k:Nat) {x:L3},TT O (O.length-d) x->TT O (O.length-d) (iter (img O C (mu O P C d) i) k x)/\m (Ph O m e h d x) (pw m e (h i) k)=m (pw m e (h i) k) (Ph O m e h d (iter (img O C (mu O P C d) i) k x)):=by
   intro k
   induction k with
   |zero=>exactλ{x} hx=>⟨hx,by show m _ e=m e _;rw[M.r1 (ck x)];exact(M.l1 (ck x)).symm⟩
   |succ k ik=>
    intro x hx;obtain⟨g1,g2⟩:=A6 hx;obtain⟨g3,g4⟩:=ik g1;refine⟨g3,?_⟩;show m _ (m (pw m e (h i) k) (h i))=m (m (pw m e (h i) k) (h i)) (Ph O m e h d (iter _ k (img O C (mu O P C d) i x)));rw[M.pw_comm hS,<-M.as (ck _) hS (M.pw hS k),g2,M.as hS (ck _) (M.pw hS k),g4,<-M.as hS (M.pw hS k) (ck _)]
  have np:TT O (O.length-d) (a.set i 0):=by rw[e1];exact ha.set0 hi aD
  have kI:TT O (O.length-d) (b.set i 0):=by rw[e1];exact hb.set0 hi aD
  obtain⟨k1,k2⟩:=m8 (nx b i) np;have il:i<O.length-d:=by omega
  rw[zF1 il ha.len]at k2;have er:=ih k1 kI;rw[zF1 il hb.len]at er;have ct:=cl k1 kI;have jx:∀x,Ph O m e h (d+1) x=m (pw m e (h i) (nx x i)) (Ph O m e h d x):=λx=>by rw[zKp (by omega),aJ]
  rw[jx a,jx b,jx];generalize hL:iter (img O C (mu O P C d) i) (nx b i) (a.set i 0)=L at *
  have Cw:mu O P C (d+1) a b=if at_ a i+at_ b i ≥ at_ O i then(mu O P C d (pvec P i) (mu O P C d L (b.set i 0))).set i (at_ a i+at_ b i-at_ O i)else(mu O P C d L (b.set i 0)).set i (at_ a i+at_ b i):=by
   simp only[mu,aJ,hL]
  have rhs:m (m (pw m e (h i) (nx a i)) (Ph O m e h d a)) (m (pw m e (h i) (nx b i)) (Ph O m e h d b))=m (pw m e (h i) (nx a i+nx b i)) (Ph O m e h d (mu O P C d L (b.set i 0))):=by
   rw[er,M.pw_add hS,M.as (M.pw hS _) (ck _) (M.cl (M.pw hS _) (ck _)),<-M.as (ck _) (M.pw hS _) (ck _),k2,M.as (M.pw hS _) (ck _) (ck _),<-M.as (M.pw hS _) (M.pw hS _) (M.cl (ck _) (ck _))]
  rw[rhs,Cw];have hn:(at_ a i+at_ b i).toNat=nx a i+nx b i:=by show _=(at_ a i).toNat+(at_ b i).toNat;omega
  have fR:∀{x:L3} (c:Int),TT O (O.length-d) x->nx (x.set i c) i=c.toNat:=λ{x} c hx=>by show(at_ _ i).toNat=_;rw[at_set (by rw[hx.len];exact hi),if_pos rfl]
  split
  .rename_i aF;have hp:TT O (O.length-d) (pvec P i):=by rw[e1];exact s.pw i hi
   have cp:=cl hp ct;rw[fR _ cp,zF1 il cp.len,ih hp ct];have rp:=r.pow i aZ hi;rw[e3]at rp;rw[<-rp,<-M.as (M.pw hS _) (M.pw hS _) (ck _),<-M.pw_add hS];congr 2
   show(at_ a i+at_ b i-at_ O i).toNat+(at_ O i).toNat=(at_ a i).toNat+(at_ b i).toNat
   omega
  .rw[fR _ ct,zF1 il ct.len,hn]
structure Gp{α:Type}(S:α->Prop)(m:α->α->α)(e:α):Prop extends Mon S m e where
 inv:∀{a},S a->∃b,S b/\m a b=e/\m b a=e
theorem Gp.cancel(G:Gp S m e){a b c:α}(ha:S a)(hb:S b)(hc:S c)(h:m a b=m a c):b=c:=by
 obtain⟨i,hi,_,h1⟩:=G.inv ha
 have:=congrArg (m i) h
 rwa[<-G.as hi ha hb,<-G.as hi ha hc,h1,G.l1 hb,G.l1 hc]at this
theorem Gp.of_right(M:Mon S m e)(hr:∀{a},S a->∃b,S b/\m a b=e):Gp S m e:=by
 refine⟨M,λ{a} ha=>?_⟩;obtain⟨b,hb,h1⟩:=hr ha;obtain⟨c,hc,h2⟩:=hr hb;refine⟨b,hb,h1,?_⟩
 have:a=c:=by rw[<-M.r1 ha,<-h2,<-M.as ha hb hc,h1,M.l1 hc]
 rw[this];exact h2
theorem Mon.pw_ind(M:Mon S m e){Q:α->Prop}(h1:Q e)(hm:∀a b,S a->S b->Q a->Q b->Q (m a b)){x:α}(hx:S x)(hq:Q x):∀k,Q (Grp.pw m e x k)
 |0=>h1
 |k+1=>hm _ _ (M.pw hx k) hx (M.pw_ind h1 hm hx hq k) hq
theorem Mon.ph_ind(M:Mon S m e){Q:α->Prop}(h1:Q e)(hm:∀a b,S a->S b->Q a->Q b->Q (m a b)){h:Nat->α}{x:Nat->Nat}:∀{d t:Nat},(∀j,t<=j->j<t+d->S (h j)/\Q (h j))->Q (Grp.ph m e h x t d)
 |0,t,_=>h1
 |d+1,t,hh=>by
  obtain⟨g1,g2⟩:=hh t (vM _) (by omega);exact hm _ _ (M.pw g1 _) (M.ph λj a b=>(hh j (by omega) (by omega)).1) (M.pw_ind h1 hm g1 g2 _) (M.ph_ind h1 hm λj a b=>hh j (by omega) (by omega))
theorem Mon.ph_skip(M:Mon S m e){h:Nat->α}{x:Nat->Nat}{d:Nat}:∀{k t:Nat},(∀j,t<=j->j<t+k->x j=0)->(∀j,t+k<=j->j<t+k+d->S (h j))->Grp.ph m e h x t (k+d)=Grp.ph m e h x (t+k) d
 |0,t,_,_=>by rw[Nat.zero_add,Nat.add_zero]
 |k+1,t,h0,hs=>by
  have:=M.ph_skip (h:=h) (x:=x) (d:=d) (k:=k) (t:=t+1) (λj a b=>h0 j (by omega) (by omega)) (λj a b=>hs j (by omega) (by omega))
  rw[show k+1+d=(k+d)+1 by omega,Grp.ph,h0 t (vM _) (by omega),this,show t+1+k=t+(k+1) by omega];exact M.l1 (M.ph λj a b=>hs j (by omega) (by omega))
abbrev unit(O:L3)(j:Nat):L3:=(zv O).set j 1
theorem Shp.unit(s:Shp O P C){t j:Nat}(hj:j<O.length)(ht:t<=j):TT O t (unit O j):=(s.zv t).set hj ht ⟨by omega,by have:=(s.pr j hj).1;omega⟩
structure Lv(O:L3)(P:L4)(C:L5)(i:Nat):Prop where
 pow:∀j,i<j->j<O.length->pw (mu O P C (O.length-1-i)) (zv O) (cvec C i j) (nx O j)=img O C (mu O P C (O.length-1-i)) i (pvec P j)
 cj:∀j k,i<j->j<k->k<O.length->mu O P C (O.length-1-i) (cvec C i k) (cvec C i j)=mu O P C (O.length-1-i) (cvec C i j) (img O C (mu O P C (O.length-1-i)) i (cvec C j k))
 fix:img O C (mu O P C (O.length-1-i)) i (pvec P i)=pvec P i
 inn:∀j,i<j->j<O.length->mu O P C (O.length-1-i) (pvec P i) (iter (img O C (mu O P C (O.length-1-i)) i) (nx O i) (unit O j))=mu O P C (O.length-1-i) (unit O j) (pvec P i)
structure Beh(O:L3)(P:L4)(C:L5)(d:Nat):Prop where
 le:d<=O.length
 gp:Gp (TT O (O.length-d)) (mu O P C d) (zv O)
 nf:∀{x},TT O (O.length-d) x->Ph O (mu O P C d) (zv O) (unit O) d x=x
theorem ZC{x:L3}{i:Nat}(h:at_ x i=0)(hi:i<x.length):x.set i 0=x:=by
 refine Qi (by simp) λj hj=>?_;rw[at_set hi];split
 .rename_i e;subst e;exact h.symm
 .rfl
theorem zDG(x:L3)(i:Nat)(a b:Int):(x.set i a).set i b=x.set i b:=List.set_set ..
theorem zMI{x:L3}{i:Nat}(hi:i<x.length):(x.set i 0).set i (at_ x i)=x:=by
 rw[zDG];refine Qi (by simp) λj hj=>?_;rw[at_set hi];split
 .rename_i e;subst e;rfl
 .rfl
section
variable{d i:Nat}
abbrev al(O:L3)(P:L4)(C:L5)(d i:Nat):L3->L3:=img O C (mu O P C d) i
theorem al_ph(s:Shp O P C)(B:Beh O P C d)(hi:O.length-d=i+1)(x:L3):al O P C d i x=Ph O (mu O P C d) (zv O) (cvec C i) d x:=by
 have hle:=B.le;have hs:∀j,i+1<=j->j<i+1+d->TT O (O.length-d) (cvec C i j):=λj h1 h2=>by rw[hi];exact s.cj i j (by omega) (by omega)
 have e:O.length-1-i=d:=by omega
 show fo _ _ _ _ _ _=ph _ _ _ _ _ _;rw[e,B.gp.fo_eq hs B.gp.one,B.gp.l1 (B.gp.ph hs),hi]
theorem al_zv(s:Shp O P C)(B:Beh O P C d)(hi:O.length-d=i+1):al O P C d i (zv O)=zv O:=by rw[al_ph s B hi,Ph_zv B.gp.toMon]
theorem zRy(s:Shp O P C)(B:Beh O P C d)(hi:O.length-d=i+1)(L:Lv O P C i):Rel O P C (TT O (O.length-d)) (mu O P C d) (zv O) (cvec C i) (i+1):=by
 have hle:=B.le;have e:O.length-1-i=d:=by omega
 have hs:∀j,i+1<=j->j<O.length->TT O (O.length-d) (cvec C i j):=λj h1 h2=>by rw[hi];exact s.cj i j (by omega) h2
 have sk:∀{j:Nat} {x:L3},i<j->j<O.length->TT O (j+1) x->al O P C d i x=Ph O (mu O P C d) (zv O) (cvec C i) (O.length-(j+1)) x:=λ{j x} h1 h2 hx=>by
  rw[al_ph s B hi];show ph _ _ _ _ _ _=ph _ _ _ _ _ _
  have:=B.gp.toMon.ph_skip (h:=cvec C i) (x:=nx x) (d:=O.length-(j+1)) (k:=j-i) (t:=i+1) (λt a b=>by show(at_ x t).toNat=0;rw[hx.zero t (by omega)];rfl) (λt a b=>hs t (by omega) (by omega))
  rw[show j-i+(O.length-(j+1))=d by omega,show i+1+(j-i)=O.length-(O.length-(j+1)) by omega]at this;rw[hi];exact this
 refine⟨hs,λj h1 h2=>?_,λj k h1 h2 h3=>?_⟩
 .have:=L.pow j (by omega) h2
  rw[e]at this;rw[this];exact sk (by omega) h2 (s.pw j h2)
 .have:=L.cj j k (by omega) h2 h3
  rw[e]at this;rw[this];congr 1;exact sk (by omega) (by omega) (s.cj j k h2 h3)
theorem al_in(s:Shp O P C)(B:Beh O P C d)(hi:O.length-d=i+1)(x:L3):TT O (O.length-d) (al O P C d i x):=by
 rw[hi];exact zBk s (by rw[<-hi];exactλa b h1 h2=>B.gp.cl h1 h2) x
theorem zSM(s:Shp O P C)(B:Beh O P C d)(hi:O.length-d=i+1)(L:Lv O P C i){a b:L3}(ha:TT O (O.length-d) a)(hb:TT O (O.length-d) b):al O P C d i (mu O P C d a b)=mu O P C d (al O P C d i a) (al O P C d i b):=by
 rw[al_ph s B hi,al_ph s B hi,al_ph s B hi];exact dyck s B.gp.toMon (zRy s B hi L) (by have:=B.le;omega) ha hb
theorem it_in(s:Shp O P C)(B:Beh O P C d)(hi:O.length-d=i+1)(k:Nat){x:L3}(hx:TT O (O.length-d) x):TT O (O.length-d) (iter (al O P C d i) k x):=zBO (λa _=>al_in s B hi a) k hx
theorem zIE(s:Shp O P C)(B:Beh O P C d)(hi:O.length-d=i+1)(L:Lv O P C i):∀(k:Nat) {a b:L3},TT O (O.length-d) a->TT O (O.length-d) b->iter (al O P C d i) k (mu O P C d a b)=mu O P C d (iter (al O P C d i) k a) (iter (al O P C d i) k b)
 |0,a,b,ha,hb=>rfl
 |k+1,a,b,ha,hb=>by
  show iter _ k (al O P C d i _)=_;rw[zSM s B hi L ha hb,zIE s B hi L k (al_in s B hi a) (al_in s B hi b)];rfl
theorem zDY{f:L3->L3}{w:L3}(h:f w=w):∀k,iter f k w=w
 |0=>rfl
 |k+1=>by show iter f k (f w)=w;rw[h];exact zDY h k
theorem zQt(s:Shp O P C)(B:Beh O P C d)(hi:O.length-d=i+1)(L:Lv O P C i){x:L3}(hx:TT O (O.length-d) x):mu O P C d (pvec P i) (iter (al O P C d i) (nx O i) x)=mu O P C d x (pvec P i):=by
 have hle:=B.le;have aI:i<O.length:=by omega
 have e:O.length-1-i=d:=by omega
 have hw:TT O (O.length-d) (pvec P i):=by rw[hi];exact s.pw i aI
 have M:=B.gp.toMon
 have:=M.ph_ind (Q:=λx=>mu O P C d (pvec P i) (iter (al O P C d i) (nx O i) x)=mu O P C d x (pvec P i)) ?_ ?_ (h:=unit O) (x:=nx x) (d:=d) (t:=O.length-d) λj h1 h2=>⟨s.unit (by omega) h1,?_⟩
 .have nf:=B.nf hx;rw[show Ph O (mu O P C d) (zv O) (unit O) d x=ph (mu O P C d) (zv O) (unit O) (nx x) (O.length-d) d from rfl]at nf;rw[nf]at this;exact this
 .rw[zDY (al_zv s B hi),M.r1 hw,M.l1 hw]
 .intro a b ha hb h1 h2;rw[zIE s B hi L _ ha hb,<-M.as hw (it_in s B hi _ ha) (it_in s B hi _ hb),h1,M.as ha hw (it_in s B hi _ hb),h2,<-M.as ha hb hw]
 .have:=L.inn j (by omega) (by omega)
  rw[e]at this;exact this
theorem zDw(s:Shp O P C)(B:Beh O P C d)(hi:O.length-d=i+1){a b:Int}{x y:L3}(hx:TT O (O.length-d) x)(hy:TT O (O.length-d) y):
  mu O P C (d+1) (x.set i a) (y.set i b)=if a+b ≥ at_ O i then(mu O P C d (pvec P i) (mu O P C d (iter (al O P C d i) b.toNat x) y)).set i (a+b-at_ O i)else(mu O P C d (iter (al O P C d i) b.toNat x) y).set i (a+b):=by
 have hle:=B.le;have aI:i<O.length:=by omega
 have h0:O.length-(d+1)=i:=by omega
 have xl:i<x.length:=by rw[hx.len];exact aI
 have yl:i<y.length:=by rw[hy.len];exact aI
 have zx:at_ x i=0:=hx.zero i (by omega);have zy:at_ y i=0:=hy.zero i (by omega);simp only[mu,h0];rw[zDG,zDG,ZC zx xl,ZC zy yl];have e1:at_ (x.set i a) i=a:=by rw[at_set xl,if_pos rfl]
 have e2:at_ (y.set i b) i=b:=by rw[at_set yl,if_pos rfl]
 show(if at_ (x.set i a) i+at_ (y.set i b) i ≥ _ then _ else _)=_
 have e3:nx (y.set i b) i=b.toNat:=by show(at_ _ i).toNat=_;rw[e2]
 rw[e1,e2,e3]
theorem pair(h:i<O.length){t:Nat}{x:L3}(hx:TT O i x)(aD:0<at_ O i):∃y a,TT O (i+1) y/\x=y.set i a/\0<=a/\a<at_ O i:=
 ⟨x.set i 0,at_ x i,hx.set0 h aD,(zMI (by rw[hx.len];exact h)).symm,(hx.bd i h).1,(hx.bd i h).2⟩
theorem zPb(s:Shp O P C)(B:Beh O P C d)(hi:O.length-d=i+1)(L:Lv O P C i):Beh O P C (d+1):=by
 have hle:=B.le;have aI:i<O.length:=by omega
 have h0:O.length-(d+1)=i:=by omega
 have e:O.length-1-i=d:=by omega
 have aD:=s.pos aI;have hw:TT O (O.length-d) (pvec P i):=by rw[hi];exact s.pw i aI
 have M:=B.gp.toMon;have mp:=λ{a b:Int} {x y:L3} (hx:TT O (O.length-d) x) (hy:TT O (O.length-d) y)=>zDw s B hi (a:=a) (b:=b) hx hy;have ii:=λ(k:Nat) {x:L3} (hx:TT O (O.length-d) x)=>it_in s B hi k hx;have im:=λ(k:Nat) {x y:L3} (hx:TT O (O.length-d) x) (hy:TT O (O.length-d) y)=>zIE s B hi L k hx hy;have iw:∀k,iter (al O P C d i) k (pvec P i)=pvec P i:=λk=>zDY (by have:=L.fix;rw[e]at this;exact this) k;have iz:∀k,iter (al O P C d i) k (zv O)=zv O:=λk=>zDY (al_zv s B hi) k;have pr:∀{x:L3},TT O i x->∃y a,TT O (O.length-d) y/\x=y.set i a/\0<=a/\a<at_ O i:=λhx=>by rw[hi];exact pair aI (t:=0) hx aD
 have zs:zv O=(zv O).set i 0:=(ZC (ZF _ i) (by simp;exact aI)).symm;have hz:TT O (O.length-d) (zv O):=s.zv _;have l1:∀{a:L3},TT O i a->mu O P C (d+1) (zv O) a=a:=λ{a} ha=>by
  obtain⟨x,a,hx,rfl,b1,b2⟩:=pr ha;rw[zs,mp hz hx,if_neg (by omega),iz,M.l1 hx,Int.zero_add]
 have r1:∀{a:L3},TT O i a->mu O P C (d+1) a (zv O)=a:=λ{a} ha=>by
  obtain⟨x,a,hx,rfl,b1,b2⟩:=pr ha
  conv=>lhs;rw[zs]
  rw[mp hx hz,if_neg (by omega),Int.add_zero]
  show(mu O P C d x (zv O)).set i a=_
  rw[M.r1 hx]
 have cl:∀{a b:L3},TT O i a->TT O i b->TT O i (mu O P C (d+1) a b):=λ{a b} ha hb=>by
  have:=mu_tt s (d:=d+1) (by omega) (by rw[h0];exact ha) (by rw[h0];exact hb)
  rwa[h0]at this
 have xi:∀{a b c:L3},TT O i a->TT O i b->TT O i c->mu O P C (d+1) (mu O P C (d+1) a b) c=mu O P C (d+1) a (mu O P C (d+1) b c):=λ{a b c} ha hb hc=>by
  obtain⟨x,a,hx,rfl,a1,a2⟩:=pr ha;obtain⟨y,b,hy,rfl,b1,b2⟩:=pr hb;obtain⟨z,c,cU,rfl,c1,c2⟩:=pr hc;have A:=ii b.toNat hx;have Bc:=ii c.toNat hy;have AB:=M.cl A hy;have BZ:=M.cl Bc cU;have kO:=λ{u:L3} (hu:TT O (O.length-d) u)=>zQt s B hi L hu;have ic:iter (al O P C d i) c.toNat (iter (al O P C d i) b.toNat x)=iter (al O P C d i) (b.toNat+c.toNat) x:=(zEo _ _ _ _).symm;have X:=ii (b.toNat+c.toNat) hx;rw[mp hx hy,mp hy cU];by_cases h1:a+b ≥ at_ O i
  .rw[if_pos h1,mp (M.cl hw AB) cU,im _ hw AB,iw,im _ A hy,ic];by_cases h2:b+c ≥ at_ O i
   .rw[if_pos h2,mp hx (M.cl hw BZ)];have hk:(b+c-at_ O i).toNat+nx O i=b.toNat+c.toNat:=by show _+(at_ O i).toNat=_;omega
    have hX:=kO (ii (b+c-at_ O i).toNat hx);rw[<-zEo,hk]at hX;have e5:mu O P C d (iter (al O P C d i) (b+c-at_ O i).toNat x) (mu O P C d (pvec P i) (mu O P C d (iter (al O P C d i) c.toNat y) z))=mu O P C d (mu O P C d (pvec P i) (mu O P C d (iter (al O P C d i) (b.toNat+c.toNat) x) (iter (al O P C d i) c.toNat y))) z:=by
     rw[<-M.as (ii _ hx) hw BZ,<-hX,M.as hw X BZ,<-M.as X Bc cU,<-M.as hw (M.cl X Bc) cU]
    rw[e5];by_cases h3:a+b-at_ O i+c ≥ at_ O i
    .rw[if_pos h3,if_pos (by omega)];congr 1;omega
    .rw[if_neg h3,if_neg (by omega)];congr 1;omega
   .rw[if_neg h2,mp hx BZ,if_neg (by omega),if_pos (by omega),show(b+c).toNat=b.toNat+c.toNat by omega];rw[<-M.as X Bc cU,<-M.as hw (M.cl X Bc) cU];congr 1;omega
  .rw[if_neg h1,mp AB cU,im _ A hy,ic];by_cases h2:b+c ≥ at_ O i
   .rw[if_pos h2,mp hx (M.cl hw BZ),if_pos (by omega),if_neg (by omega)];have hk:(b+c-at_ O i).toNat+nx O i=b.toNat+c.toNat:=by show _+(at_ O i).toNat=_;omega
    have hX:=kO (ii (b+c-at_ O i).toNat hx);rw[<-zEo,hk]at hX;rw[<-M.as (ii _ hx) hw BZ,<-hX,M.as hw X BZ,<-M.as X Bc cU];congr 1;omega
   .rw[if_neg h2,mp hx BZ,show(b+c).toNat=b.toNat+c.toNat by omega,<-M.as X Bc cU];by_cases h3:a+b+c ≥ at_ O i
    .rw[if_pos h3,if_pos (by omega)];congr 1;omega
    .rw[if_neg h3,if_neg (by omega)];congr 1;omega
 have Mn:Mon (TT O (O.length-(d+1))) (mu O P C (d+1)) (zv O):=by
  rw[h0];exact⟨s.zv _,cl,xi,l1,r1⟩
 refine⟨by omega,Gp.of_right Mn ?_,?_⟩
 .rw[h0];intro a ha;obtain⟨x,a,hx,rfl,a1,a2⟩:=pr ha;by_cases Co:a=0
  .subst Co;obtain⟨y,hy,h1,_⟩:=B.gp.inv hx;refine⟨y.set i 0,(hy.mono (by omega)).set aI (vM _) ⟨by omega,aD⟩,?_⟩;rw[mp hx hy,if_neg (by omega)]
   show(mu O P C d x y).set i _=_
   rw[h1,Int.add_zero];exact zs.symm
  .obtain⟨y,hy,h1,_⟩:=B.gp.inv (M.cl hw (ii (at_ O i-a).toNat hx));refine⟨y.set i (at_ O i-a),(hy.mono (by omega)).set aI (vM _) ⟨by omega,by omega⟩,?_⟩;rw[mp hx hy,if_pos (by omega),<-M.as hw (ii _ hx) hy,h1,show a+(at_ O i-a)-at_ O i=0 by omega];exact zs.symm
 .rw[h0];intro x hx;obtain⟨y,a,hy,rfl,a1,a2⟩:=pr hx;have yl:i<y.length:=by rw[hy.len];exact aI
  have hu:∀k:Nat,(k:Int)<at_ O i->pw (mu O P C (d+1)) (zv O) (unit O i) k=(zv O).set i k:=by
   intro k
   induction k with
   |zero=>intro _;exact zs
   |succ k ih=>
    intro hk;show mu O P C (d+1) (pw _ _ _ k) (unit O i)=_;rw[ih (by omega),mp hz hz,if_neg (by omega)]
    show(mu O P C d (al O P C d i (zv O)) (zv O)).set i _=_
    rw[al_zv s B hi,M.l1 hz];congr 1
  have sub:∀{u v:L3},TT O (O.length-d) u->TT O (O.length-d) v->mu O P C (d+1) u v=mu O P C d u v:=λ{u v} hu hv=>by
   have ul:i<u.length:=by rw[hu.len];exact aI
   have vl:i<v.length:=by rw[hv.len];exact aI
   have h3:=mp (a:=0) (b:=0) hu hv;rw[ZC (hu.zero i (by omega)) ul,ZC (hv.zero i (by omega)) vl,if_neg (by omega)]at h3;rw[h3];have o7:=M.cl hu hv;exact ZC (o7.zero i (by omega)) (by show i<(mu O P C d u v).length;rw[o7.len];exact aI)
  have yX:∀{u:L3},TT O (O.length-d) u->∀k,pw (mu O P C (d+1)) (zv O) u k=pw (mu O P C d) (zv O) u k:=λ{u} hu k=>by
   induction k with
   |zero=>rfl
   |succ k ih=>show mu O P C (d+1) (pw _ _ u k) u=mu O P C d (pw _ _ u k) u;rw[ih,sub (M.pw hu k) hu]
  have y6:∀(c t:Nat),O.length-d<=t->t+c<=O.length->ph (mu O P C (d+1)) (zv O) (unit O) (nx (y.set i a)) t c=ph (mu O P C d) (zv O) (unit O) (nx y) t c:=by
   intro c
   induction c with
   |zero=>intro t _ _;rfl
   |succ c ih=>
    intro t h1 h2;have xK:TT O (O.length-d) (unit O t):=s.unit (by omega) h1;have eZ:nx (y.set i a) t=nx y t:=by show(at_ _ t).toNat=(at_ y t).toNat;rw[at_set yl,if_neg (by omega)]
    rw[ph,ph,ih (t+1) (by omega) (by omega),yX xK,eZ,sub (M.pw xK _) (M.ph λj g1 g2=>s.unit (by omega) (by omega))]
  rw[zKp (by omega),h0,show Ph O (mu O P C (d+1)) (zv O) (unit O) d (y.set i a)=Ph O (mu O P C d) (zv O) (unit O) d y from y6 d _ (vM _) (by omega),B.nf hy];have eZ:nx (y.set i a) i=a.toNat:=by show(at_ _ i).toNat=_;rw[at_set yl,if_pos rfl]
  have ys:y=y.set i 0:=(ZC (hy.zero i (by omega)) yl).symm;rw[eZ,hu _ (by omega)]
  conv=>lhs;rw[ys]
  rw[mp hz hy,if_neg (by omega)]
  show(mu O P C d (zv O) y).set i _=_
  rw[M.l1 hy];congr 1;omega
theorem zPa(s:Shp O P C):Beh O P C 0:=by
 have h0:∀{x:L3},TT O (O.length-0) x->x=zv O:=λ{x} hx=>hx.ext (s.zv _) λj h1 h2=>by omega
 refine⟨Nat.zero_le _,⟨⟨s.zv _,λ_ _=>s.zv _,λ_ _ _=>rfl,λh=>(h0 h).symm,λh=>(h0 h).symm⟩,λh=>⟨zv O,s.zv _,rfl,rfl⟩⟩,λh=>(h0 h).symm⟩
end
def Cons(O:L3)(P:L4)(C:L5):Prop:=∀i,i<O.length->Lv O P C i
end Go.Grp
namespace Go.Grp
open Go.Ab Go.Lie
variable{O:L3}{P:L4}{C:L5}{α:Type}{S:α->Prop}{m:α->α->α}{e:α}{h:Nat->α}{d i:Nat}
theorem zGM(s:Shp O P C)(hd:d+1<=O.length){u v:L3}(hu:TT O (O.length-d) u)(hv:TT O (O.length-d) v):mu O P C (d+1) u v=mu O P C d u v:=by
 have aI:O.length-(d+1)<O.length:=by omega
 have zu:=hu.zero (O.length-(d+1)) (by omega);have tv:=hv.zero (O.length-(d+1)) (by omega);have o7:=mu_tt s (by omega:d<=O.length) hu hv;have hp:=s.pos aI;simp only[mu];rw[ZC zu (by rw[hu.len];exact aI),ZC tv (by rw[hv.len];exact aI),zu,tv,if_neg (by omega)]
 have:nx v (O.length-(d+1))=0:=by show(at_ v _).toNat=0;rw[tv];rfl
 rw[this];exact ZC (o7.zero _ (by omega)) (by show _<(mu O P C d u v).length;rw[o7.len];exact aI)
theorem zNG(s:Shp O P C):∀{k:Nat},d+k<=O.length->∀{u v:L3},TT O (O.length-d) u->TT O (O.length-d) v->mu O P C (d+k) u v=mu O P C d u v
 |0,_,u,v,_,_=>rfl
 |k+1,hk,u,v,hu,hv=>by
  rw[show d+(k+1)=(d+k)+1 by omega,zGM s (by omega) (hu.mono (by omega)) (hv.mono (by omega)),zNG s (by omega) hu hv]
theorem zHg{m':α->α->α}(h:∀a b,S a->S b->m' a b=m a b)(M:Mon S m e){x:α}(hx:S x):∀k,pw m' e x k=pw m e x k
 |0=>rfl
 |k+1=>by show m' (pw m' e x k) x=m (pw m e x k) x;rw[zHg h M hx k,h _ _ (M.pw hx k) hx]
theorem zFP{m':α->α->α}(h:∀a b,S a->S b->m' a b=m a b)(M:Mon S m e){f:Nat->α}{x:Nat->Nat}:∀{c t:Nat},(∀j,t<=j->j<t+c->S (f j))->ph m' e f x t c=ph m e f x t c
 |0,t,_=>rfl
 |c+1,t,hf=>by
  have ht:=hf t (vM _) (by omega);have i:=zFP h M (f:=f) (x:=x) (c:=c) (t:=t+1) λj a b=>hf j (by omega) (by omega);rw[ph,ph,i,zHg h M ht];exact h _ _ (M.pw ht _) (M.ph λj a b=>hf j (by omega) (by omega))
theorem zRR{m:L3->L3->L3}(M:Mon (TT O (O.length-d)) m (zv O))(s:Shp O P C){f:Nat->L3}(hf:∀j,O.length-d<=j->j<O.length->TT O (O.length-d) (f j))(hd:d<=O.length){k:Nat}(h1:O.length-d<=k)(h2:k<O.length):Ph O m (zv O) f d (unit O k)=f k:=by
 have:∀(c t:Nat),O.length-d<=t->t+c=O.length->ph m (zv O) f (nx (unit O k)) t c=if t<=k then f k else zv O:=by
  intro c
  induction c with
  |zero=>intro t g1 g2;rw[ph,if_neg (by omega)]
  |succ c ih=>
   intro t g1 g2;have hn:nx (unit O k) t=if t=k then 1 else 0:=by
    show(at_ ((zv O).set k 1) t).toNat=_
    rw[at_set (by simp;exact h2)];split
    .rfl
    .rw[ZF];rfl
   rw[ph,ih (t+1) (by omega) (by omega),hn];have ft:=hf t g1 (by omega);by_cases e:t=k
   .subst e;rw[if_pos rfl,if_neg (by omega),if_pos (vM _),M.pw_one ft,M.r1 ft]
   .rw[if_neg e];show m (zv O) _=_;by_cases g:t<=k
    .rw[if_pos (by omega),if_pos g,M.l1 (hf k h1 h2)]
    .rw[if_neg (by omega),if_neg g,M.l1 M.one]
 have:=this d (O.length-d) (vM _) (by omega)
 rw[if_pos h1]at this;exact this
structure Full(O:L3)(P:L4)(C:L5)(d:Nat):Prop extends Beh O P C d where
 rel:Rel O P C (TT O (O.length-d)) (mu O P C d) (zv O) (unit O) (O.length-d)
theorem zNe(s:Shp O P C):Full O P C 0:=⟨zPa s,⟨λj h1 h2=>s.unit h2 h1,λj h1 h2=>by omega,λj k h1 h2 h3=>by omega⟩⟩
theorem zNf(s:Shp O P C)(B:Full O P C d)(hi:O.length-d=i+1)(L:Lv O P C i):Full O P C (d+1):=by
 have hle:=B.le;have aI:i<O.length:=by omega
 have h0:O.length-(d+1)=i:=by omega
 have B1:=zPb s B.toBeh hi L;refine⟨B1,?_⟩;have M:=B.gp.toMon;have aD:=s.pos aI;have hz:TT O (O.length-d) (zv O):=s.zv _;have hw:TT O (O.length-d) (pvec P i):=by rw[hi];exact s.pw i aI
 have sub:∀a b,TT O (O.length-d) a->TT O (O.length-d) b->mu O P C (d+1) a b=mu O P C d a b:=λa b ha hb=>zGM s (by omega) ha hb;have un:∀j,O.length-d<=j->j<O.length->TT O (O.length-d) (unit O j):=λj h1 h2=>s.unit h2 h1;have mp:=λ{a b:Int} {x y:L3} (hx:TT O (O.length-d) x) (hy:TT O (O.length-d) y)=>zDw s B.toBeh hi (a:=a) (b:=b) hx hy;have zs:zv O=(zv O).set i 0:=(ZC (ZF _ i) (by simp;exact aI)).symm;have nfx:∀{j:Nat} {x:L3},i<=j->j<O.length->TT O (j+1) x->Ph O (mu O P C (d+1)) (zv O) (unit O) (O.length-(j+1)) x=x:=λ{j x} h1 h2 hx=>by
  have hn:=B.nf (hx.mono (by omega:O.length-d<=j+1));have e1:Ph O (mu O P C (d+1)) (zv O) (unit O) (O.length-(j+1)) x=Ph O (mu O P C d) (zv O) (unit O) (O.length-(j+1)) x:=zFP sub M λk a b=>un k (by omega) (by omega);rw[e1]
  have:=M.ph_skip (h:=unit O) (x:=nx x) (d:=O.length-(j+1)) (k:=j-i) (t:=O.length-d) (λt a b=>by show(at_ x t).toNat=0;rw[hx.zero t (by omega)];rfl) (λt a b=>un t (by omega) (by omega))
  rw[show j-i+(O.length-(j+1))=d by omega,show O.length-d+(j-i)=O.length-(O.length-(j+1)) by omega]at this;show ph _ _ _ _ _ _=x;rw[<-this];exact hn
 rw[h0];refine⟨λj h1 h2=>s.unit h2 h1,λj h1 h2=>?_,λj k h1 h2 h3=>?_⟩
 .rw[nfx h1 h2 (s.pw j h2)];by_cases e:j=i
  .subst e;have hu:∀k:Nat,(k:Int)<at_ O j->pw (mu O P C (d+1)) (zv O) (unit O j) k=(zv O).set j k:=by
    intro k
    induction k with
    |zero=>intro _;exact zs
    |succ k ih=>
     intro hk;show mu O P C (d+1) (pw _ _ _ k) (unit O j)=_;rw[ih (by omega),mp hz hz,if_neg (by omega)]
     show(mu O P C d (al O P C d j (zv O)) (zv O)).set j _=_
     rw[al_zv s B.toBeh hi,M.l1 hz];congr 1
   obtain⟨o,ho⟩:∃o:Nat,nx O j=o+1:=⟨nx O j-1,by show(at_ O j).toNat=_;have:nx O j=(at_ O j).toNat:=rfl;omega⟩
   have Da:at_ O j=(o:Int)+1:=by have:nx O j=(at_ O j).toNat:=rfl;omega
   rw[ho];show mu O P C (d+1) (pw _ _ _ o) (unit O j)=_;rw[hu o (by omega),mp hz hz,if_pos (by omega)]
   show(mu O P C d (pvec P j) (mu O P C d (al O P C d j (zv O)) (zv O))).set j _=_
   rw[al_zv s B.toBeh hi,M.l1 hz,M.r1 hw,show(o:Int)+1-at_ O j=0 by omega];exact ZC (hw.zero j (by omega)) (by rw[hw.len];exact aI)
  .rw[zHg sub M (un j (by omega) h2),B.rel.pow j (by omega) h2];have hn:=nfx h1 h2 (s.pw j h2);have e1:Ph O (mu O P C (d+1)) (zv O) (unit O) (O.length-(j+1)) (pvec P j)=Ph O (mu O P C d) (zv O) (unit O) (O.length-(j+1)) (pvec P j):=zFP sub M λk a b=>un k (by omega) (by omega);rw[<-e1];exact hn
 .rw[nfx h1 (by omega) (s.cj j k h2 h3)];by_cases e:j=i
  .subst e;have hc:TT O (O.length-d) (cvec C j k):=by rw[hi];exact s.cj j k h2 h3
   have uk:=un k (by omega) h3;have zu:=uk.zero j (by omega);have zc:=hc.zero j (by omega);have e1:mu O P C (d+1) (unit O k) (unit O j)=(cvec C j k).set j 1:=by
    have:=mp (a:=0) (b:=1) uk hz
    rw[ZC zu (by rw[uk.len];exact aI),if_neg (by have:=(s.pr j aI).1;omega)]at this;rw[this]
    show(mu O P C d (al O P C d j (unit O k)) (zv O)).set j _=_
    rw[al_ph s B.toBeh hi,zRR M s (λq a b=>by rw[hi];exact s.cj j q (by omega) b) hle (by omega) h3,M.r1 hc];congr 1
   have e2:mu O P C (d+1) (unit O j) (cvec C j k)=(cvec C j k).set j 1:=by
    have:=mp (a:=1) (b:=0) hz hc
    rw[ZC zc (by rw[hc.len];exact aI),if_neg (by have:=(s.pr j aI).1;omega)]at this;rw[this]
    show(mu O P C d (zv O) (cvec C j k)).set j _=_
    rw[M.l1 hc];congr 1
   rw[e1,e2]
  .have Bz:TT O (O.length-d) (cvec C j k):=(s.cj j k h2 h3).mono (by omega);have hn:=nfx h1 (by omega) (s.cj j k h2 h3);have e1:Ph O (mu O P C (d+1)) (zv O) (unit O) (O.length-(j+1)) (cvec C j k)=Ph O (mu O P C d) (zv O) (unit O) (O.length-(j+1)) (cvec C j k):=zFP sub M λk a b=>un k (by omega) (by omega);rw[e1]at hn
   have:=B.rel.cj j k (by omega) h2 h3
   rw[hn]at this;rw[sub _ _ (un k (by omega) h3) (un j (by omega) (by omega)),sub _ _ (un j (by omega) (by omega)) Bz];exact this
theorem full_of(s:Shp O P C):∀{d:Nat},d<=O.length->(∀i,O.length-d<=i->i<O.length->Lv O P C i)->Full O P C d
 |0,_,_=>zNe s
 |d+1,hd,h=>zNf s (full_of s (by omega) λi h1 h2=>h i (by omega) h2) (by omega) (h (O.length-(d+1)) (vM _) (by omega))
theorem Mon.ph_app(M:Mon S m e){f:Nat->α}{x:Nat->Nat}{b:Nat}:∀{a t:Nat},(∀j,t<=j->j<t+a+b->S (f j))->Grp.ph m e f x t (a+b)=m (Grp.ph m e f x t a) (Grp.ph m e f x (t+a) b)
 |0,t,hf=>by
  rw[Nat.zero_add,Nat.add_zero];exact(M.l1 (M.ph λj h1 h2=>hf j (by omega) (by omega))).symm
 |a+1,t,hf=>by
  have ft:=hf t (vM _) (by omega);rw[show a+1+b=(a+b)+1 by omega,Grp.ph,Grp.ph,M.ph_app λj h1 h2=>hf j (by omega) (by omega),show t+(a+1)=t+1+a by omega,M.as (M.pw ft _) (M.ph λj h1 h2=>hf j (by omega) (by omega)) (M.ph λj h1 h2=>hf j (by omega) (by omega))]
def hdz(x:L3)(j:Nat):L3:=x.take (j+1)++List.replicate (x.length-(j+1)) 0
theorem zD0(x:L3)(j:Nat):(hdz x j).length=x.length:=by simp[hdz];omega
theorem zCV(x:L3)(j k:Nat):at_ (hdz x j) k=if k<=j then at_ x k else 0:=by
 simp only[hdz,at_,List.getD_eq_getElem?_getD];by_cases hk:k<=j
 .rw[if_pos hk];by_cases hl:k<x.length
  .rw[List.getElem?_append_left (by simp;omega),List.getElem?_take,if_pos (by omega)]
  .rw[List.getElem?_eq_none (by simp;omega),List.getElem?_eq_none (by omega)]
 .rw[if_neg hk];by_cases hl:k<x.length
  .rw[List.getElem?_append_right (by simp;omega),List.getElem?_replicate];split<;>rfl
  .rw[List.getElem?_eq_none (by simp;omega)];rfl
theorem zIJ{t j:Nat}{x:L3}(hx:TT O t x)(hO:∀j,j<O.length->0<at_ O j):TT O t (hdz x j):=by
 refine⟨by rw[zD0,hx.len],λk hk=>?_,λk hk=>?_⟩
 .rw[zCV];split
  .exact hx.bd k hk
  .exact⟨by omega,hO k hk⟩
 .rw[zCV];split
  .exact hx.zero k hk
  .rfl
def tstep(O:L3)(P:L4)(C:L5)(m:L3->L3->L3)(x:L3)(j:Nat):L3:=
 fo m (cvec C j) (nx x) (j+1) (O.length-1-j) (if at_ x j+1=at_ O j then m ((hdz x j).set j 0) (pvec P j)else(hdz x j).set j (at_ x j+1))
theorem zN8(s:Shp O P C)(B:Full O P C d){x:L3}(hx:TT O (O.length-d) x){j:Nat}(h1:O.length-d<=j)(h2:j<O.length):tstep O P C (mu O P C d) x j=mu O P C d x (unit O j):=by
 have hle:=B.le;have M:=B.gp.toMon;have aD:=s.pos h2;have bx:=hx.bd j h2;have un:∀k,O.length-d<=k->k<O.length->TT O (O.length-d) (unit O k):=λk a b=>s.unit b a;have cv:∀k,j+1<=k->k<O.length->TT O (O.length-d) (cvec C j k):=λk a b=>(s.cj j k (by omega) b).mono (by omega);have eY:TT O (O.length-d) (pvec P j):=(s.pw j h2).mono (by omega);have uj:=un j h1 h2;have jl:j<(hdz x j).length:=by rw[zD0,hx.len];exact h2
 -- mn head, mn mj lK, mn rest
 let H:=ph (mu O P C d) (zv O) (unit O) (nx x) (O.length-d) (j-(O.length-d))
 have hH:TT O (O.length-d) H:=M.ph λk a b=>un k (by omega) (by omega);have xr:∀{y:L3},(∀k,k<j->at_ y k=at_ x k)->TT O (O.length-d) y->y=mu O P C d H (mu O P C d (pw (mu O P C d) (zv O) (unit O j) (nx y j)) (ph (mu O P C d) (zv O) (unit O) (nx y) (j+1) (O.length-1-j))):=λ{y} hy ht=>by
  have e1:=B.nf ht;have e2:Ph O (mu O P C d) (zv O) (unit O) d y=mu O P C d (ph (mu O P C d) (zv O) (unit O) (nx y) (O.length-d) (j-(O.length-d))) (ph (mu O P C d) (zv O) (unit O) (nx y) j (O.length-1-j+1)):=by
   have:=M.ph_app (f:=unit O) (x:=nx y) (a:=j-(O.length-d)) (b:=O.length-1-j+1) (t:=O.length-d) λk a b=>un k (by omega) (by omega)
   rw[show j-(O.length-d)+(O.length-1-j+1)=d by omega,show O.length-d+(j-(O.length-d))=j by omega]at this;exact this
  have e3:ph (mu O P C d) (zv O) (unit O) (nx y) (O.length-d) (j-(O.length-d))=H:=zCp λk a b=>⟨rfl,by show(at_ y k).toNat=(at_ x k).toNat;rw[hy k (by omega)]⟩
  rw[e3]at e2;exact e1.symm.trans e2
 have ow:∀{y:L3},(∀k,j<k->at_ y k=0)->ph (mu O P C d) (zv O) (unit O) (nx y) (j+1) (O.length-1-j)=zv O:=λ{y} hy=>by
  have e1:ph (mu O P C d) (zv O) (unit O) (nx y) (j+1) (O.length-1-j)=ph (mu O P C d) (zv O) (unit O) (nx (zv O)) (j+1) (O.length-1-j):=zCp λk a b=>⟨rfl,by show(at_ y k).toNat=(at_ (zv O) k).toNat;rw[hy k (by omega),ZF]⟩
  rw[e1]
  have:=Ph_zv (O:=O) (h:=unit O) M (O.length-1-j)
  show ph _ _ _ _ _ _=_;rw[show j+1=O.length-(O.length-1-j) by omega];exact this
 let R:=ph (mu O P C d) (zv O) (unit O) (nx x) (j+1) (O.length-1-j)
 let R':=ph (mu O P C d) (zv O) (cvec C j) (nx x) (j+1) (O.length-1-j)
 have hR:TT O (O.length-d) R:=M.ph λk a b=>un k (by omega) (by omega);have ns:TT O (O.length-d) R':=M.ph λk a b=>cv k a (by omega);have kO:mu O P C d R (unit O j)=mu O P C d (unit O j) R':=M.past_ph uj λk a b=>⟨un k (by omega) (by omega),cv k a (by omega),by
  have:=B.rel.cj j k h1 (by omega) (by omega)
  have zj:Ph O (mu O P C d) (zv O) (unit O) (O.length-(j+1)) (cvec C j k)=cvec C j k:=by
   have hc:=s.cj j k (by omega) (by omega);have hn:=B.nf (cv k a (by omega));have h3:=M.ph_skip (h:=unit O) (x:=nx (cvec C j k)) (d:=O.length-(j+1)) (k:=j+1-(O.length-d)) (t:=O.length-d) (λt a b=>by show(at_ _ t).toNat=0;rw[hc.zero t (by omega)];rfl) (λt a b=>un t (by omega) (by omega));rw[show j+1-(O.length-d)+(O.length-(j+1))=d by omega,show O.length-d+(j+1-(O.length-d))=O.length-(O.length-(j+1)) by omega]at h3;show ph _ _ _ _ _ _=_;rw[<-h3];exact hn
  rw[zj]at this;exact this⟩
 have pj:pw (mu O P C d) (zv O) (unit O j) (nx O j)=pvec P j:=by
  rw[B.rel.pow j h1 h2];have hc:=s.pw j h2;have hn:=B.nf eY;have h3:=M.ph_skip (h:=unit O) (x:=nx (pvec P j)) (d:=O.length-(j+1)) (k:=j+1-(O.length-d)) (t:=O.length-d) (λt a b=>by show(at_ _ t).toNat=0;rw[hc.zero t (by omega)];rfl) (λt a b=>un t (by omega) (by omega));rw[show j+1-(O.length-d)+(O.length-(j+1))=d by omega,show O.length-d+(j+1-(O.length-d))=O.length-(O.length-(j+1)) by omega]at h3;show ph _ _ _ _ _ _=_;rw[<-h3];exact hn
 have nE:∀k,TT O (O.length-d) (pw (mu O P C d) (zv O) (unit O j) k):=λk=>M.pw uj k
 -- both xu D1 H g^(e+1) R'
 have rhs:mu O P C d x (unit O j)=mu O P C d (mu O P C d H (pw (mu O P C d) (zv O) (unit O j) (nx x j+1))) R':=by
  conv=>lhs;rw[xr (λ_ _=>rfl) hx]
  rw[M.as hH (M.cl (nE _) hR) uj,M.as (nE _) hR uj,kO,<-M.as (nE _) uj ns,M.as hH (nE (nx x j+1)) ns];rfl
 have vY:∀{c:Int},0<=c->c<at_ O j->(hdz x j).set j c=mu O P C d H (pw (mu O P C d) (zv O) (unit O j) c.toNat):=λ{c} c0 c1=>by
  have ht:TT O (O.length-d) ((hdz x j).set j c):=(zIJ hx λk hk=>s.pos hk).set h2 h1 ⟨c0,c1⟩;have hs:=xr (y:=(hdz x j).set j c) (λk hk=>by rw[at_set jl,if_neg (by omega),zCV,if_pos (by omega)]) ht;rw[ow λk hk=>by rw[at_set jl,if_neg (by omega),zCV,if_neg (by omega)],M.r1 (nE _)]at hs;rw[hs];congr 2
  show(at_ _ j).toNat=_
  rw[at_set jl,if_pos rfl]
 have lhs:(if at_ x j+1=at_ O j then mu O P C d ((hdz x j).set j 0) (pvec P j)else(hdz x j).set j (at_ x j+1))=mu O P C d H (pw (mu O P C d) (zv O) (unit O j) (nx x j+1)):=by
  split
  .rename_i hc;rw[vY (Int.le_refl _) aD,<-pj,show nx O j=nx x j+1 by show(at_ O j).toNat=(at_ x j).toNat+1;omega];show mu O P C d (mu O P C d H (zv O)) _=_;rw[M.r1 hH]
  .rw[vY (by omega) (by omega),show(at_ x j+1).toNat=nx x j+1 by show _=(at_ x j).toNat+1;omega]
 rw[tstep,lhs,rhs];exact M.fo_eq (λk a b=>cv k a (by omega)) (M.cl hH (nE _))
end Go.Grp
namespace Go.Grp
end Go.Grp
namespace Go.Proofs
open Go.Ab Go.Lie Go.Grp
variable{U:PHeap}{K:PV->PHeap->Prop}{O:L3}{P:L4}{C:L5}{vO vP vC vx:PV}{s:Nat}{x:L3}
structure IsPr(vO vP vC:PV)(O:L3)(P:L4)(C:L5):Prop where
 O:FI vO O
 P:FII vP P
 C:FIII vC C
structure SzP(O:L3)(P:L4)(C:L5):Prop where
 O:O.length<=1048576
 P:SzL P
 C:SzM C
structure PtrG(U:PHeap)(s:Nat)(vO vP vC:PV):Prop where
 obj:U.obj s=some [vO,vP,vC]
 lt:s<U.next
theorem PtrG.new(h:PtrG U s vO vP vC)(cs:List PV):PtrG (U.new cs) s vO vP vC:=⟨by have:=h.lt;simp only[Z3,seval,-ae,Nat.ne_of_lt this];exact h.obj,by have:=h.lt;simp only[Z3,seval,-ae];omega⟩
theorem PtrG.set(h:PtrG U s vO vP vC){t:Nat}(ht:s≠t)(cs:List PV):PtrG (U.set t cs) s vO vP vC:=⟨by simp only[Z3,seval,-ae,ht];exact h.obj,h.lt⟩
theorem PtrG.keep{h:PHeap}(hs:PtrG U s vO vP vC)(hk:Keep U h):PtrG h s vO vP vC:=⟨by rw[hk.obj s hs.lt];exact hs.obj,Nat.lt_of_lt_of_le hs.lt hk.next⟩
def isExp(O x:L3):Prop:=x.length=O.length/\∀j,j<x.length->0<=at_ x j/\at_ x j<=at_ O j-1
def Q4(O:L3)(t:Nat)(x:L3):Prop:=isExp O x/\isZ (x.take t)
def prodL:L3->Int
 |[]=>1
 |o::O=>o*prodL O
def rowPr(O:L3)(P:L4)(C:L5)(i:Nat):Prop:=Q4 O (i+1) (P.getD i [])/\(C.getD i []).length=O.length-1-i/\∀k,k<(C.getD i []).length->Q4 O (i+1) ((C.getD i []).getD k [])
def QB(O:L3)(P:L4)(C:L5):Prop:=
 O.length<=6/\P.length=O.length/\C.length=O.length/\(∀o∈O,isP o)/\prodL O<=729/\∀i,i<O.length->rowPr O P C i
theorem Q4.tt{t:Nat}(h:Q4 O t x):TT O t x:=by
 refine⟨h.1.1,λj hj=>by have:=h.1.2 j (by rw[h.1.1];exact hj);omega,λj hj=>?_⟩;rcases Nat.lt_or_ge j x.length with e|e
 .rw[at_eq e];exact h.2 _ (by rw[List.mem_take_iff_getElem];exact⟨j,by omega,rfl⟩)
 .exact at_ge e
theorem QB.shp(h:QB O P C):Shp O P C:=by
 obtain⟨h1,h2,h3,h4,h5,h6⟩:=h;refine⟨h1,λj hj=>?_,h2,h3,λi hi=>(h6 i hi).1.tt,λi hi=>(h6 i hi).2.1,λi j jT hj=>?_⟩
 .rw[at_eq hj];exact(h4 _ (List.getElem_mem hj)).bd
 .have:=(h6 i (by omega)).2.2 (j-i-1) (by rw[(h6 i (by omega)).2.1];omega)
  exact this.tt
theorem zCS(hs:PtrG U s vO vP vC)(hO:FI vO O)(mq:O.length<=1048576)(bO:∀o∈O,isP o)(hx:FI vx x)(hb:x.length<=1048576)(hk:∀t:Bool,(t=true↔isExp O x)->K (.bool t) U):zA Tryz.prog 119 [.ptr s 0,vx] U K:=by
 have fl:∀{A:Prop},¬A->((false=true)↔A):=λh=>⟨λx=>(by cases x),λx=>absurd x h⟩
 obtain⟨wo,ao,rfl⟩:=hO;obtain⟨wx,ax,rfl⟩:=hx;have e0:U.rd1 s 0=some (.fz wo ao O.length (pis O)):=by rw[zG hs.obj];rfl
 refine zB mix Tryz.func119 ?_
 conv=>arg 2;cbv
 refine zC rfl ?_;simp only[Z3,seval,-ae,e0];refine iteI (λhl=>?_) λhl=>?_;rotate_left
 .exact hk _ (fl λh=>hl (by rw[h.1]))
 have hl:x.length=O.length:=by omega
 refine zF (λm vs h'=>∃i:Nat,i<=x.length/\m=x.length-i/\vs=[.ptr s 0,.fz wx ax x.length (pis x),.int .i64 x.length,.int .i64 i]/\U=h'/\∀j,j<i->0<=at_ x j/\at_ x j<=at_ O j-1) x.length ?_ ?_
 .exact⟨0,by omega,by omega,rfl,rfl,λj hj=>by omega⟩
 rintro m vs h' ⟨i,hi,rfl,rfl,rfl,ah⟩
 simp only[Z3,seval,-ae];refine iteI (λag=>?_) λaF=>?_
 .have kj:i<O.length:=by omega
  have bo:=(bO _ (List.getElem_mem kj)).bd;simp only[Z3,seval,-ae,ag,kj,e0,gi ag,gi kj,zL,wrap64 (n:=O[i] - 1) (by omega) (by omega)];refine zGm ?_;by_cases e9:0<=x[i]/\x[i]<=O[i] - 1
  .simp only[Z3,seval,-ae,e9,wrapS ag (by omega:x.length<=4611686018427387904)];refine⟨_,by omega,i+1,by omega,rfl,rfl,λj hj=>?_⟩;by_cases e:j=i
   .subst e;rw[at_eq ag,at_eq kj];exact e9
   .exact ah j (by omega)
  .simp only[Z3,seval,-ae,e9];exact hk _ (fl λh=>e9 (by have:=h.2 i ag;rwa[at_eq ag,at_eq kj]at this))
 .exact hk _ ⟨λ_=>⟨hl,λj hj=>ah j (by omega)⟩,λ_=>rfl⟩
theorem zC2{i:Nat}(hs:PtrG U s vO vP vC)(hO:FI vO O)(mq:O.length<=1048576)(bO:∀o∈O,isP o)(hx:FI vx x)(hb:x.length<=1048576)(hi:i<O.length)(hk:∀t:Bool,(t=true↔Q4 O (i+1) x)->K (.bool t) U):zA Tryz.prog 212 [.ptr s 0,.int .i64 i,vx] U K:=by
 have fl:∀{A:Prop},¬A->((false=true)↔A):=λh=>⟨λx=>(by cases x),λx=>absurd x h⟩
 refine zB mix Tryz.func212 ?_
 conv=>arg 2;cbv
 refine zC rfl ?_;simp only[Z3,seval,-ae];refine zCS hs hO mq bO hx hb λt ht=>?_;cases t with
 |false=>
  simp only[Z3,seval,-ae];exact hk _ (fl λh=>by cases ht.2 h.1)
 |true=>
  have he:=ht.1 rfl;have hl:=he.1;obtain⟨wx,ax,rfl⟩:=hx;have jP:((i+1:Nat):Int)<=(x.length:Int):=by omega
  have m5:i+1<=x.length:=by omega
  simp only[Z3,seval,-ae,wrapS hi (by omega:O.length<=4611686018427387904),jP,m5,zEi,Nat.sub_zero];refine zAv (by simp;omega) (by simp;omega) ?_;by_cases hz:isZ (x.take (i+1))
  .simp only[Z3,seval,-ae,hz];exact hk _ ⟨λ_=>⟨he,hz⟩,λ_=>rfl⟩
  .simp only[Z3,seval,-ae,hz];exact hk _ (fl λh=>hz h.2)
theorem zBd:∀(a b:L3),prodL (a++b)=prodL a*prodL b
 |[],b=>by simp[prodL]
 |x::a,b=>by simp[prodL,zBd a b,Int.mul_assoc]
theorem zCm{i:Nat}(hi:i<O.length):prodL (O.take (i+1))=prodL (O.take i)*O[i]:=by
 rw[List.take_succ_eq_append_getElem hi,zBd];simp[prodL]
theorem zBx:∀{O:L3},(∀o∈O,isP o)->1<=prodL O
 |[],_=>by simp[prodL]
 |o::O,h=>by
  have h1:=(h o (by simp)).bd;have h2:=zBx (O:=O) λq hq=>h q (by simp[hq]);simp only[prodL]
  have:=Int.mul_le_mul h1.1 h2 (by omega) (by omega)
  omega
theorem zK6(h:∀o∈O,isP o)(i:Nat):prodL (O.take i)<=prodL O:=by
 have h1:=zBx λo ho=>h o (List.mem_of_mem_take (i:=i) ho);have h2:=zBx λo ho=>h o (List.mem_of_mem_drop (i:=i) ho)
 have:prodL O=prodL (O.take i)*prodL (O.drop i):=by rw[<-zBd,List.take_append_drop]
 have h3:=Int.mul_le_mul (Int.le_refl (prodL (O.take i))) h2 (by omega) (by omega);omega
theorem zEC(hR:IsPr vO vP vC O P C)(sz:SzP O P C)(hk:∀t:Bool,(t=true↔QB O P C)->K (.bool t) U):zA Tryz.prog 123 [.agg [vO,vP,vC]] U K:=by
 have yr:=hR.O;have yP:=sz.P;have xq:=sz.C;obtain⟨⟨w0,a0,rfl⟩,⟨w1,a1,rP,rfl,hP⟩,⟨w3,a3,rC,rfl,hC⟩⟩:=hR;refine zA.gh ?_;have fin:∀{t:Bool} {σ':PHeap},(t=true↔QB O P C)->Keep U σ'->Gh U K (.bool t) σ':=λh k=>Gh.fin0 k trivial (hk _ h);have no:∀{σ':PHeap},¬QB O P C->Keep U σ'->Gh U K (.bool false) σ':=λh k=>fin ⟨λx=>(by cases x),λx=>absurd x h⟩ k;have aq:=zD U [.fz w0 a0 O.length (pis O),.fz w1 a1 P.length rP,.fz w3 a3 C.length rC];have iK:PtrG (U.new [.fz w0 a0 O.length (pis O),.fz w1 a1 P.length rP,.fz w3 a3 C.length rC]) U.next (.fz w0 a0 O.length (pis O)) (.fz w1 a1 P.length rP) (.fz w3 a3 C.length rC):=⟨by simp only[Z3,seval,-ae],by simp only[Z3,seval,-ae]⟩
 refine zB mix Tryz.func123 ?_
 conv=>arg 2;cbv
 refine zC rfl ?_;simp only[Z3,seval,-ae];by_cases h6:O.length<=6;rotate_left
 .have iC:(6:Int)<(O.length:Int):=by omega
  simp only[Z3,seval,-ae,iC];exact no (λh=>h6 h.1) aq
 have iC:¬(6:Int)<(O.length:Int):=by omega
 by_cases yn:P.length=O.length;rotate_left
 .have lI:¬(P.length:Int)=(O.length:Int):=by omega
  simp only[Z3,seval,-ae,iC,lI];exact no (λh=>yn h.2.1) aq
 have lI:(P.length:Int)=(O.length:Int):=by omega
 by_cases yu:C.length=O.length;rotate_left
 .have nv:¬(C.length:Int)=(O.length:Int):=by omega
  simp only[Z3,seval,-ae,iC,eq_true lI,nv];exact no (λh=>yu h.2.2.1) aq
 have nv:(C.length:Int)=(O.length:Int):=by omega
 simp only[Z3,seval,-ae,iC,eq_true lI,eq_true nv];refine zF (λm vs h'=>∃i:Nat,i<=O.length/\m=O.length-i/\vs=[.ptr U.next 0,.int .i64 O.length,.int .i64 (prodL (O.take i)),.fz w0 a0 O.length (pis O),.int .i64 O.length,.int .i64 i]/\h'=U.new [.fz w0 a0 O.length (pis O),.fz w1 a1 P.length rP,.fz w3 a3 C.length rC]/\(∀o∈O.take i,isP o)/\prodL (O.take i)<=729) O.length ?_ ?_
 .exact⟨0,by omega,by omega,rfl,rfl,by simp,by simp[prodL]⟩
 rintro m vs h' ⟨i,hi,rfl,rfl,rfl,ah,cQ⟩
 simp only[Z3,seval,-ae];refine iteI (λag=>?_) λaF=>?_
 .simp only[Z3,seval,-ae,ag,gi ag,zL];refine zB9 ?_;by_cases hp:isP O[i];rotate_left
  .simp only[Z3,seval,-ae,hp];exact no (λh=>hp (h.2.2.2.1 _ (List.getElem_mem ag))) aq
  have jb:=hp.bd;have h1:=zBx ah;have x5:0<=prodL (O.take i)*O[i]:=Int.mul_nonneg (by omega) (by omega);have AO:=Int.mul_le_mul cQ jb.2 (by omega) (by omega);have hw:IntKind.i64.wrap (prodL (O.take i)*O[i])=prodL (O.take i)*O[i]:=wrap64 (by omega) (by omega);by_cases ho:prodL (O.take i)*O[i]<=729
  .have cn:¬(729:Int)<prodL (O.take i)*O[i]:=by omega
   simp only[Z3,seval,-ae,hp,hw,cn,ag,gi ag,zL,wrapS ag (by omega:O.length<=4611686018427387904)];refine⟨_,by omega,i+1,by omega,rfl,?_,zBl ag ah hp,?_⟩
   .rw[zCm ag]
   .rw[zCm ag];exact ho
  .have cn:(729:Int)<prodL (O.take i)*O[i]:=by omega
   simp only[Z3,seval,-ae,hp,hw,cn];refine no (λh=>?_) aq
   have:=zK6 h.2.2.2.1 (i+1)
   rw[zCm ag]at this
   have:=h.2.2.2.2.1
   omega
 have aJ:i=O.length:=by omega
 subst aJ;rw[List.take_length]at ah cQ;refine zF (λm vs h'=>∃i:Nat,i<=O.length/\m=O.length-i/\vs=[.ptr U.next 0,.int .i64 O.length,.int .i64 O.length,.int .i64 i]/\h'=U.new [.fz w0 a0 O.length (pis O),.fz w1 a1 P.length rP,.fz w3 a3 C.length rC]/\∀j,j<i->rowPr O P C j) O.length ?_ ?_
 .exact⟨0,by omega,by omega,rfl,rfl,λj hj=>by omega⟩
 rintro m vs h' ⟨i,hi,rfl,rfl,rfl,aQ⟩
 simp only[Z3,seval,-ae];refine iteI (λag=>?_) λaF=>?_;rotate_left
 .exact fin ⟨λ_=>⟨h6,yn,yu,ah,cQ,λj hj=>aQ j (by omega)⟩,λ_=>rfl⟩ aq
 have gL:i<P.length:=by omega
 have fE:i<C.length:=by omega
 obtain⟨w4,a4,hr⟩:=hP.rowI gL;obtain⟨w5,a5,rs,cu,dp⟩:=hC.rowL fE;have sJ:=yP.r _ (List.getElem_mem gL);have kH:=(xq.r _ (List.getElem_mem fE)).l;have bad:(Q4 O (i+1) P[i]->C[i].length=O.length-1-i->(∀k (h:k<C[i].length),Q4 O (i+1) C[i][k])->False)->¬QB O P C:=λhb fV=>by
  obtain⟨q1,q3,q4⟩:=fV.2.2.2.2.2 i ag;rw[ZE gL]at q1;rw[zX fE]at q3;refine hb q1 q3 λk h=>?_
  have:=q4 k (by rw[zX fE];exact h)
  rwa[zX fE,zX h]at this
 simp only[Z3,seval,-ae,gL,hr];refine zC2 iK yr sz.O ah ⟨_,_,rfl⟩ sJ ag λt ht=>?_;cases t with
 |false=>
  simp only[Z3,seval,-ae];exact no (bad λq _ _=>by cases ht.2 q) aq
 |true=>
 have hv:=ht.1 rfl;have e1:IntKind.i64.wrap ((O.length:Int)-1)=(O.length:Int)-1:=wrap64 (by omega) (by omega);have e2:IntKind.i64.wrap ((O.length:Int)-1-(i:Int))=(O.length:Int)-1-(i:Int):=wrap64 (by omega) (by omega);by_cases hlen:C[i].length=O.length-1-i;rotate_left
 .have cG:¬(C[i].length:Int)=(O.length:Int)-1-(i:Int):=by omega
  simp only[Z3,seval,-ae,ag,fE,cu,e1,e2,cG];exact no (bad λ_ q _=>hlen q) aq
 have cG:(C[i].length:Int)=(O.length:Int)-1-(i:Int):=by omega
 simp only[Z3,seval,-ae,ag,fE,cu,e1,e2,eq_true cG];refine zF (λm vs h'=>∃k:Nat,k<=C[i].length/\m=C[i].length-k/\vs=[.ptr U.next 0,.int .i64 O.length,.int .i64 i,.int .i64 O.length,.int .i64 i,.fz w5 a5 C[i].length rs,.int .i64 C[i].length,.int .i64 k]/\
  h'=U.new [.fz w0 a0 O.length (pis O),.fz w1 a1 P.length rP,.fz w3 a3 C.length rC]/\∀j (h:j<C[i].length),j<k->Q4 O (i+1) C[i][j]) C[i].length ?_ ?_
 .exact⟨0,by omega,by omega,rfl,rfl,λj h hj=>by omega⟩
 rintro m vs h' ⟨k,cL,rfl,rfl,rfl,bc⟩
 simp only[Z3,seval,-ae];refine iteI (λan=>?_) λaF=>?_
 .obtain⟨w6,a6,cb⟩:=dp.rowI an;have eB:=(xq.r _ (List.getElem_mem fE)).r _ (List.getElem_mem an);simp only[Z3,seval,-ae,an,cb];refine zC2 iK yr sz.O ah ⟨_,_,rfl⟩ eB ag λt ht=>?_;cases t with
  |false=>
   simp only[Z3,seval,-ae];exact no (bad λ_ _ q=>by cases ht.2 (q k an)) aq
  |true=>
   simp only[Z3,seval,-ae,wrapS an (by omega:C[i].length<=4611686018427387904)];refine⟨_,by omega,k+1,by omega,rfl,rfl,λj h hj=>?_⟩;by_cases e:j=k
   .subst e;exact ht.1 rfl
   .exact bc j h (by omega)
 .simp only[Z3,seval,-ae,wrapS ag (by omega:O.length<=4611686018427387904)];refine⟨_,by omega,i+1,by omega,rfl,rfl,λj hj=>?_⟩;by_cases e:j=i
  .subst e;refine⟨by rw[ZE gL];exact hv,by rw[zX fE];exact hlen,λt ht=>?_⟩;rw[zX fE]at ht ⊢;rw[zX ht];exact bc t ht (by omega)
  .exact aQ j (by omega)
theorem zFd{t:Nat}{z:Int}(hz:z=(t:Int)-1)(ht:t<=O.length)(hO:FI vO O)(mq:O.length<=1048576)(bO:∀o∈O,isP o)(hx:FI vx x)(hb:x.length<=1048576)(hk:∀b:Bool,(b=true↔Q4 O t x)->K (.bool b) U):zA Tryz.prog 218 [vO,vx,.int .i64 z] U K:=by
 have fl:∀{A:Prop},¬A->((false=true)↔A):=λh=>⟨λx=>(by cases x),λx=>absurd x h⟩
 obtain⟨wo,ao,rfl⟩:=hO;obtain⟨wx,ax,rfl⟩:=hx;subst hz;refine zP mix Tryz.func218 cf218 rfl ?_;dsimp only[if218,qD,eD,mI0,kI0,tI0,bI0,cI0,sI0,mD0,lD0,xD0,I0,G0,gm0,R0,S0];simp only[Z3,seval,-ae];refine iteI (λhl=>?_) λhl=>?_;rotate_left
 .exact hk _ (fl λh=>hl (by rw[h.1.1]))
 have hl:x.length=O.length:=by omega
 refine zF (λm vs h'=>∃i:Nat,i<=x.length/\m=x.length-i/\vs=[.fz wo ao O.length (pis O),.fz wx ax x.length (pis x),.int .i64 ((t:Int)-1),.int .i64 i]/\U=h'/\∀j,j<i->(0<=at_ x j/\at_ x j<=at_ O j-1)/\(j<t->at_ x j=0)) x.length ?_ ?_
 .exact⟨0,by omega,by omega,rfl,rfl,λj hj=>by omega⟩
 rintro m vs h' ⟨i,hi,rfl,rfl,rfl,ah⟩
 simp only[Z3,seval,-ae];refine iteI (λag=>?_) λaF=>?_;rotate_left
 .refine hk _ ⟨λ_=>⟨⟨hl,λj hj=>(ah j (by omega)).1⟩,λy hy=>?_⟩,λ_=>rfl⟩;rw[List.mem_take_iff_getElem]at hy;obtain⟨j,hj,rfl⟩:=hy
  have:=(ah j (by omega)).2 (by omega)
  rwa[at_eq (by omega)]at this
 have kj:i<O.length:=by omega
 have bo:=(bO _ (List.getElem_mem kj)).bd;simp only[Z3,seval,-ae,ag,kj,gi ag,gi kj,zL,wrap64 (n:=O[i] - 1) (by omega) (by omega)];refine zIA ?_;by_cases e9:0<=x[i]/\x[i]<=O[i] - 1;rotate_left
 .simp only[Z3,seval,-ae,e9];exact hk _ (fl λh=>e9 (by have:=h.1.2 i ag;rwa[at_eq ag,at_eq kj]at this))
 have next:(i<t->x[i]=0)->∃n',n'<x.length-i/\∃i':Nat,i'<=x.length/\n'=x.length-i'/\[PV.fz wo ao O.length (pis O),.fz wx ax x.length (pis x),.int .i64 ((t:Int)-1),.int .i64 ((i+1:Nat):Int)]=[.fz wo ao O.length (pis O),.fz wx ax x.length (pis x),.int .i64 ((t:Int)-1),.int .i64 i']/\∀j,j<i'->(0<=at_ x j/\at_ x j<=at_ O j-1)/\(j<t->at_ x j=0):=λh0=>by
  refine⟨_,by omega,i+1,by omega,rfl,rfl,λj hj=>?_⟩;by_cases e:j=i
  .subst e;rw[at_eq ag,at_eq kj];exact⟨e9,h0⟩
  .exact ah j (by omega)
 by_cases hle:(i:Int)<=(t:Int)-1
 .simp only[Z3,seval,-ae,e9,hle,ag,gi ag,zL];refine iteI (λh0=>?_) λh0=>?_
  .simp only[Z3,seval,-ae,wrapS ag (by omega:x.length<=4611686018427387904)];exact next λ_=>h0
  .refine hk _ (fl λh=>h0 ?_);exact h.2 _ (by rw[List.mem_take_iff_getElem];exact⟨i,by omega,rfl⟩)
 .simp only[Z3,seval,-ae,e9,hle,ag,wrapS ag (by omega:x.length<=4611686018427387904)];exact next λh=>absurd h (by omega)
variable{rP rC:List PV}
theorem pisAt{i:Nat}(h:i<x.length):(pis x)[i]? = some (.int .i64 (at_ x i)):=by rw[zL,gi h,at_eq h];rfl
theorem pvRow(s:Shp O P C)(hP:All2 FI rP P){i:Nat}(hi:i<O.length):∃w a,rP[i]? = some (.fz w a O.length (pis (pvec P i))):=by
 have gL:i<P.length:=by rw[s.pl];exact hi
 obtain⟨w,a,h⟩:=hP.rowI gL;refine⟨w,a,?_⟩;have e:pvec P i=P[i]:=ZE gL;rw[h,e,show P[i].length=O.length by rw[<-e];exact(s.pw i hi).len]
theorem cvRow(s:Shp O P C)(hC:All2 FII rC C){i:Nat}(hi:i<O.length):∃w a rs,rC[i]? = some (.fz w a (O.length-1-i) rs)/\∀q,q<O.length-1-i->∃w' a',rs[q]? = some (.fz w' a' O.length (pis (cvec C i (i+(1+q))))):=by
 have fE:i<C.length:=by rw[s.cl];exact hi
 obtain⟨w,a,rs,h,dp⟩:=hC.rowL fE;have e:C.getD i []=C[i]:=zX fE;have hl:C[i].length=O.length-1-i:=by rw[<-e];exact s.row i hi
 refine⟨w,a,rs,by rw[h,hl],λq hq=>?_⟩;have cJ:q<C[i].length:=by omega
 obtain⟨w',a',h'⟩:=dp.rowI cJ;have e2:cvec C i (i+(1+q))=C[i][q]:=by
  show(C.getD i []).getD (i+(1+q)-i-1) []=_
  rw[e,show i+(1+q)-i-1=q by omega];exact ZE cJ
 exact⟨w',a',by rw[h',e2,show C[i][q].length=O.length by rw[<-e2];exact(s.cj i _ (by omega) (by omega)).len]⟩
theorem FI.mk{w:Bool}{a:AV}{n:Nat}(h:x.length=n):FI (.fz w a n (pis x)) x:=⟨w,a,by rw[h]⟩
def AtOK(O:L3)(P:L4)(C:L5)(d i:Nat):Prop:=
 ∀{U:PHeap} {K:PV->PHeap->Prop} {a b:L3} {va vb vO vP vC:PV},IsPr vO vP vC O P C->TT O i a->TT O i b->FI va a->FI vb b->(∀v,FI v (mu O P C d a b)->K v U)->zA Tryz.prog 219 [.agg [vO,vP,vC],.int .i64 i,va,vb] U K
theorem zJs(s:Shp O P C){d i:Nat}(hi:O.length=d+(i+1))(jw:AtOK O P C d (i+1))(hR:IsPr vO vP vC O P C)(hx:TT O 0 x)(aY:FI vx x)(hk:∀v,FI v (Grp.img O C (mu O P C d) i x)->K v U):
  zA Tryz.prog 291 [.agg [vO,vP,vC],.int .i64 i,vx] U K:=by
 have aW:=s.le;have aH:=hR;have hl:=hx.len;have aI:i<O.length:=by omega
 have hm:∀a b,TT O (i+1) a->TT O (i+1) b->TT O (i+1) (mu O P C d a b):=λa b ha hb=>by
  have:=mu_tt s (d:=d) (a:=a) (b:=b) (by omega) (by rwa[show O.length-d=i+1 by omega]) (by rwa[show O.length-d=i+1 by omega])
  rwa[show O.length-d=i+1 by omega]at this
 obtain⟨⟨w0,a0,rfl⟩,⟨w1,a1,rP,rfl,hP⟩,⟨w3,a3,rC,rfl,hC⟩⟩:=hR;obtain⟨w5,a5,rs,cu,dp⟩:=cvRow s hC aI;have fE:i<C.length:=by rw[s.cl];exact aI
 obtain⟨wx,ax,rfl⟩:=aY;rw[hl];refine zA.gh ?_;refine zP mix Tryz.func291 cf291 rfl ?_;dsimp only[if291,eI,qD,eD,mI0,kI0,lI0,fI0,xI0,bI0,cI0,sI0,mD0,lD0,fD0,xD0,I0,zI0,R0,S0];simp only[Z3,seval,-ae,List.length_replicate,ZV,mk8 (n:=O.length) (by omega),mkL (n:=O.length) (by omega),wrapS aI (by omega:O.length<=4611686018427387904)];have aq:Keep U (((U.new [.fz w0 a0 O.length (pis O),.fz w1 a1 P.length rP,.fz w3 a3 C.length rC]).new (pis (zv O))).kill (U.next+1)):=((zD U _).new _).kill (by omega);refine zAY (λm vs h'=>∃(q:Nat) (vo:PV) (A:L3),q<=d/\m=d-q/\vs=[.int .i64 i,.fz wx ax O.length (pis x),.ptr U.next 0,.int .i64 O.length,vo,.int .i64 ((i+(1+q):Nat):Int)]/\
  h'=((U.new [.fz w0 a0 O.length (pis O),.fz w1 a1 P.length rP,.fz w3 a3 C.length rC]).new (pis (zv O))).kill (U.next+1)/\FI vo A/\TT O (i+1) A/\fo (mu O P C d) (cvec C i) (nx x) (i+(1+q)) (d-q) A=Grp.img O C (mu O P C d) i x) d ?_ ?_
 .refine .fz (U.next+1) (pis (zv O)) (by simp only[Z3,seval,-ae]) (zO _ _) λo1=>.here ?_;refine⟨0,.fz true (.sl o1 0 O.length (.known O.length)) O.length (pis (zv O)),zv O,by omega,by omega,?_,rfl,FI.mk (by simp),s.zv _,?_⟩
  .simp only[Z3,seval,-ae];simp only[sbs,sb,capOK,vM,decide_true,and_self,if_true]
  .show _=fo _ _ _ (i+1) (O.length-1-i) (zv O);rw[show O.length-1-i=d by omega];rfl
 rintro m vs h' ⟨q,vo,A,hq,rfl,rfl,rfl,jB,hA,bj⟩
 simp only[Z3,seval,-ae];refine iteI (λag=>?_) λaF=>?_;rotate_left
 .have sS:q=d:=by omega
  subst sS;rw[Nat.sub_self]at bj
  have:A=Grp.img O C (mu O P C q) i x:=bj
  rw[<-this]at hk;exact Gh.fin0 aq (jB.bel _) (hk _ jB)
 have sS:q<d:=by omega
 have fv:i+(1+q)<x.length:=by omega
 have bx:=hx.bd (i+(1+q)) (by omega);have bO:=s.pr (i+(1+q)) (by omega);obtain⟨w6,a6,cb⟩:=dp q (by omega);have m7:q<O.length-1-i:=by omega
 have bW:=s.cj i (i+(1+q)) (by omega) (by omega);have e3:IntKind.i64.wrap (((i+(1+q):Nat):Int)-(i:Int))=((1+q:Nat):Int):=by rw[wrap64 (by omega) (by omega)];omega
 have e4:IntKind.i64.wrap (((1+q:Nat):Int)-1)=(q:Int):=by rw[wrap64 (by omega) (by omega)];omega
 have e5:IntKind.i64.wrap (((i+(1+q):Nat):Int)+1)=((i+(1+(q+1)):Nat):Int):=by rw[wrap64 (by omega) (by omega)];omega
 rw[show d-q=(d-q-1)+1 by omega]at bj;refine zF (λm vs h'=>∃(k:Nat) (vo:PV) (A:L3),k<=nx x (i+(1+q))/\m=nx x (i+(1+q))-k/\vs=[.int .i64 i,.fz wx ax O.length (pis x),.ptr U.next 0,.int .i64 O.length,vo,.int .i64 ((i+(1+q):Nat):Int),.int .i64 k]/\
  h'=((U.new [.fz w0 a0 O.length (pis O),.fz w1 a1 P.length rP,.fz w3 a3 C.length rC]).new (pis (zv O))).kill (U.next+1)/\FI vo A/\TT O (i+1) A/\fo (mu O P C d) (cvec C i) (nx x) (i+(1+q)+1) (d-q-1) (rep (mu O P C d) (cvec C i (i+(1+q))) (nx x (i+(1+q))-k) A)=Grp.img O C (mu O P C d) i x) (nx x (i+(1+q))) ?_ ?_
 .exact⟨0,vo,A,by omega,by omega,rfl,rfl,jB,hA,bj⟩
 rintro m vs h' ⟨k,vo,A,cw,rfl,rfl,rfl,jB,hA,bj⟩
 have eZ:((nx x (i+(1+q)):Nat):Int)=at_ x (i+(1+q)):=Int.toNat_of_nonneg bx.1;simp only[Z3,seval,-ae,pisAt fv,fv,hl ▸ fv];refine iteI (λan=>?_) λiq=>?_
 .have be:k<nx x (i+(1+q)):=by omega
  simp only[Z3,seval,-ae,wrapS aI (by omega:O.length<=4611686018427387904),fE,cu,e3,e4,m7,cb];refine jw aH hA bW jB (FI.mk bW.len) λv hv=>?_;simp only[Z3,seval,-ae,wrapS be (by omega:nx x (i+(1+q))<=4611686018427387904)];refine⟨_,by omega,k+1,v,_,by omega,rfl,rfl,hv,hm _ _ hA bW,?_⟩;rw[show nx x (i+(1+q))-k=(nx x (i+(1+q))-(k+1))+1 by omega]at bj;exact bj
 .have fI:k=nx x (i+(1+q)):=by omega
  subst fI;simp only[Z3,seval,-ae,e5];refine⟨d-(q+1),by omega,.here ⟨q+1,vo,A,by omega,rfl,rfl,rfl,jB,hA,?_⟩⟩;rw[Nat.sub_self]at bj;rw[show d-(q+1)=d-q-1 by omega];exact bj
theorem zBj(s:Shp O P C):∀{d i:Nat},O.length=d+i->AtOK O P C d i
 |0,i,hi=>by
  rename_i U K a b va vb vO vP vC;intro hR ha hb fe dy hk;have aW:=s.le;obtain⟨⟨w0,a0,rfl⟩,⟨w1,a1,rP,rfl,hP⟩,⟨w3,a3,rC,rfl,hC⟩⟩:=hR;refine zA.gh ?_;have aF:(O.length:Int)<=(i:Int):=by omega
  refine zP mix Tryz.func219 cf219 rfl ?_;dsimp only[if219,eI,nI,qD,eD,mI0,kI0,lI0,LI0,fI0,xI0,bI0,cI0,sI0,C1,C3,mD0,lD0,fD0,xD0,I0,zI0,vI0,R0,S0];simp only[Z3,seval,-ae,aF,List.length_replicate,ZV,mk8 (n:=O.length) (by omega),mkL (n:=O.length) (by omega)];exact Gh.finF (s:=U.next+1) ((zD U _).new _) (by simp only[Z3,seval,-ae];rfl) (by omega) (zO _ _) (by simp[capOK]) λo1=>hk _ (FI.mk (by simp[mu]))
 |d+1,i,hi=>by
  rename_i U K a b va vb vO vP vC;intro hR ha hb fe dy hk;have jw:AtOK O P C d (i+1):=zBj s (by omega);have aW:=s.le;have aH:=hR;have aI:i<O.length:=by omega
  have hO:=s.pr i aI;have cM:=ha.len;have kH:=hb.len;have ba:=ha.bd i aI;have bb:=hb.bd i aI;have aD:=s.pos aI;have Cl:O.length-(d+1)=i:=by omega
  have hm:∀a b,TT O (i+1) a->TT O (i+1) b->TT O (i+1) (mu O P C d a b):=λa b ha hb=>by
   have:=mu_tt s (d:=d) (a:=a) (b:=b) (by omega) (by rwa[show O.length-d=i+1 by omega]) (by rwa[show O.length-d=i+1 by omega])
   rwa[show O.length-d=i+1 by omega]at this
  obtain⟨⟨w0,a0,rfl⟩,⟨w1,a1,rP,rfl,hP⟩,⟨w3,a3,rC,rfl,hC⟩⟩:=hR;obtain⟨w5,a5,cQ⟩:=pvRow s hP aI;have gL:i<P.length:=by rw[s.pl];exact aI
  have eY:=s.pw i aI;obtain⟨wa,aa,rfl⟩:=fe;obtain⟨wb,ab,rfl⟩:=dy;have jS:i<a.length:=by omega
  have ie:i<b.length:=by omega
  have aF:¬(O.length:Int)<=(i:Int):=by omega
  have sa:=ha.set0 aI aD;have tF:=hb.set0 aI aD;have CM:=sa.len;have CL:=tF.len;refine zA.gh ?_;refine zP mix Tryz.func219 cf219 rfl ?_;dsimp only[if219,eI,nI,qD,eD,mI0,kI0,lI0,LI0,fI0,xI0,bI0,cI0,sI0,C1,C3,mD0,lD0,fD0,xD0,I0,zI0,vI0,R0,S0];simp only[Z3,seval,-ae,aF];refine QW rfl (by omega) λgd mb=>?_;simp only[Z3,seval,-ae];refine QW rfl (by omega) λgP iR=>?_;have g1:i<a.length/\i+1<=a.length:=⟨jS,jS⟩;have g2:i<b.length/\i+1<=b.length:=⟨ie,ie⟩;simp only[Z3,seval,-ae,g1.1,g1.2,g2.1,g2.2,zJ,qM jS,qM ie];refine zAY (λm vs h'=>∃(k:Nat) (vl vr:PV) (A:L3),k<=nx b i/\m=nx b i-k/\vs=[.int .i64 i,.fz wa aa a.length (pis a),.fz wb ab b.length (pis b),.ptr U.next 0,vl,vr,.int .i64 k]/\
   h'=((((U.new [.fz w0 a0 O.length (pis O),.fz w1 a1 P.length rP,.fz w3 a3 C.length rC]).new (pis (a.set i 0))).new (pis (b.set i 0))).kill (U.next+1)).kill (U.next+2)/\FI vl A/\FI vr (b.set i 0)/\TT O (i+1) A/\iter (Grp.img O C (mu O P C d) i) (nx b i-k) A=iter (Grp.img O C (mu O P C d) i) (nx b i) (a.set i 0)) (nx b i) ?_ ?_
  .refine .fz (U.next+1) (pis (a.set i 0)) (by simp only[Z3,seval,-ae]) (zO _ _) λo1=>.fz (U.next+2) (pis (b.set i 0)) (by simp only[Z3,seval,-ae]) (zO _ _) λo2=>.here ?_;refine⟨0,.fz true (.sl o1 0 a.length gd) a.length (pis (a.set i 0)),.fz true (.sl o2 0 b.length gP) b.length (pis (b.set i 0)),a.set i 0,by omega,by omega,?_,rfl,FI.mk (by simp),FI.mk (by simp),sa,rfl⟩;simp only[Z3,seval,-ae];have k1:=mb.ok;have k2:=iR.ok;have ai:¬(U.next+2=U.next+1):=by omega
   simp only[sbs,sb,k1,k2,ai,false_and,if_false,vM,decide_true,and_self,if_true];rfl
  rintro m vs h' ⟨k,vl,vr,A,cw,rfl,rfl,rfl,gA,xJ,hA,aZ⟩
  have eZ:((nx b i:Nat):Int)=at_ b i:=Int.toNat_of_nonneg bb.1;have yi:=mb.ok;simp only[Z3,seval,-ae,pisAt ie,ie];refine iteI (λag=>?_) λiq=>?_
  .have be:k<nx b i:=by omega
   simp only[Z3,seval,-ae];refine zJs s (by omega) jw aH (hA.mono (Nat.zero_le _)) gA λv hv=>?_;simp only[Z3,seval,-ae,wrapS be (by omega:nx b i<=4611686018427387904)];refine⟨nx b i-(k+1),by omega,.here ⟨k+1,v,vr,_,by omega,rfl,rfl,rfl,hv,xJ,zBk s hm _,?_⟩⟩;rw[show nx b i-k=(nx b i-(k+1))+1 by omega]at aZ;exact aZ
  have fI:k=nx b i:=by omega
  subst fI;rw[Nat.sub_self]at aZ;have wU:A=iter (Grp.img O C (mu O P C d) i) (nx b i) (a.set i 0):=aZ;subst wU;simp only[Z3,seval,-ae,wrapS aI (by omega:O.length<=4611686018427387904)];have ir:=hm _ _ hA tF;have Aj:=ir.len;refine jw aH hA tF gA xJ λv hv=>?_;have iU:IntKind.i64.wrap (at_ a i+at_ b i)=at_ a i+at_ b i:=wrap64 (by omega) (by omega);have vn:i<O.length:=aI;simp only[Z3,seval,-ae,pisAt jS,pisAt ie,jS,ie,pisAt aI,vn,iU];have xY:∀c e:L3,(if at_ a i+at_ b i ≥ at_ O i then(mu O P C d (pvec P i) (mu O P C d (iter (Grp.img O C (mu O P C d) i) (nx b i) (a.set i 0)) (b.set i 0))).set i (at_ a i+at_ b i-at_ O i)else(mu O P C d (iter (Grp.img O C (mu O P C d) i) (nx b i) (a.set i 0)) (b.set i 0)).set i (at_ a i+at_ b i))=mu O P C (d+1) a b:=λ_ _=>by
   simp only[mu,Cl]
  refine iteI (λjU=>?_) λbe=>?_
  .have c4:IntKind.i64.wrap (at_ a i+at_ b i-at_ O i)=at_ a i+at_ b i-at_ O i:=wrap64 (by omega) (by omega);have e:=xY a b;rw[if_pos jU]at e;simp only[Z3,seval,-ae,pisAt aI,vn,c4,wrapS aI (by omega:O.length<=4611686018427387904),gL,cQ];have lL:=hm _ _ eY ir;have mA:i<(mu O P C d (pvec P i) (mu O P C d (iter (Grp.img O C (mu O P C d) i) (nx b i) (a.set i 0)) (b.set i 0))).length:=by rw[lL.len];exact aI
   refine jw aH eY ir (FI.mk eY.len) hv λv2 bX=>?_;obtain⟨w7,a7,rfl⟩:=bX;simp only[Z3,seval,-ae,pisAt aI,vn,c4,wrapS aI (by omega:O.length<=4611686018427387904),gL,cQ];refine QW rfl (by have:=lL.len;omega) λiF lD=>?_;simp only[Z3,seval,-ae,mA,Nat.succ_le_of_lt mA,zJ,qM mA];rw[<-e]at hk;exact Gh.finF (s:=U.next+1+2) ((((((zD U _).new _).new _).kill (by omega)).kill (by omega)).new _) (by simp only[Z3,seval,-ae]) (by omega) (zO _ _) lD.ok λo1=>hk _ (FI.mk (by simp))
  .have e:=xY a b;rw[if_neg (by omega)]at e;have mz:i<(mu O P C d (iter (Grp.img O C (mu O P C d) i) (nx b i) (a.set i 0)) (b.set i 0)).length:=by rw[Aj];exact aI
   obtain⟨w7,a7,rfl⟩:=hv;simp only[Z3,seval,-ae];refine QW rfl (by omega) λiF lD=>?_;simp only[Z3,seval,-ae,mz,Nat.succ_le_of_lt mz,zJ,qM mz];rw[<-e]at hk;exact Gh.finF (s:=U.next+1+2) ((((((zD U _).new _).new _).kill (by omega)).kill (by omega)).new _) (by simp only[Z3,seval,-ae]) (by omega) (zO _ _) lD.ok λo1=>hk _ (FI.mk (by simp))
theorem pw_sq{α:Type}{S:α->Prop}{m:α->α->α}{e:α}(M:Mon S m e){x:α}(hx:S x):∀q,Grp.pw m e (m x x) q=Grp.pw m e x (q+q)
 |0=>rfl
 |q+1=>by
  rw[show q+1+(q+1)=(q+q)+1+1 by omega];show m (Grp.pw m e (m x x) q) (m x x)=m (m (Grp.pw m e x (q+q)) x) x;rw[pw_sq M hx q,M.as (M.pw hx _) hx hx]
theorem zRp{α:Type}{S:α->Prop}{m:α->α->α}{e:α}(M:Mon S m e){x:α}(hx:S x)(q:Nat):m x (Grp.pw m e (m x x) q)=Grp.pw m e x (q+q+1):=by
 rw[pw_sq M hx q];exact(M.pw_comm hx _).symm
theorem zDX(s:Shp O P C){d i:Nat}(hi:O.length=d+i)(jw:AtOK O P C d i)(M:Mon (TT O i) (mu O P C d) (zv O))(hR:IsPr vO vP vC O P C)(hx:TT O i x)(aY:FI vx x){k:Int}(df:0<=k/\k<=1000)
  (hk:∀v,FI v (pw (mu O P C d) (zv O) x k.toNat)->K v U):zA Tryz.prog 272 [.agg [vO,vP,vC],.int .i64 i,vx,.int .i64 k] U K:=by
 have aW:=s.le;have aH:=hR;obtain⟨kn,rfl⟩:∃kn:Nat,k=kn:=⟨k.toNat,by omega⟩
 obtain⟨⟨w0,a0,rfl⟩,⟨w1,a1,rP,rfl,hP⟩,⟨w3,a3,rC,rfl,hC⟩⟩:=hR;refine zA.gh ?_;refine zB mix Tryz.func272 ?_
 conv=>arg 2;cbv
 refine zC rfl ?_;simp only[Z3,seval,-ae,List.length_replicate,ZV,mk8 (n:=O.length) (by omega),mkL (n:=O.length) (by omega)];have aq:Keep U (((U.new [.fz w0 a0 O.length (pis O),.fz w1 a1 P.length rP,.fz w3 a3 C.length rC]).new (pis (zv O))).kill (U.next+1)):=((zD U _).new _).kill (by omega);refine zAY (λm vs h'=>∃(k:Nat) (vo vb:PV) (A b:L3),k<=1000/\m=k/\vs=[.int .i64 i,.int .i64 k,.ptr U.next 0,vo,vb]/\
  h'=((U.new [.fz w0 a0 O.length (pis O),.fz w1 a1 P.length rP,.fz w3 a3 C.length rC]).new (pis (zv O))).kill (U.next+1)/\FI vo A/\FI vb b/\TT O i A/\TT O i b/\mu O P C d A (pw (mu O P C d) (zv O) b k)=pw (mu O P C d) (zv O) x kn) kn ?_ ?_
 .refine .fz (U.next+1) (pis (zv O)) (by simp only[Z3,seval,-ae]) (zO _ _) λo1=>.here ?_;refine⟨kn,.fz true (.sl o1 0 O.length (.known O.length)) O.length (pis (zv O)),vx,zv O,x,by omega,rfl,?_,rfl,FI.mk (by simp),aY,s.zv _,hx,M.l1 (M.pw hx _)⟩;simp only[Z3,seval,-ae];simp only[sbs,sb,capOK,vM,decide_true,and_self,if_true,aY.sb]
 rintro m vs h' ⟨k,vo,vb,A,b,e7,rfl,rfl,rfl,jB,dy,hA,hb,hinv⟩
 simp only[Z3,seval,-ae];refine iteI (λBe=>?_) λhle=>?_;rotate_left
 .have mZ:m=0:=by omega
  subst mZ;rw[show pw (mu O P C d) (zv O) b 0=zv O from rfl,M.r1 hA]at hinv;rw[show((kn:Int)).toNat=kn from Int.toNat_natCast kn,<-hinv]at hk;exact Gh.fin0 aq (jB.bel _) (hk _ jB)
 have xM:Int.tmod (m:Int) 2=((m % 2:Nat):Int):=by rw[Int.tmod_eq_emod_of_nonneg (by omega)];rfl
 have sQ:Int.tdiv (m:Int) 2=((m / 2:Nat):Int):=by rw[Int.tdiv_eq_ediv_of_nonneg (by omega)];rfl
 have h2:¬((2:Int)=0):=by decide
 have xI:IntKind.i64.wrap ((m / 2:Nat):Int)=((m / 2:Nat):Int):=wrap64 (by omega) (by omega);have nJ:IntKind.i64.wrap ((m % 2:Nat):Int)=((m % 2:Nat):Int):=wrap64 (by omega) (by omega);have wD:=M.cl hb hb;by_cases ho:m % 2=1
 .have cn:((m % 2:Nat):Int)=1:=by omega
  simp only[Z3,seval,-ae,h2,xM,cn,eq_true cn];refine jw aH hA hb jB dy λv hv=>?_;simp only[Z3,seval,-ae];refine jw aH hb hb dy dy λv2 bX=>?_;simp only[Z3,seval,-ae,h2,sQ,xI];refine⟨m / 2,by omega,.here ⟨m / 2,v,v2,_,_,by omega,rfl,rfl,rfl,hv,bX,M.cl hA hb,wD,?_⟩⟩;rw[M.as hA hb (M.pw wD _),zRp M hb,show m / 2+m / 2+1=m by omega];exact hinv
 .have cn:¬((m % 2:Nat):Int)=1:=by omega
  simp only[Z3,seval,-ae,h2,xM,cn];refine jw aH hb hb dy dy λv2 bX=>?_;simp only[Z3,seval,-ae,h2,sQ,xI];refine⟨m / 2,by omega,.here ⟨m / 2,vo,v2,_,_,by omega,rfl,rfl,rfl,jB,bX,hA,wD,?_⟩⟩;rw[pw_sq M hb,show m / 2+m / 2=m by omega];exact hinv
variable{vf:PV}{y f:L3}{d:Nat}
theorem zPw{s off l:Nat}{cap:Cap}{ys:L3}(hs:s<U.next)(hr:U.rd s off l=some (pis ys))(hl:ys.length=l)(hb:l<=1048576)(hk:∀a,K (.fz true a l (pis ys)) U):zA Tryz.prog 206 [.sl s off l cap] U K:=by
 refine zA.gh ?_;have ai:¬s=U.next:=Nat.ne_of_lt hs;refine zB mix Tryz.func206 ?_
 conv=>arg 2;cbv
 refine zC rfl ?_;simp only[Z3,seval,-ae];refine PSl.app (b:=0) (news:=pis ys) (m:=l) (zD U _) (Nat.zero_le _) (PSl.new _ 1 rfl (vM _)) rfl (λh0=>?_) (by rw[zJ,hl,Nat.mul_one]) (by omega) (by omega) λv' h' k1 k2=>?_
 .rw[Qs];simp only[h0,if_false,vM,if_true,Nat.mul_one,zAd,ai];exact hr
 .simp only[Z3,seval,-ae]at k2 ⊢;exact k2.fin k1 (zO _ _) λo cap=>hk _
theorem zKb{α:Type}{m:α->α->α}{h:Nat->α}{x:Nat->Nat}{c:Nat}:∀{k t:Nat} {a:α},(∀j,t<=j->j<t+k->x j=0)->fo m h x t (k+c) a=fo m h x (t+k) c a
 |0,t,a,_=>by rw[Nat.zero_add,Nat.add_zero]
 |k+1,t,a,h0=>by
  rw[show k+1+c=(k+c)+1 by omega,fo,h0 t (vM _) (by omega)];show fo _ _ _ (t+1) (k+c) a=_;rw[zKb (λj h1 h2=>h0 j (by omega) (by omega)),show t+1+k=t+(k+1) by omega]
theorem zQ8(s:Shp O P C)(F:Full O P C d)(hx:TT O (O.length-d) x)(hf:TT O (O.length-d) f):fo (mu O P C d) (Grp.unit O) (nx f) 0 O.length x=mu O P C d x f:=by
 have hle:=F.le;have M:=F.gp.toMon;have h1:=zKb (m:=mu O P C d) (h:=Grp.unit O) (x:=nx f) (c:=d) (k:=O.length-d) (t:=0) (a:=x) λj _ h2=>by show(at_ f j).toNat=0;rw[hf.zero j (by omega)];rfl
 rw[show O.length-d+d=O.length by omega,Nat.zero_add]at h1;rw[h1,M.fo_eq (λj h1 h2=>s.unit (by omega) h1) hx];congr 1;exact F.nf hf
def TGok(O:L3)(P:L4)(C:L5)(d j:Nat):Prop:=
 ∀(U:PHeap) (K:PV->PHeap->Prop) (sp se:Nat) (cap:Cap) (x:L3) (vO vP vC:PV),PtrG U sp vO vP vC->IsPr vO vP vC O P C->U.obj se=some (pis x)->se<U.next->sp≠se->full 1 cap O.length->TT O (O.length-d) x->
  K (.tup []) (U.set se (pis (mu O P C d x (Grp.unit O j))))->zA Tryz.prog 286 [.ptr sp 0,.sl se 0 O.length cap,.int .i64 j] U K
theorem Qy(s:Shp O P C)(F:Full O P C d){t:Nat}(ht:O.length-d<=t)(rN:∀j,t<=j->j<O.length->TGok O P C d j){sp se:Nat}{cap:Cap}(hs:PtrG U sp vO vP vC)(hR:IsPr vO vP vC O P C)
  (he:U.obj se=some (pis x)) (lQ:se<U.next) (ai:sp≠se) (bQ:full 1 cap O.length) (hx:TT O (O.length-d) x) (hf:TT O t f) (oX:FI vf f) (hk:K (.tup []) (U.set se (pis (mu O P C d x f)))):zA Tryz.prog 215 [.ptr sp 0,.sl se 0 O.length cap,vf] U K:=by
 have aW:=s.le;have Dt:=hf.len;have M:=F.gp.toMon;obtain⟨wf,af,rfl⟩:=oX;refine zB mix Tryz.func215 ?_
 conv=>arg 2;cbv
 refine zC rfl ?_;simp only[Z3,seval,-ae];refine zF (λm vs h'=>∃(q:Nat) (y:L3),q<=O.length/\m=O.length-q/\vs=[.ptr sp 0,.sl se 0 O.length cap,.fz wf af f.length (pis f),.int .i64 f.length,.int .i64 q]/\h'=U.set se (pis y)/\TT O (O.length-d) y/\fo (mu O P C d) (Grp.unit O) (nx f) q (O.length-q) y=mu O P C d x f) O.length ?_ ?_
 .exact⟨0,x,by omega,by omega,rfl,(zEc he).symm,hx,zQ8 s F hx (hf.mono ht)⟩
 rintro m vs h' ⟨q,y,hq,rfl,rfl,rfl,hy,bj⟩
 simp only[Z3,seval,-ae];refine iteI (λag=>?_) λaF=>?_;rotate_left
 .have kD:q=O.length:=by omega
  subst kD;rw[Nat.sub_self]at bj;rw[<-bj]at hk;exact hk
 have sU:q<O.length:=by omega
 have bf:=hf.bd q sU;have bO:=s.pr q sU;have eZ:((nx f q:Nat):Int)=at_ f q:=Int.toNat_of_nonneg bf.1;rw[show O.length-q=(O.length-(q+1))+1 by omega]at bj;simp only[Z3,seval,-ae,pisAt ag,ag];refine zF (λm vs h'=>∃(k:Nat) (y:L3),k<=nx f q/\m=nx f q-k/\vs=[.ptr sp 0,.sl se 0 O.length cap,.int .i64 q,.fz wf af f.length (pis f),.int .i64 f.length,.int .i64 q,.int .i64 (at_ f q),.int .i64 k]/\h'=U.set se (pis y)/\TT O (O.length-d) y/\fo (mu O P C d) (Grp.unit O) (nx f) (q+1) (O.length-(q+1)) (rep (mu O P C d) (Grp.unit O q) (nx f q-k) y)=mu O P C d x f) (nx f q) ?_ ?_
 .exact⟨0,y,by omega,by omega,rfl,rfl,hy,bj⟩
 rintro m vs h' ⟨k,y,cw,rfl,rfl,rfl,hy,bj⟩
 simp only[Z3,seval,-ae];refine iteI (λan=>?_) λiq=>?_
 .have be:k<nx f q:=by omega
  have Au:t<=q:=by
   rcases Nat.lt_or_ge q t with h|h
   .have:=hf.zero q h;omega
   .exact h
  have hu:TT O (O.length-d) (Grp.unit O q):=s.unit sU (by omega);refine rN q Au sU _ _ sp se cap y vO vP vC (hs.set ai _) hR (by simp only[Z3,seval,-ae]) lQ ai bQ hy ?_;simp only[Z3,seval,-ae,wrapS be (by omega:nx f q<=4611686018427387904)];refine⟨_,by omega,k+1,_,by omega,rfl,rfl,rfl,M.cl hy hu,?_⟩;rw[show nx f q-k=(nx f q-(k+1))+1 by omega]at bj;exact bj
 .have fI:k=nx f q:=by omega
  subst fI;rw[Nat.sub_self]at bj;simp only[Z3,seval,-ae,wrapS ag (by omega:f.length<=4611686018427387904)];exact⟨_,by omega,q+1,y,by omega,rfl,rfl,rfl,hy,bj⟩
end Go.Proofs
