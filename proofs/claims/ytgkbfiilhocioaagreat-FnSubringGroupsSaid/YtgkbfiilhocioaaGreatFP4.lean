/- . -/
import Derived.Test.YtgkbfiilhocioaaGreatFP3
open Nat renaming le_refl→vM
open Int renaming reduceNatCast'->ae
set_option maxRecDepth 100000
set_option linter.unusedSimpArgs false
set_option linter.unusedVariables false
namespace Go.Proofs
open Go.Ab Go.Lie
variable{σ:PHeap}{K:PV->PHeap->Prop}{p:Int}{n:Nat}{W:V2}{B:V3}{vP vB vU vV:PV}{s:Nat}
theorem Qi(hR:IsR vP vB W B)(mF:W.length=n)(hn:n<=1048576)(hk:∀v,FII v (units n)->K v σ):zA Tryz.prog 146 [.agg [.int .i64 p,vP,vB]] σ K:=by
 have h1:=hR.P.one;have h2:=hR.B.one;have fE:=hR;obtain⟨⟨wp,ap,rp,rfl,jf⟩,hB⟩:=hR;refine zA.gh ?_;refine zD mix Tryz.func146 ?_
 conv=>arg 2;cbv
 refine zF rfl ?_;simp only[Z3,seval,-ae,h1,h2];generalize hH:σ.new [.int .i64 p,.fz wp ap W.length rp,vB]=H;have gZ:H.next=σ.next+1:=by rw[<-hH];simp only[Z3,seval,-ae]
 have fR:Keep σ H:=by rw[<-hH];exact zC σ _
 have eT:H.obj σ.next=some [.int .i64 p,.fz wp ap W.length rp,vB]:=by rw[<-hH];simp only[Z3,seval,-ae]
 refine zG (λm vs h'=>∃(i:Nat) (v:PV) (rows:List PV),i<=n/\m=n-i/\vs=[.ptr σ.next 0,v,.int .i64 i]/\Keep H h'/\PSl H.next 1 h' v i rows/\All2 FI rows ((units n).take i)) n ?_ ?_
 .refine⟨0,_,[],by omega,by omega,rfl,zC H _,?_,by rw[List.take_zero];exact All2.nil _⟩;rw[<-gZ];exact PSl.new H.next 1 rfl (vM _)
 rintro m vs h' ⟨i,v,rows,hi,rfl,rfl,aq,ha,an⟩
 have eo:h'.obj σ.next=some [.int .i64 p,.fz wp ap W.length rp,vB]:=by rw[aq.obj _ (by omega)];exact eT
 have mz:h'.rd1 σ.next 1=some (.fz wp ap W.length rp):=by rw[zI eo];rfl
 have bJ:h'.rd σ.next 0 3=some [.int .i64 p,.fz wp ap W.length rp,vB]:=by rw[ze eo];rfl
 simp only[Z3,seval,-ae,mz,mF];refine iteI (λah=>?_) λaG=>?_
 .simp only[Z3,seval,-ae,bJ];refine ZI fE mF hn ah λa1=>?_;simp only[Z3,seval,-ae];refine PSl.push (bytes:=24) aq ha (by omega) (by omega) λv' h2 k2 a2=>?_;simp only[Z3,seval,-ae,wrapS ah (by omega:n<=4611686018427387904)];refine⟨_,by omega,i+1,v',_,by omega,rfl,rfl,k2,a2,?_⟩;rw[zE7 ah];exact an.snoc ⟨true,a1,by rw[qH]⟩
 .have aK:i=n:=by omega
  subst aK;rw[List.take_of_length_le (by rw[qG];exact vM _)]at an;obtain⟨s',cap,rfl,hc,q2,q3,q4,q5⟩:=ha;exact Gh.finF (fR.trans aq) q2 (by omega) (an.bI 0) hc.ok λo1=>hk _ ⟨true,.sl o1 0 i cap,rows,by rw[qG],an⟩
theorem zP2{b:Nat}{u:V2}(hb:σ.rd1 b 0=some (.ptr s 0))(hs:PtrR σ s p vP vB)(hR:IsR vP vB W B)(o:OkW p n W)(q:OkB p n B)(hp:isP p)(hU:FII vU u)(eu:Els p n u)(cq:u.length<=6)
  (hk:∀v out,Canon p n W (brL p W B n u (units n)) out->FII v out->K v σ):zA Tryz.prog 254 [vU,.ptr b 0] σ K:=by
 have aN:=o.le;have oH:=hU;obtain⟨wu,au,ru,rfl,dt⟩:=hU;refine zD mix Tryz.func254 ?_
 conv=>arg 2;cbv
 refine zF rfl ?_;simp only[Z3,seval,-ae,hb];refine zAa hs hR.P o.len (by omega) λvV hV=>?_;have sZ:=hV;obtain⟨wv,av,rv,rfl,fW⟩:=hV;simp only[Z3,seval,-ae,hb];refine zER hs hR o q oH sZ eu (ZW o.pr) cq (by rw[qG];exact aN) λvZ hZ=>?_;have J0:=hZ;obtain⟨wz,az,rz,rfl,nZ⟩:=hZ;have dQ:(brL p W B n u (units n)).length<=1048576:=by
  rw[zAK,qG]
  have:u.length*n<=6*6:=Nat.mul_le_mul cq aN
  omega
 simp only[Z3,seval,-ae,hb];refine zA4 hs hR.P o hp J0 (zCK o q _ _) dQ λv out hc hv=>?_;simp only[Z3,seval,-ae];exact hk v out hc hv
theorem zQP(o:OkW p n W)(q:OkB p n B){a b:V1}{k:Nat}(ha:∀j,j<k->at_ a j=0):∀j,j<k+1->at_ (br p W B n a b) j=0:=by
 have hs:∀t,t<k+1->at_ (bsum B a b n) t=0:=λt ht=>by
  rw[bsum,bi_at q t (vM _)];refine qV _ λi hi=>qV _ λj hj=>?_;rcases Nat.lt_or_ge (i+1+j) k with x|x
  .rw[coef,ha i (by omega),ha _ x,Int.zero_mul,Int.zero_mul,Int.sub_zero,Int.zero_mul]
  .rw[(q.get hi hj).2 t (by omega),Int.mul_zero]
 intro j hj;rcases Nat.lt_or_ge j n with x|x
 .exact zAk o (qm q) (d:=min (k+1) n) (Nat.min_le_right _ _) (λj hj=>hs j (by omega)) j (by omega)
 .exact at_ge (by rw[(br_el o q).1];exact x)
theorem zCP(o:OkW p n W)(q:OkB p n B){u out:V2}(hc:Canon p n W (brL p W B n u (units n)) out){m:Nat}(hu:∀x∈u,m<=dep x):∀y∈out,m+1<=dep y:=λy hy=>by
 have hl:=hc.base.led y hy;have hg:Gen p n W (brL p W B n u (units n)) (at_ y):=(hc.gen _).2 (zQ hy);have hz:=zCh o (m:=min (m+1) n) (zCK o q _ _) (Nat.min_le_right _ _) (λv hv j hj=>by
  obtain⟨x,hx,h⟩:=List.mem_flatMap.1 hv;obtain⟨e,he,rfl⟩:=List.mem_map.1 h;exact zQP o q (k:=m) (λj hj=>zY (by have:=hu x hx;omega)) j (by omega)) hl.1 hg
 have hd:=dep_ge (v:=y) (d:=min (m+1) n) (by rw[hl.1.1];exact Nat.min_le_right _ _) hz
 have:=hl.2.1
 omega
theorem zN4(o:OkW p n W)(q:OkB p n B){u:V2}(hc:Canon p n W (brL p W B n u (units n)) u):u=[]:=by
 have h:∀m:Nat,∀x∈u,m<=dep x:=λm=>by
  induction m with
  |zero=>exactλx hx=>Nat.zero_le _
  |succ m ih=>exact zCP o q hc ih
 cases u with
 |nil=>rfl
 |cons x t=>
  have h1:=h n x (by simp);have h2:=(hc.base.led x (by simp)).2.1;omega
theorem zP0(o:OkW p n W)(q:OkB p n B){out:V2}(hc:Canon p n W (brL p W B n [] (units n)) out):out=[]:=by
 cases out with
 |nil=>rfl
 |cons y t=>
  have h1:=zCP o q hc (m:=n) (λx hx=>by cases hx) y (by simp);have h2:=(hc.base.led y (by simp)).2.1;omega
inductive Low(p:Int)(n:Nat)(W:V2)(B:V3):Nat->V2->Prop where
 |zero:Low p n W B 0 (units n)
 |succ {k:Nat} {u out:V2} (h:Low p n W B k u) (hc:Canon p n W (brL p W B n u (units n)) out):Low p n W B (k+1) out
theorem Low.unique(o:OkW p n W):∀{k:Nat} {u v:V2},Low p n W B k u->Low p n W B k v->u=v
 |_,_,_,.zero,.zero=>rfl
 |_,_,_,.succ h hc,.succ h' jL=>by
  have:=Low.unique o h h'
  subst this;exact hc.unique o jL
theorem Low.els(o:OkW p n W):∀{k:Nat} {u:V2},Low p n W B k u->Els p n u/\u.length<=n
 |_,_,.zero=>⟨ZW o.pr,by rw[qG];exact vM _⟩
 |_,_,.succ _ hc=>⟨hc.base.els,ZV (λv hv=>(hc.base.led v hv).2.1) hc.base.asc⟩
theorem Low.dep(o:OkW p n W)(q:OkB p n B):∀{k:Nat} {u:V2},Low p n W B k u->∀x∈u,k<=Go.Lie.dep x
 |_,_,.zero=>λx hx=>Nat.zero_le _
 |_,_,.succ h hc=>zCP o q hc (Low.dep o q h)
theorem Low.le(o:OkW p n W)(q:OkB p n B){k:Nat}{u:V2}(h:Low p n W B k u)(hu:u≠[]):k<=n:=by
 cases u with
 |nil=>exact absurd rfl hu
 |cons x t=>
  have h1:=h.dep o q x (by simp);have h2:=Zz x;have h3:=((h.els o).1 x (by simp)).1;omega
def Cls(p:Int)(n:Nat)(W:V2)(B:V3)(c:Nat):Prop:=Low p n W B c []/\∀k u,k<c->Low p n W B k u->u≠[]
theorem Cls.unique{c d:Nat}(h:Cls p n W B c)(g:Cls p n W B d):c=d:=by
 rcases Nat.lt_trichotomy c d with x|x|x
 .exact absurd rfl (g.2 c _ x h.1)
 .exact x
 .exact absurd rfl (h.2 d _ x g.1)
theorem zQn:okF Tryz.prog 277=true:=by kernel_rfl
theorem zI1{xs ys:V2}(hU:FII vU xs)(hV:FII vV ys)(hx:xs.length<=1048576)(aW:∀x∈xs,x.length<=1048576)(hk:∀t:Bool,(t=true↔xs=ys)->K (.bool t) σ):
  zA Tryz.prog 276 [vU,vV,.clo 277 [] []] σ K:=by
 have fl:∀{A:Prop},¬A->((false=true)↔A):=λh=>⟨λx=>(by cases x),λx=>absurd x h⟩
 obtain⟨wu,au,ru,rfl,dt⟩:=hU;obtain⟨wv,av,rv,rfl,fW⟩:=hV;refine zD mix Tryz.func276 ?_
 conv=>arg 2;cbv
 refine zF rfl ?_;by_cases hl:xs.length=ys.length
 .simp only[Z3,seval,-ae,hl];refine zG (λm vs h'=>∃i:Nat,i<=ys.length/\m=ys.length-i/\vs=[.fz wv av ys.length rv,.clo 277 [] [],.fz wu au ys.length ru,.int .i64 ys.length,.int .i64 i]/\σ=h'/\xs.take i=ys.take i) ys.length ?_ ?_
  .exact⟨0,by omega,by omega,rfl,rfl,by simp⟩
  rintro m vs h' ⟨i,hi,rfl,rfl,rfl,heq⟩
  simp only[Z3,seval,-ae];refine iteI (λah=>?_) λaG=>?_
  .have jV:i<xs.length:=by omega
   obtain⟨w4,a4,hr⟩:=dt.rowI jV;obtain⟨w5,a5,iE⟩:=fW.rowI ah;simp only[Z3,seval,-ae,ah,hr,iE];refine⟨zQn,zAZ rfl rfl (by have:=aW _ (List.getElem_mem jV);omega) ?_⟩;by_cases he:xs[i]=ys[i]
   .simp only[Z3,seval,-ae,he,wrapS ah (by omega:ys.length<=4611686018427387904)];exact⟨_,by omega,i+1,by omega,rfl,rfl,zQ1 hl jV heq he⟩
   .simp only[Z3,seval,-ae,he];refine hk _ (fl λe=>?_);subst e;exact he rfl
  .have aK:i=ys.length:=by omega
   subst aK;refine hk _ ⟨λ_=>?_,λ_=>rfl⟩;rw[List.take_of_length_le (by omega),List.take_of_length_le (vM _)]at heq;exact heq
 .have IS:((xs.length:Int)=(ys.length:Int))=False:=by simp;omega
  simp only[Z3,seval,-ae,IS];exact hk _ (fl λe=>hl (by rw[e]))
theorem zBt{xs ys:V2}(hU:FII vU xs)(hV:FII vV ys)(hx:xs.length<=1048576)(aW:∀x∈xs,x.length<=1048576)(hk:∀t:Bool,(t=true↔xs=ys)->K (.bool t) σ):
  zA Tryz.prog 187 [vU,vV] σ K:=by
 refine zD mix Tryz.func187 ?_
 conv=>arg 2;cbv
 refine zF rfl ?_;simp only[Z3,seval,-ae];refine zI1 hU hV hx aW λt ht=>?_;simp only[Z3,seval,-ae];exact hk t ht
theorem zQm:okF Tryz.prog 254=true:=by kernel_rfl
theorem zMG{b:Nat}(hb:σ.obj b=some [.ptr s 0])(jM:b<σ.next)(hs:PtrR σ s p vP vB)(hR:IsR vP vB W B)(o:OkW p n W)(q:OkB p n B)(hp:isP p)(hU:FII vU (units n))
  (hk:∀c a rows,Cls p n W B c->K (.fz true a (c+1) rows) σ):zA Tryz.prog 253 [vU,.clo 254 [] [.ptr b 0]] σ K:=by
 have aN:=o.le;have h1:=hU.one;have Ky:=hU.cells;refine zA.gh ?_;refine zD mix Tryz.func253 ?_
 conv=>arg 2;cbv
 refine zF rfl ?_;simp only[Z3,seval,-ae,h1,Ky];refine zG (λm vs h'=>∃k u us rows v,m=n+1-k/\k<=n+1/\vs=[.clo 254 [] [.ptr b 0],v]/\Keep σ h'/\PSl σ.next 1 h' v (k+1) rows/\All2 FII rows us/\us.length=k+1/\us[k]? = some u/\Low p n W B k u/\∀j u',j<k->Low p n W B j u'->u'≠[]) (n+1) ?_ ?_
 .exact⟨0,units n,[units n],[vU],_,by omega,by omega,rfl,zC σ _,PSl.new _ 1 rfl (vM _),All2.nil _ |>.snoc hU,rfl,rfl,.zero,λj u' hj=>by omega⟩
 rintro m vs h' ⟨k,u,us,rows,v,rfl,bF,rfl,aq,ha,aj,cq,EF,eN,lu⟩
 obtain⟨s',cap,rfl,hc,q2,q3,q4,q5⟩:=ha;have jr:k<us.length:=by omega
 obtain⟨vk,Ic,wQ⟩:=aj.get jr;have BB:us[k]=u:=by rw[List.getElem?_eq_getElem jr]at EF;exact Option.some.inj EF
 rw[BB]at wQ;have bM:h'.rd1 s' k=some vk:=by rw[zI q2];exact Ic
 have hw:IntKind.i64.wrap (((k+1:Nat):Int)-1)=(k:Int):=by rw[wrap64 (by omega) (by omega)];omega
 have fL:k<k+1:=Nat.lt_succ_self k;obtain⟨e1,e2⟩:=eN.els o;have gH:h'.rd1 b 0=some (.ptr s 0):=by rw[zI (by rw[aq.obj b jM];exact hb)];rfl
 have yL:=wQ;obtain⟨wk,ak,rk,rfl,cw⟩:=wQ;simp only[Z3,seval,-ae,hw,fL,bM];refine⟨zQm,zP2 gH (hs.keep aq) hR o q hp yL e1 (by omega) λvo out bE Fj=>?_⟩;have wR:=Fj;obtain⟨wo,ao,ro,rfl,kB⟩:=Fj;have fI:out.length<=n:=ZV (λv hv=>(bE.base.led v hv).2.1) bE.base.asc;simp only[Z3,seval,-ae,hw,fL,bM];refine zBt wR yL (by omega) (λx hx=>by rw[(bE.base.els x hx).1];omega) λt ht=>?_;cases t
 .have ar:out≠u:=λe=>by have:=ht.2 e;cases this
  have uB:u≠[]:=λe=>by
   subst e;exact ar (zP0 o q bE)
  have dh:=eN.le o q uB;simp only[Z3,seval,-ae];refine PSl.push (bytes:=24) (σb:=σ) aq ⟨s',cap,rfl,hc,q2,q3,q4,q5⟩ (by omega) (by omega) λv2 h2 k2 a2=>?_;simp only[Z3,seval,-ae];refine⟨_,?_,k+1,out,us++[out],_,v2,rfl,by omega,rfl,k2,a2,aj.snoc wR,by rw[List.length_append,cq];rfl,?_,.succ eN bE,λj u' hj hl=>?_⟩
  .omega
  .rw[List.getElem?_append_right (by omega),cq,Nat.sub_self];rfl
  .by_cases x:j=k
   .subst x;rw[hl.unique o eN];exact uB
   .exact lu j u' (by omega) hl
 .obtain rfl:out=u:=ht.1 rfl;obtain rfl:out=[]:=zN4 o q bE;simp only[Z3,seval,-ae];exact Gh.finF aq q2 q4 (aj.bL 0) hc.ok λo1=>hk k _ _ ⟨eN,lu⟩
theorem zJd(hs:PtrR σ s p vP vB)(hR:IsR vP vB W B)(o:OkW p n W)(q:OkB p n B)(hp:isP p)(hk:∀c a rows,Cls p n W B c->K (.fz true a (c+1) rows) σ):zA Tryz.prog 164 [.ptr s 0] σ K:=by
 have aN:=o.le;refine zA.gh ?_;refine zD mix Tryz.func164 ?_
 conv=>arg 2;cbv
 refine zF rfl ?_;simp only[Z3,seval,-ae];have dF:=hs.new [.ptr s 0];refine zAa dF hR.P o.len (by omega) λvV hV=>?_;have sZ:=hV;obtain⟨wv,av,rv,rfl,fW⟩:=hV;simp only[Z3,seval,-ae];refine zMG (b:=σ.next) (by simp only[Z3,seval,-ae]) (by simp only[Z3,seval,-ae]) dF hR o q hp sZ λc a rows hc=>?_;simp only[Z3,seval,-ae];exact Gh.fin0 (zC σ _) trivial (hk c a rows hc)
def isLz(p:Int)(n:Nat)(W:V2)(B:V3):Prop:=∃c,Cls p n W B c/\(c:Int)<p
theorem zM6{c:Nat}(h:Cls p n W B c):isLz p n W B↔(c:Int)<p:=⟨λ⟨d,h1,h2⟩=>by rw[h.unique h1];exact h2,λe=>⟨c,h,e⟩⟩
theorem zEL(hs:PtrR σ s p vP vB)(hR:IsR vP vB W B)(o:OkW p n W)(q:OkB p n B)(hp:isP p)(hk:∀t:Bool,(t=true↔isLz p n W B)->K (.bool t) σ):zA Tryz.prog 92 [.ptr s 0] σ K:=by
 have aN:=o.le;have gU:σ.rd1 s 0=some (.int .i64 p):=by rw[zI hs.obj];rfl
 refine zD mix Tryz.func92 ?_
 conv=>arg 2;cbv
 refine zF rfl ?_;simp only[Z3,seval,-ae,gU];refine zJd hs hR o q hp λc a rows hc=>?_;have yB:c<=n+1:=by
  rcases Nat.lt_or_ge n c with x|x
  .obtain⟨c',rfl⟩:∃c',c=c'+1:=⟨c-1,by omega⟩
   obtain⟨h1,h2⟩:=hc;cases h1 with
   |succ h bE=>exact Nat.succ_le_succ (h.le o q (h2 _ _ (Nat.lt_succ_self _) h))
  .omega
 have hw:IntKind.i64.wrap (((c+1:Nat):Int)-1)=(c:Int):=by rw[wrap64 (by omega) (by omega)];omega
 simp only[Z3,seval,-ae,hw];refine⟨gU,hk _ ?_⟩;rw[zM6 hc,decide_eq_true_eq]
theorem Qd{u v:V2}(hR:IsR vP vB W B)(o:OkW p n W)(q:OkB p n B)(hp:isP p)(hU:FII vU u)(hV:FII vV v)(eu:Els p n u)(ev:Els p n v)(cq:u.length<=6)(eF:v.length<=6)
  (hk:∀z out,Canon p n W (brL p W B n u v) out->FII z out->K z σ):zA Tryz.prog 85 [.agg [.int .i64 p,vP,vB],vU,vV] σ K:=by
 have h1:=hR.P.one;have h2:=hR.B.one;obtain⟨wu,au,ru,rfl,dt⟩:=hU;obtain⟨wv,av,rv,rfl,fW⟩:=hV;have bnd:∀(i j:Nat),i<u.length->j<=v.length->(brL p W B n (u.take i) v++(v.take j).map λy=>br p W B n (u.getD i []) y).length<=42:=λi j hi hj=>by
  rw[List.length_append,zAK,List.length_map,List.length_take,List.length_take]
  have:min i u.length*v.length<=6*6:=Nat.mul_le_mul (by omega) eF
  omega
 refine zA.gh ?_;refine zD mix Tryz.func85 ?_
 conv=>arg 2;cbv
 refine zF rfl ?_;simp only[Z3,seval,-ae,h1,h2];generalize hH:σ.new [.int .i64 p,vP,vB]=H;have gZ:H.next=σ.next+1:=by rw[<-hH];simp only[Z3,seval,-ae]
 have fR:Keep σ H:=by rw[<-hH];exact zC σ _
 have eT:H.obj σ.next=some [.int .i64 p,vP,vB]:=by rw[<-hH];simp only[Z3,seval,-ae]
 refine zG (λm vs h'=>∃(i:Nat) (z:PV) (rows:List PV),i<=u.length/\m=u.length-i/\vs=[.fz wu au u.length ru,.fz wv av v.length rv,.ptr σ.next 0,z,.int .i64 i]/\Keep H h'/\PSl H.next 1 h' z (brL p W B n (u.take i) v).length rows/\All2 FI rows (brL p W B n (u.take i) v)) u.length ?_ ?_
 .refine⟨0,_,[],by omega,by omega,rfl,zC H _,?_,by rw[List.take_zero];exact All2.nil _⟩;rw[<-gZ];exact PSl.new H.next 1 rfl (vM _)
 rintro m vs h' ⟨i,z,rows,hi,rfl,rfl,aq,ha,an⟩
 simp only[Z3,seval,-ae];refine iteI (λah=>?_) λaG=>?_
 .obtain⟨w4,a4,hr⟩:=dt.rowI ah;have dq:=eu _ (List.getElem_mem ah);have fg:u.getD i []=u[i]:=by simp[List.getD_eq_getElem?_getD,ah]
  refine zG (λm vs h'=>∃(j:Nat) (z:PV) (rows:List PV),j<=v.length/\m=v.length-j/\vs=[.fz wu au u.length ru,.fz wv av v.length rv,.ptr σ.next 0,z,.int .i64 i,.int .i64 j]/\Keep H h'/\
   PSl H.next 1 h' z (brL p W B n (u.take i) v++(v.take j).map λy=>br p W B n (u.getD i []) y).length rows/\All2 FI rows (brL p W B n (u.take i) v++(v.take j).map λy=>br p W B n (u.getD i []) y)) v.length ?_ ?_
  .exact⟨0,z,rows,by omega,by omega,rfl,aq,by simpa using ha,by simpa using an⟩
  clear aq ha an z rows
  rintro m vs h' ⟨j,z,rows,hj,rfl,rfl,aq,ha,an⟩
  have eo:h'.obj σ.next=some [.int .i64 p,vP,vB]:=by rw[aq.obj _ (by omega)];exact eT
  have bJ:h'.rd σ.next 0 3=some [.int .i64 p,vP,vB]:=by rw[ze eo];rfl
  simp only[Z3,seval,-ae];refine iteI (λkM=>?_) λJd=>?_
  .obtain⟨w5,a5,iE⟩:=fW.rowI kM;have Bx:=ev _ (List.getElem_mem kM);simp only[Z3,seval,-ae,kM,iE,ah,hr,bJ];refine qF hR o q dq Bx rfl rfl λa6=>?_;have hb:=bnd i j ah hj;simp only[Z3,seval,-ae];refine PSl.push (bytes:=24) aq ha (by omega) (by omega) λv' h2 k2 a2=>?_;simp only[Z3,seval,-ae,wrapS kM (by omega:v.length<=4611686018427387904)];have e:(brL p W B n (u.take i) v++(v.take (j+1)).map λy=>br p W B n (u.getD i []) y)=(brL p W B n (u.take i) v++(v.take j).map λy=>br p W B n (u.getD i []) y)++[br p W B n u[i] v[j]]:=by
    rw[List.take_succ_eq_append_getElem kM,List.map_append,List.append_assoc,fg];rfl
   refine⟨_,by omega,j+1,v',rows++[.fz true a6 n (pis (br p W B n u[i] v[j]))],by omega,rfl,rfl,k2,?_,?_⟩
   .rw[e,List.length_append];exact a2
   .rw[e];exact an.snoc ⟨true,a6,by rw[(br_el o q).1]⟩
  .have iJ:j=v.length:=by omega
   subst iJ;have e:(brL p W B n (u.take i) v++(v.take v.length).map λy=>br p W B n (u.getD i []) y)=brL p W B n (u.take (i+1)) v:=by
    rw[List.take_length,List.take_succ_eq_append_getElem ah,zIl,fg]
   rw[e]at ha an;simp only[Z3,seval,-ae,wrapS ah (by omega:u.length<=4611686018427387904)];exact⟨_,by omega,i+1,z,rows,by omega,rfl,rfl,aq,ha,an⟩
 .have aK:i=u.length:=by omega
  subst aK;rw[List.take_length]at ha an;obtain⟨s',cap,rfl,hc,q2,q3,q4,q5⟩:=ha;have eo:h'.obj σ.next=some [.int .i64 p,vP,vB]:=by rw[aq.obj _ (by omega)];exact eT
  have bJ:h'.rd σ.next 0 3=some [.int .i64 p,vP,vB]:=by rw[ze eo];rfl
  simp only[Z3,seval,-ae,bJ];refine zA.frz q2 (an.bI 0) λo1=>?_;have hl:(brL p W B n u v).length<=1048576:=by
   rw[zAK]
   have:u.length*v.length<=6*6:=Nat.mul_le_mul cq eF
   omega
  obtain⟨⟨wp,ap,rp,rfl,jf⟩,wb,ab,rb,rfl,bD⟩:=hR;simp only[sbs,sb,hc.ok,and_self,if_true];refine Qb ⟨⟨wp,ap,rp,rfl,jf⟩,wb,ab,rb,rfl,bD⟩ o hp ⟨true,_,rows,rfl,an⟩ (zCK o q _ _) hl λz out bE hz=>?_;obtain⟨wz,az,rz,rfl,nZ⟩:=hz;simp only[Z3,seval,-ae];exact Gh.fin0 ((fR.trans aq).kill (by omega)) trivial (hk _ out bE ⟨wz,az,rz,rfl,nZ⟩)
theorem zJi(hR:IsR vP vB W B)(o:OkW p n W)(q:OkB p n B)(hp:isP p)(hk:∀c a rows,Cls p n W B c->K (.fz true a (c+1) rows) σ):zA Tryz.prog 269 [.agg [.int .i64 p,vP,vB]] σ K:=by
 have aN:=o.le;have h1:=hR.P.one;have h2:=hR.B.one;refine zA.gh ?_;refine zD mix Tryz.func269 ?_
 conv=>arg 2;cbv
 refine zF rfl ?_;simp only[Z3,seval,-ae,h1,h2];generalize hH:σ.new [.int .i64 p,vP,vB]=H;have gZ:H.next=σ.next+1:=by rw[<-hH];simp only[Z3,seval,-ae]
 have fR:Keep σ H:=by rw[<-hH];exact zC σ _
 have eT:H.obj σ.next=some [.int .i64 p,vP,vB]:=by rw[<-hH];simp only[Z3,seval,-ae]
 refine Qi hR o.len (by omega) λvV hV=>?_;have sZ:=hV;obtain⟨wv,av,rv,rfl,fW⟩:=hV;simp only[Z3,seval,-ae];refine zG (λm vs h'=>∃k u us rows v vU,m=n+1-k/\k<=n+1/\vs=[.ptr σ.next 0,vU,v]/\Keep H h'/\PSl H.next 1 h' v (k+1) rows/\All2 FII rows us/\us.length=k+1/\FII vU u/\Low p n W B k u/\∀j u',j<k->Low p n W B j u'->u'≠[]) (n+1) ?_ ?_
 .refine⟨0,units n,[units n],[_],_,_,by omega,by omega,rfl,zC H _,PSl.new _ 1 rfl (vM _),All2.nil _ |>.snoc sZ,rfl,sZ,.zero,λj u' hj=>by omega⟩
 rintro m vs h' ⟨k,u,us,rows,v,vU,rfl,bF,rfl,aq,ha,aj,cq,Fk,eN,lu⟩
 have eo:h'.obj σ.next=some [.int .i64 p,vP,vB]:=by rw[aq.obj _ (by omega)];exact eT
 have bJ:h'.rd σ.next 0 3=some [.int .i64 p,vP,vB]:=by rw[ze eo];rfl
 obtain⟨e1,e2⟩:=eN.els o;have yL:=Fk;obtain⟨wk,ak,rk,rfl,cw⟩:=Fk;by_cases hu:u=[]
 .subst hu;obtain⟨s',cap,rfl,hc,q2,q3,q4,q5⟩:=ha;simp only[Z3,seval,-ae,List.length_nil];exact Gh.finF (fR.trans aq) q2 (by omega) (aj.bL 0) hc.ok λo1=>hk k _ _ ⟨eN,lu⟩
 .have dh:=eN.le o q hu;have aF:(0:Int)<(u.length:Int):=by
   have:0<u.length:=List.length_pos_iff.2 hu
   omega
  simp only[Z3,seval,-ae,aF,bJ];refine Qi hR o.len (by omega) λvW hW=>?_;have J3:=hW;obtain⟨ww,aw,xX,rfl,eJ⟩:=hW;simp only[Z3,seval,-ae,bJ];refine Qd hR o q hp yL J3 e1 (ZW o.pr) (by omega) (by rw[qG];omega) λz out bE hz=>?_;have eS:=hz;obtain⟨wz,az,rz,rfl,nZ⟩:=hz;simp only[Z3,seval,-ae,bJ];refine PSl.push (bytes:=24) aq ha (by omega) (by omega) λv2 h2 k2 a2=>?_;simp only[Z3,seval,-ae];refine⟨_,?_,k+1,out,us++[out],_,v2,_,rfl,by omega,rfl,k2,a2,aj.snoc eS,by rw[List.length_append,cq];rfl,eS,.succ eN bE,λj u' hj hl=>?_⟩
  .omega
  .by_cases x:j=k
   .subst x;rw[hl.unique o eN];exact hu
   .exact lu j u' (by omega) hl
theorem Cls.le(o:OkW p n W)(q:OkB p n B){c:Nat}(hc:Cls p n W B c):c<=n+1:=by
 rcases Nat.lt_or_ge n c with x|x
 .obtain⟨c',rfl⟩:∃c',c=c'+1:=⟨c-1,by omega⟩
  obtain⟨h1,h2⟩:=hc;cases h1 with
  |succ h bE=>exact Nat.succ_le_succ (h.le o q (h2 _ _ (Nat.lt_succ_self _) h))
 .omega
theorem zJk(hR:IsR vP vB W B)(o:OkW p n W)(q:OkB p n B)(hp:isP p)(hk:∀c:Nat,Cls p n W B c->K (.int .i64 c) σ):zA Tryz.prog 174 [.agg [.int .i64 p,vP,vB]] σ K:=by
 have aN:=o.le;have h1:=hR.P.one;have h2:=hR.B.one;refine zA.gh ?_;refine zD mix Tryz.func174 ?_
 conv=>arg 2;cbv
 refine zF rfl ?_;simp only[Z3,seval,-ae,h1,h2];refine zJi hR o q hp λc a rows hc=>?_;have yB:=hc.le o q;have hw:IntKind.i64.wrap (((c+1:Nat):Int)-1)=(c:Int):=by rw[wrap64 (by omega) (by omega)];omega
 simp only[Z3,seval,-ae,hw];exact Gh.fin0 (zC σ _) trivial (hk c hc)
theorem zEd(hR:IsR vP vB W B)(o:OkW p n W)(q:OkB p n B)(hp:isP p)(hk:∀t:Bool,(t=true↔isLz p n W B)->K (.bool t) σ):zA Tryz.prog 83 [.agg [.int .i64 p,vP,vB]] σ K:=by
 have h1:=hR.P.one;have h2:=hR.B.one;refine zA.gh ?_;refine zD mix Tryz.func83 ?_
 conv=>arg 2;cbv
 refine zF rfl ?_;simp only[Z3,seval,-ae,h1,h2];refine zJk hR o q hp λc hc=>?_;simp only[Z3,seval,-ae,h1,h2];refine Gh.fin0 (zC σ _) trivial (hk _ ?_);rw[zM6 hc,decide_eq_true_eq]
structure EucI(m a r nx x y:Int):Prop where
 cof:∃s u v:Int,(s=1\/s=-1)/\0<=u/\u<=m/\0<=v/\x=s*u/\y=-s*v/\r*v+nx*u=m
 pos:0<r/\r<=m/\0<=nx/\nx<r
 xa:∃t,x*a=r+t*m
 ya:∃t,y*a=nx+t*m
 dm:∃c d,m=c*r+d*nx
 da:∃c d,a=c*r+d*nx
theorem zDH{a b m:Int}(ha:1<=a)(hb:0<=b)(h:a*b<=m):b<=m:=by
 have:=Int.mul_le_mul_of_nonneg_right ha hb
 omega
theorem EucI.start{m a:Int}(h1:0<=a)(h2:a<m):EucI m a m a 0 1 where
 cof:=⟨-1,0,1,.inr rfl,by omega,by omega,by omega,by omega,by omega,by omega⟩
 pos:=by omega
 xa:=⟨-1,by omega⟩
 ya:=⟨0,by omega⟩
 dm:=⟨1,0,by omega⟩
 da:=⟨0,1,by omega⟩
theorem EucI.step{m a r nx x y:Int}(h:EucI m a r nx x y)(hn:nx≠0):EucI m a nx (r-r / nx*nx) y (x-r / nx*y)/\
  (-m<=x/\x<=m/\-m<=y/\y<=m/\-m<=r / nx*y/\r / nx*y<=m/\0<=r / nx/\r / nx<=m/\0<=r / nx*nx/\r / nx*nx<=m/\-m<=x-r / nx*y/\x-r / nx*y<=m):=by
 obtain⟨s,u,v,hs,hu,Mb,hv,hx,hy,he⟩:=h.cof;obtain⟨p1,p2,p3,p5⟩:=h.pos;obtain⟨tx,ub⟩:=h.xa;obtain⟨ty,tY⟩:=h.ya;obtain⟨cm,dm,Jq⟩:=h.dm;obtain⟨ca,da,Jt⟩:=h.da;have kG:0<=r / nx:=Int.ediv_nonneg (by omega) p3;have e1:=Int.emod_nonneg r hn;have e2:=Int.emod_lt_of_pos r (show 0<nx by omega);have e3:r % nx=r-r / nx*nx:=by have:=Int.mul_ediv_add_emod r nx;rw[Int.mul_comm];omega
 generalize r / nx=q at *
 rw[e3]at e1 e2;have Mc:0<=q*v:=Int.mul_nonneg kG hv;have BW:0<=q*nx:=Int.mul_nonneg kG p3;have k1:nx*(u+q*v)+(r-q*nx)*v=m:=by grind
 have k2:0<=(r-q*nx)*v:=Int.mul_nonneg e1 hv;have k3:u+q*v<=m:=zDH (a:=nx) (by omega) (by omega) (by omega);have k4:0<=nx*u:=Int.mul_nonneg p3 hu;have k5:v<=m:=zDH (a:=r) (by omega) hv (by omega);have k6:q<=m:=zDH (a:=nx) (by omega) kG (by rw[Int.mul_comm];omega);refine⟨⟨⟨-s,v,u+q*v,by omega,hv,k5,by omega,by grind,by grind,by omega⟩,by omega,⟨ty,tY⟩,⟨tx-q*ty,by grind⟩,⟨dm+cm*q,cm,by grind⟩,⟨da+ca*q,ca,by grind⟩⟩,?_⟩;have k7:q*y=-s*(q*v):=by grind
 have k8:x-q*y=s*(u+q*v):=by grind
 rcases hs with rfl|rfl<;>omega
theorem zJ1{a m:Int}(ha:0<=a)(JG:a<m)(hm:m<=1000000)(hk:∀(x:Int) (b:Bool),0<=x->x<m->((∃z w:Int,a*z=1+w*m)->∃t,a*x=1+t*m)->K (.tup [.int .i64 x,.bool b]) σ):zA Tryz.prog 203 [.int .i64 a,.int .i64 m] σ K:=by
 refine zD mix Tryz.func203 ?_
 conv=>arg 2;cbv
 refine zF rfl ?_;simp only[Z3,seval,-ae];refine zG (λk vs h'=>∃r nx x y:Int,k=nx.toNat/\vs=[.int .i64 m,.int .i64 r,.int .i64 nx,.int .i64 x,.int .i64 y]/\σ=h'/\EucI m a r nx x y) a.toNat ?_ ?_
 .exact⟨m,a,0,1,rfl,rfl,rfl,EucI.start ha JG⟩
 rintro k vs h' ⟨r,nx,x,y,rfl,rfl,rfl,hI⟩
 obtain⟨p1,p2,p3,p5⟩:=hI.pos;by_cases h0:nx=0
 .subst h0;simp only[Z3,seval,-ae];refine zCS (by omega) (by omega) ?_;simp only[Z3,seval,-ae];refine hk _ _ (Int.emod_nonneg _ (by omega)) (Int.emod_lt_of_pos _ (by omega)) λ⟨z,w,hz⟩=>?_;obtain⟨tx,ub⟩:=hI.xa;obtain⟨cm,dm,Jq⟩:=hI.dm;obtain⟨ca,da,Jt⟩:=hI.da;have e:r*(ca*z-w*cm)=1:=by grind
  have mz:r=1:=by
   have hd:r∣1:=⟨_,e.symm⟩
   have:=Int.le_of_dvd (by omega) hd
   omega
  have em:=Int.mul_ediv_add_emod x m;exact⟨tx-a*(x / m),by grind⟩
 .obtain⟨s5,b⟩:=hI.step h0;have ht:r.tdiv nx=r / nx:=Int.tdiv_eq_ediv_of_nonneg (by omega);obtain⟨LY,AI,LX,LW⟩:=s5.pos;simp only[Z3,seval,-ae,h0,ht,wrap64 (n:=r / nx) (by omega) (by omega),wrap64 (n:=r / nx*nx) (by omega) (by omega),wrap64 (n:=r / nx*y) (by omega) (by omega),wrap64 (n:=r-r / nx*nx) (by omega) (by omega),wrap64 (n:=x-r / nx*y) (by omega) (by omega)];exact⟨_,by omega,_,_,_,_,rfl,rfl,s5⟩
theorem zCG:∀n:Nat,ipow p n=pw_ p n
 |0=>rfl
 |n+1=>by rw[ipow,pw_,zCG n,Int.mul_comm]
def Cop(p k:Int):Prop:=∃e t:Int,k*e=1+p*t
structure DivL(p:Int)(n:Nat)(W:V2)(k:Int)(x z:V1):Prop where
 el:El p n z
 nil:isZ x->z=x
 eqv:Cop p k->Eqv p n W (λj=>k*at_ z j) (at_ x)
theorem zAY{k:Int}(h:Cop p k)(hn:0<n):∃z w:Int,k*z=1+w*pw_ p n:=by
 obtain⟨e,t,h⟩:=h;obtain⟨f,s,g⟩:=inv_one (p:=p) t n hn;exact⟨e*f,s,by grind⟩
theorem DivL.unique(o:OkW p n W){k:Int}{x z z':V1}(hx:El p n x)(h:DivL p n W k x z)(h':DivL p n W k x z')(hk:isZ x\/Cop p k):z=z':=by
 rcases hk with hk|hk
 .rw[h.nil hk,h'.nil hk]
 .rcases Nat.eq_zero_or_pos n with hn|hn
  .have e1:=h.el.1;have e2:=h'.el.1;rw[List.eq_nil_of_length_eq_zero (e1.trans hn),List.eq_nil_of_length_eq_zero (e2.trans hn)]
  .obtain⟨a,w,ha⟩:=zAY (p:=p) hk hn;have e:Eqv p n W (λj=>k*at_ z j) (λj=>k*at_ z' j):=(h.eqv hk).trans (h'.eqv hk).symm;have e2:=e.mul a;have one:∀{v:V1},El p n v->Eqv p n W (λj=>a*(k*at_ v j)) (at_ v):=λ{v} hv=>by
    have k1:=(Qr o (f:=at_ v) (λj hj=>hv.beyond hj)).mul w;have k2:=(Eqv.refl (p:=p) (n:=n) (W:=W) (at_ v)).add k1;exact((Eqv.of_eq λj=>by grind).trans k2).trans (Eqv.of_eq λj=>by omega)
   exact qQ o h.el.1 h'.el.1 h.el.2 h'.el.2 (((one h.el).symm.trans e2).trans (one h'.el))
theorem DivL.mk'(o:OkW p n W){k y m:Int}{x:V1}(hx:El p n x)(hz:¬isZ x)(hm:Eqv p n W (λj=>m*at_ x j) λ_=>0)(hy:Cop p k->∃t,k*y=1+t*m):DivL p n W k x (lmul p W y x) where
 el:=(Zw o hx y).1
 nil:=λh=>absurd h hz
 eqv:=λhk=>by
  obtain⟨t,ht⟩:=hy hk;have k1:=(Zw o hx y).2.mul k;have k2:=(Eqv.refl (p:=p) (n:=n) (W:=W) (at_ x)).add (hm.mul t);exact(k1.trans (Eqv.of_eq λj=>by grind)).trans (k2.trans (Eqv.of_eq λj=>by omega))
theorem zHg(hp:okp p):∀k:Nat,1<=pw_ p k
 |0=>by simp[pw_]
 |k+1=>by
  have h:=zHg hp k
  have:=Int.mul_le_mul_of_nonneg_right (show(1:Int)<=p by have:=hp.1;omega) (show 0<=pw_ p k by omega)
  rw[pw_];omega
theorem zDm(hp:okp p){j:Nat}:∀{k:Nat},j<=k->pw_ p j<=pw_ p k
 |0,h=>by
   have:j=0:=by omega
   subst this;exact Int.le_refl _
 |k+1,h=>by
  by_cases e:j=k+1
  .subst e;exact Int.le_refl _
  .have h1:=zDm hp (j:=j) (k:=k) (by omega);have h2:=zHg hp k
   have:=Int.mul_le_mul_of_nonneg_right (show(1:Int)<=p by have:=hp.1;omega) (show 0<=pw_ p k by omega)
   have e2:pw_ p (k+1)=p*pw_ p k:=rfl;omega
theorem zJo{l:Nat}{w:Bool}{av:AV}{x:V1}(hR:IsR vP vB W B)(o:OkW p n W)(e9:ipow p n<=729)(hx:El p n x)(hl:l=x.length)
  (hk:∀j,j<=n->Eqv p n W (λi=>pw_ p j*at_ x i) (λ_=>0)->K (.int .i64 (pw_ p j)) σ):zA Tryz.prog 320 [.agg [.int .i64 p,vP,vB],.fz w av l (pis x)] σ K:=by
 have h1:=hR.P.one;have h2:=hR.B.one;have aN:=o.le;have bw:=o.pr;have dA:=bw;unfold okp at dA;have aW:=hx.1;subst hl;refine zA.gh ?_;refine zD mix Tryz.func320 ?_
 conv=>arg 2;cbv
 refine zF rfl ?_;simp only[Z3,seval,-ae,h1,h2];generalize hH:σ.new [.int .i64 p,vP,vB]=H;have fR:Keep σ H:=by rw[<-hH];exact zC σ _
 have jN:H.rd σ.next 0 3=some [.int .i64 p,vP,vB]:=by rw[<-hH];simp only[Z3,seval,-ae]
 have eU:H.rd1 σ.next 0=some (.int .i64 p):=by rw[<-hH];simp only[Z3,seval,-ae]
 refine zG (λm vs h'=>∃(j:Nat) (y:V1) (wy:Bool) (vy:AV),m=n-dep y/\j<=dep y/\vs=[.fz wy vy n (pis y),.ptr σ.next 0,.int .i64 (pw_ p j)]/\H=h'/\El p n y/\Eqv p n W (at_ y) λi=>pw_ p j*at_ x i) (n-dep x) ?_ ?_
 .exact⟨0,x,w,av,rfl,by omega,by rw[aW];rfl,rfl,hx,Eqv.of_eq λi=>by simp[pw_]⟩
 rintro m vs h' ⟨j,y,wy,vy,rfl,hj,rfl,rfl,hy,he⟩
 have dz:=hy.1;have dZ:=Zz y;simp only[Z3,seval,-ae];refine Qf dz.symm (by omega) ?_;by_cases hz:isZ y
 .simp only[Z3,seval,-ae,hz,decide_true];refine Gh.fin0 fR trivial (hk j (by omega) (he.symm.trans (Eqv.of_eq λi=>ZP hz i)))
 .have hd:dep y<n:=by have:=zBx hz;omega
  have Mx:pw_ p (j+1)<=pw_ p n:=zDm bw (by omega);have I5:=zHg bw (j+1);rw[zCG]at e9;have hc:pw_ p j*p=pw_ p (j+1):=by rw[pw_,Int.mul_comm]
  have hw:IntKind.i64.wrap (pw_ p j*p)=pw_ p (j+1):=by rw[hc];exact wrap64 (by omega) (by omega)
  simp only[Z3,seval,-ae,hz,decide_false,jN,eU];refine qW hR o hy hy dz.symm dz.symm (by omega) (by decide) λv1=>?_;have eB:=zHm o hy hd;obtain⟨z1,z2⟩:=Zw o hy p;simp only[Z3,seval,-ae,eU,hw];refine⟨_,?_,j+1,_,true,v1,rfl,by omega,rfl,z1,(z2.trans (he.mul p)).trans (Eqv.of_eq λi=>by rw[<-hc];grind)⟩;omega
theorem zFV{l:Nat}{w:Bool}{av:AV}{k:Int}{x:V1}(hR:IsR vP vB W B)(o:OkW p n W)(e9:ipow p n<=729)(hx:El p n x)(hl:l=x.length)
  (hk:∀w v z,DivL p n W k x z->K (.fz w v n (pis z)) σ):zA Tryz.prog 293 [.agg [.int .i64 p,vP,vB],.fz w av l (pis x),.int .i64 k] σ K:=by
 have h1:=hR.P.one;have h2:=hR.B.one;have aN:=o.le;have bw:=o.pr;have aW:=hx.1;subst hl;refine zA.gh ?_;refine zD mix Tryz.func293 ?_
 conv=>arg 2;cbv
 refine zF rfl ?_;simp only[Z3,seval,-ae,h1,h2];generalize hH:σ.new [.int .i64 p,vP,vB]=H;have fR:Keep σ H:=by rw[<-hH];exact zC σ _
 have jN:H.rd σ.next 0 3=some [.int .i64 p,vP,vB]:=by rw[<-hH];simp only[Z3,seval,-ae]
 refine Qf rfl (by omega) ?_;by_cases hz:isZ x
 .simp only[Z3,seval,-ae,hz,decide_true];refine Gh.fin0 fR trivial ?_;rw[aW];exact hk _ _ x ⟨hx,λ_=>rfl,λ_=>Eqv.of_eq λj=>by rw[ZP hz,Int.mul_zero]⟩
 .have dN:dep x<n:=by have:=zBx hz;omega
  simp only[Z3,seval,-ae,hz,decide_false,jN];refine zJo hR o e9 hx rfl λj hj he=>?_;have I5:j≠0:=λe=>by
   subst e;have e0:Eqv p n W (at_ x) λ_=>0:=(Eqv.of_eq λi=>by simp[pw_]).trans he
   have:=zCi o hx e0 (vM n) (λ_ _=>rfl) (dep x) dN
   exact qa (by omega) this
  have Cj:pw_ p j<=pw_ p n:=zDm bw hj;have Ci:pw_ p 1<=pw_ p j:=zDm bw (by omega);have Ml:pw_ p 1=p:=by simp[pw_]
  rw[zCG]at e9;have gT:=bw.1;generalize hm:pw_ p j=m at *
  simp only[Z3,seval,-ae];refine zG (λq vs h'=>∃y:Int,q=(m-y).toNat/\1<=y/\y<=m/\vs=[.fz w av x.length (pis x),.int .i64 k,.ptr σ.next 0,.int .i64 m,.int .i64 y]/\H=h'/\∀y',1<=y'->y'<y->k % m*y' % m≠1) (m-1).toNat ?_ ?_
  .exact⟨1,rfl,by omega,by omega,rfl,rfl,λy' _ _=>by omega⟩
  rintro q vs h' ⟨y,rfl,kj,L8,rfl,rfl,aj⟩
  have Lg:=Int.emod_nonneg k (show m≠0 by omega);have MY:=Int.emod_lt_of_pos k (show 0<m by omega);have em:=Int.mul_ediv_add_emod k m;have fin:(Cop p k->∃t,k*y=1+t*m)->∀v,Gh σ K (.fz true v n (pis (lmul p W y x))) H:=λh v=>Gh.fin0 fR trivial (hk _ v _ (DivL.mk' o hx hz he h));by_cases ah:y<m
  .have hb:0<=k % m*y/\k % m*y<=531441:=by
    have a1:=Int.mul_le_mul (show k % m<=729 by omega) (show y<=729 by omega) (by omega) (by omega);have a2:=Int.mul_nonneg Lg (show 0<=y by omega);omega
   simp only[Z3,seval,-ae,ah,decide_true];refine zGn (by omega) (by omega) ?_;have u5:m≠0:=by omega
   have ht:(k % m*y).tmod m=k % m*y % m:=Int.tmod_eq_emod_of_nonneg hb.1;by_cases h1:k % m*y % m=1
   .simp only[Z3,seval,-ae,ah,u5,wrap64 (n:=k % m*y) (by omega) (by omega),ht,h1,jN];refine qW hR o hx hx rfl rfl (by omega) (by decide) λv1=>?_;simp only[Z3,seval,-ae];refine fin (λ_=>?_) v1;have e:=Int.mul_ediv_add_emod (k % m*y) m;exact⟨k % m*y / m+k / m*y,by grind⟩
   .simp only[Z3,seval,-ae,ah,u5,wrap64 (n:=k % m*y) (by omega) (by omega),ht,h1,wrap64 (n:=y+1) (by omega) (by omega)];refine⟨_,?_,y+1,rfl,by omega,by omega,rfl,λy' h2 h3=>?_⟩
    .omega
    .by_cases e:y'=y
     .subst e;exact h1
     .exact aj y' h2 (by omega)
  .have Ez:y=m:=by omega
   simp only[Z3,seval,-ae,ah,decide_false,jN];refine qW hR o hx hx rfl rfl (by omega) (by decide) λv1=>?_;simp only[Z3,seval,-ae];refine fin (λhc=>?_) v1;exfalso;obtain⟨z,w',A7⟩:=zAY (p:=p) hc (show 0<j by omega);rw[hm]at A7;have f1:=Int.emod_nonneg z (show m≠0 by omega);have f2:=Int.emod_lt_of_pos z (show 0<m by omega);have f3:=Int.mul_ediv_add_emod z m;have aV:k % m*(z % m) % m=1:=by
    have e1:k % m*(z % m)=1+(w'-k / m*z-k % m*(z / m))*m:=by grind
    rw[e1,Int.add_mul_emod_self_right];exact Int.emod_eq_of_lt (by omega) (by omega)
   have ck:z % m≠0:=λe=>by
    rw[e,Int.mul_zero,Int.zero_emod]at aV;omega
   exact aj (z % m) (by omega) (by omega) aV
variable{vL:PV}
def CodeL(p:Int)(W:V2)(B:V3)(xs:V2)(c:Int):Prop:=
 (¬(isLie p W B/\Els p W.length xs)/\c=1)\/((isLie p W B/\Els p W.length xs)/\¬isLz p W.length W B/\c=5)\/((isLie p W B/\Els p W.length xs)/\isLz p W.length W B/\c=0)
theorem CodeL.unique{xs:V2}{c d:Int}(h:CodeL p W B xs c)(g:CodeL p W B xs d):c=d:=by
 rcases h with ⟨h1,h2⟩|⟨h1,h2,h3⟩|⟨h1,h2,h3⟩<;>rcases g with ⟨g1,g2⟩|⟨g1,g2,g3⟩|⟨g1,g2,g3⟩<;>first|omega|exact absurd g1 h1|exact absurd h1 g1|exact absurd g2 h2|exact absurd h2 g2
theorem zCs{xs:V2}(hs:PtrR σ s p vP vB)(hR:IsR vP vB W B)(dU:SzR W B)(hL:FII vL xs)(sz:SzL xs)(hk:∀c:Int,CodeL p W B xs c->K (.int .i64 c) σ):zA Tryz.prog 106 [.ptr s 0,vL] σ K:=by
 have De:=hL;obtain⟨wl,al,rl,rfl,bp⟩:=hL;refine zD mix Tryz.func106 ?_
 conv=>arg 2;cbv
 refine zF rfl ?_;simp only[Z3,seval,-ae];refine zCC hs hR dU De sz λt ht=>?_;cases t
 .simp only[Z3,seval,-ae];exact hk 1 (.inl ⟨λh=>(by have:=ht.2 h;simp at this),rfl⟩)
 .have hl:=ht.1 rfl;simp only[Z3,seval,-ae];refine zEL hs hR hl.1.1.w hl.1.1.b hl.1.1.1 λt ht=>?_;cases t
  .simp only[Z3,seval,-ae];exact hk 5 (.inr (.inl ⟨hl,λh=>(by have:=ht.2 h;simp at this),rfl⟩))
  .simp only[Z3,seval,-ae];exact hk 0 (.inr (.inr ⟨hl,ht.1 rfl,rfl⟩))
theorem zLa{xs:V2}(hR:IsR vP vB W B)(dU:SzR W B)(hL:FII vL xs)(sz:SzL xs)(hk:∀c:Int,CodeL p W B xs c->K (.int .i64 c) σ):zA Tryz.prog 102 [.agg [.int .i64 p,vP,vB],vL] σ K:=by
 have h1:=hR.P.one;have h2:=hR.B.one;have De:=hL;obtain⟨wl,al,rl,rfl,bp⟩:=hL;refine zA.gh ?_;refine zD mix Tryz.func102 ?_
 conv=>arg 2;cbv
 refine zF rfl ?_;simp only[Z3,seval,-ae,h1,h2];refine zAC hR dU λt ht=>?_;cases t
 .simp only[Z3,seval,-ae];exact Gh.fin0 (zC σ _) trivial (hk 1 (.inl ⟨λh=>(by have:=ht.2 h.1;simp at this),rfl⟩))
 .have hl:=ht.1 rfl;simp only[Z3,seval,-ae,h1,h2];refine Qc hR De sz hl.1.1.bd λt ht=>?_;cases t
  .simp only[Z3,seval,-ae];exact Gh.fin0 (zC σ _) trivial (hk 1 (.inl ⟨λh=>(by have:=ht.2 h.2;simp at this),rfl⟩))
  .have he:=ht.1 rfl;simp only[Z3,seval,-ae,h1,h2];refine zEd hR hl.1.w hl.1.b hl.1.1 λt ht=>?_;cases t
   .simp only[Z3,seval,-ae];exact Gh.fin0 (zC σ _) trivial (hk 5 (.inr (.inl ⟨⟨hl,he⟩,λh=>(by have:=ht.2 h;simp at this),rfl⟩)))
   .simp only[Z3,seval,-ae];exact Gh.fin0 (zC σ _) trivial (hk 0 (.inr (.inr ⟨⟨hl,he⟩,ht.1 rfl,rfl⟩)))
def brv(B:V3)(n:Nat)(f g:Vec):Vec:=λt=>sumN n λi=>sumN (n-1-i) λj=>(f i*g (i+1+j)-f (i+1+j)*g i)*at_ ((B.getD i []).getD j []) t
theorem zEr(q:OkB p n B)(a b:V1)(t:Nat):at_ (bsum B a b n) t=brv B n (at_ a) (at_ b) t:=bi_at q t (vM _)
theorem ZM(f f' g:Vec)(t:Nat):brv B n (λj=>f j+f' j) g t=brv B n f g t+brv B n f' g t:=by
 simp only[brv];rw[<-QT];refine qM λi _=>?_;rw[<-QT];refine qM λj _=>?_;grind
theorem zq(k:Int)(f g:Vec)(t:Nat):brv B n (λj=>k*f j) g t=k*brv B n f g t:=by
 simp only[brv];rw[<-Zb];refine qM λi _=>?_;rw[<-Zb];refine qM λj _=>?_;grind
theorem zZ(f g:Vec)(t:Nat):brv B n f g t=-1*brv B n g f t:=by
 simp only[brv];rw[<-Zb];refine qM λi _=>?_;rw[<-Zb];refine qM λj _=>?_;grind
theorem zAt{f f' g g':Vec}(h:∀j,j<n->f j=f' j)(h':∀j,j<n->g j=g' j)(t:Nat):brv B n f g t=brv B n f' g' t:=by
 simp only[brv];refine qM λi hi=>qM λj hj=>?_;rw[h i hi,h _ (by omega:i+1+j<n),h' i hi,h' _ (by omega:i+1+j<n)]
theorem zBF(g:Vec)(t:Nat):∀(m:Nat) (F:Nat->Vec),brv B n (λj=>sumN m λk=>F k j) g t=sumN m λk=>brv B n (F k) g t
 |0,F=>by
  simp only[sumN]
  have:=zq (B:=B) (n:=n) 0 (λ_=>0) g t
  simpa using this
 |m+1,F=>by
  simp only[sumN];rw[ZM,zBF g t m F]
theorem zCj:∀(m:Nat) (F:Nat->Vec),(∀k,k<m->Eqv p n W (F k) λ_=>0)->Eqv p n W (λj=>sumN m λk=>F k j) λ_=>0
 |0,F,_=>Eqv.of_eq λj=>rfl
 |m+1,F,h=>((zCj m F λk hk=>h k (by omega)).add (h m (by omega))).trans (Eqv.of_eq λj=>rfl)
theorem qR{j i:Nat}(hj:j<n):at_ (unitL n j) i=if i=j then 1 else 0:=by
 rw[unitL,at_set (by simpa using hj),zn]
theorem zF1(g:Vec){i:Nat}(hi:i<n):g i=sumN n λk=>g k*at_ (unitL n k) i:=by
 rw[zAO hi λk hk ar=>by rw[qR hk,if_neg (λe=>ar e.symm),Int.mul_zero]];rw[qR hi,if_pos rfl,Int.mul_one]
theorem zQO(o:OkW p n W)(q:OkB p n B)(nf:qE p W B n){i:Nat}(hi:i<n)(g:Vec):Eqv p n W (brv B n (rel p W i) g) λ_=>0:=by
 have one:∀j,j<n->Eqv p n W (brv B n (rel p W i) (at_ (unitL n j))) λ_=>0:=λj hj=>by
  have hF:=nf.1 i j hi hj;unfold F1 at hF;have ha:=(Zw o (br_el o q (a:=unitL n i) (b:=unitL n j)) p).2;have hb:Eqv p n W (at_ (br p W B n (unitL n i) (unitL n j))) (at_ (bsum B (unitL n i) (unitL n j) n)):=qX o (qm q);have hc:Eqv p n W (at_ (br p W B n (W.getD i []) (unitL n j))) (at_ (bsum B (W.getD i []) (unitL n j) n)):=qX o (qm q);rw[<-hF]at hc;have hd:Eqv p n W (λt=>p*at_ (bsum B (unitL n i) (unitL n j) n) t) (at_ (bsum B (W.getD i []) (unitL n j) n)):=((hb.mul p).symm.trans ha.symm).trans hc;have he:=hd.symm.add (Eqv.refl (p:=p) (n:=n) (W:=W) λt=>-1*(p*at_ (bsum B (unitL n i) (unitL n j) n) t));refine(Eqv.of_eq λt=>?_).trans (he.trans (Eqv.of_eq λt=>by grind));rw[zEr q,zEr q,<-zq,<-zq,<-ZM];refine zAt (λk hk=>?_) (λ_ _=>rfl) t;rw[qR hi,rel];by_cases e:k=i
  .rw[if_pos e,if_pos e];grind
  .rw[if_neg e,if_neg e];grind
 refine(Eqv.of_eq λt=>?_).trans (zCj n (λk t=>g k*brv B n (rel p W i) (at_ (unitL n k)) t) λk hk=>((one k hk).mul (g k)).trans (Eqv.of_eq λt=>by grind));rw[zZ,zAt (f':=λj=>sumN n λk=>g k*at_ (unitL n k) j) (g':=rel p W i) (λj hj=>zF1 g hj) (λ_ _=>rfl),zBF (t:=t) (g:=rel p W i) n (λk j=>g k*at_ (unitL n k) j),<-Zb];refine qM λk hk=>?_;rw[zq,zZ (f:=at_ (unitL n k))];grind
theorem Z4(o:OkW p n W)(q:OkB p n B)(nf:qE p W B n){f f':Vec}(g:Vec)(h:Eqv p n W f f'):Eqv p n W (brv B n f g) (brv B n f' g):=by
 obtain⟨c,hc⟩:=h;have h0:=zCj n (λi t=>c i*brv B n (rel p W i) g t) λk hk=>((zQO o q nf hk g).mul (c k)).trans (Eqv.of_eq λt=>by grind);refine(Eqv.of_eq λt=>?_).trans (((Eqv.refl (brv B n f' g)).add h0).trans (Eqv.of_eq λt=>by grind));rw[zAt (f':=λj=>f' j+sumN n λi=>c i*rel p W i j) (g':=g) (λj _=>hc j) (λ_ _=>rfl),ZM,zBF (t:=t) (g:=g) n (λi j=>c i*rel p W i j)];congr 1;exact qM λk hk=>by rw[zq]
theorem zEu(o:OkW p n W)(q:OkB p n B)(nf:qE p W B n){g g':Vec}(f:Vec)(h:Eqv p n W g g'):Eqv p n W (brv B n f g) (brv B n f g'):=
 ((Eqv.of_eq λt=>zZ f g t).trans ((Z4 o q nf f h).mul (-1))).trans (Eqv.of_eq λt=>(zZ f g' t).symm)
theorem qg(o:OkW p n W)(q:OkB p n B)(a b:V1):Eqv p n W (at_ (br p W B n a b)) (brv B n (at_ a) (at_ b)):=
 (qX o (qm q)).trans (Eqv.of_eq λt=>zEr q a b t)
theorem qO(o:OkW p n W){x:V1}(hx:El p n x)(k:Int):Eqv p n W (at_ (lmul p W k x)) λj=>k*at_ x j:=(Zw o hx k).2
theorem qP(o:OkW p n W){x y:V1}(hx:El p n x)(hy:El p n y):Eqv p n W (at_ (ladd p W x y)) λj=>at_ x j+at_ y j:=
 (qX o (by rw[zT (hx.1.trans hy.1.symm)];exact hx.1)).trans (Eqv.of_eq λj=>by rw[zo (hx.1.trans hy.1.symm)];omega)
theorem Zp(k:Int)(f g:Vec)(t:Nat):brv B n f (λj=>k*g j) t=k*brv B n f g t:=by
 rw[zZ,zq,zZ g f];grind
theorem third(o:OkW p n W)(q:OkB p n B)(nf:qE p W B n){x y b:V1}(hb:El p n b):
  ladd p W (br p W B n x b) (br p W B n y (lmul p W (-1) b))=norm p W (lmix 1 (br p W B n x b) (-1) (br p W B n y b)):=by
 have e1:El p n (br p W B n x b):=br_el o q;have e2:El p n (br p W B n y b):=br_el o q;have e3:El p n (br p W B n y (lmul p W (-1) b)):=br_el o q;have k1:Eqv p n W (at_ (br p W B n y (lmul p W (-1) b))) λj=>-1*at_ (br p W B n y b) j:=
  (qg o q _ _).trans (((zEu o q nf (at_ y) (qO o hb (-1))).trans (Eqv.of_eq λt=>Zp (-1) _ _ t)).trans ((qg o q y b).symm.mul (-1)))
 refine zFR o (by rw[zT (e1.1.trans e3.1.symm)];exact e1.1) (by rw[zT (e1.1.trans e2.1.symm)];exact e1.1) ?_;refine(Eqv.of_eq λj=>?_).trans (((Eqv.refl (at_ (br p W B n x b))).add k1).trans (Eqv.of_eq λj=>?_))
 .rw[zo (e1.1.trans e3.1.symm)];omega
 .rw[zo (e1.1.trans e2.1.symm)];omega
theorem zBm(g f:Vec)(t:Nat):brv B n f g t=sumN n λk=>g k*brv B n f (at_ (unitL n k)) t:=by
 rw[zZ,zAt (f':=λj=>sumN n λk=>g k*at_ (unitL n k) j) (g':=f) (λj hj=>zF1 g hj) (λ_ _=>rfl),zBF (t:=t) (g:=f) n (λk j=>g k*at_ (unitL n k) j),<-Zb];refine qM λk hk=>?_;rw[zq,zZ (f:=at_ (unitL n k))];grind
theorem zFg(o:OkW p n W)(q:OkB p n B)(nf:qE p W B n){u:V2}{f:Vec}(hf:Gen p n W u f):∀g:Vec,Gen p n W (brL p W B n u (units n)) (brv B n f g):=by
 have hS:=zM (p:=p) (n:=n) (W:=W) (brL p W B n u (units n));refine Zk (S:=λf=>∀g:Vec,Gen p n W (brL p W B n u (units n)) (brv B n f g)) ⟨λg=>?_,λf f' h h' g=>?_,λk f h g=>?_,λf f' h h' g=>?_⟩ (λv hv g=>?_) hf
 .refine hS.eqv _ _ (Eqv.of_eq λt=>?_) hS.zero
  have:=zq (B:=B) (n:=n) 0 (λ_=>0) g t
  simpa using this
 .exact hS.eqv _ _ (Eqv.of_eq λt=>ZM f f' g t) (hS.add _ _ (h g) (h' g))
 .exact hS.eqv _ _ (Eqv.of_eq λt=>zq k f g t) (hS.mul k _ (h g))
 .exact hS.eqv _ _ (Z4 o q nf g h) (h' g)
 .refine hS.eqv _ _ (Eqv.of_eq λt=>zBm g (at_ v) t) (hS.sum λk hk=>hS.mul (g k) _ ?_);refine hS.eqv _ _ (qg o q v (unitL n k)).symm (zQ (List.mem_flatMap.2 ⟨v,hv,List.mem_map.2 ⟨unitL n k,?_,rfl⟩⟩));exact List.mem_map.2 ⟨k,List.mem_range.2 hk,rfl⟩
theorem zGu(o:OkW p n W){x:V1}(hx:El p n x):Gen p n W (units n) (at_ x):=by
 have hS:=zM (p:=p) (n:=n) (W:=W) (units n);refine hS.eqv _ _ (Eqv.of_eq λt=>?_) (hS.sum (m:=n) (F:=λk j=>at_ x k*at_ (unitL n k) j) λk hk=>hS.mul (at_ x k) _ (zQ (List.mem_map.2 ⟨k,List.mem_range.2 hk,rfl⟩)));rcases Nat.lt_or_ge t n with h|h
 .exact zF1 (at_ x) h
 .rw[hx.beyond h,qV];intro k hk;rw[qR hk,if_neg (by omega),Int.mul_zero]
theorem zP6(o:OkW p n W)(q:OkB p n B)(nf:qE p W B n){u out:V2}(hc:Canon p n W (brL p W B n u (units n)) out){f:Vec}(hf:Gen p n W u f)(g:Vec):Gen p n W out (brv B n f g):=
 (hc.gen _).1 (zFg o q nf hf g)
theorem zKk(o:OkW p n W)(q:OkB p n B){c:Nat}(h:Cls p n W B c):∀k,∃u,Low p n W B k u/\(c<=k->u=[])\/k<c:=λk=>by
 rcases Nat.lt_or_ge k c with x|x
 .exact⟨[],.inr x⟩
 .obtain⟨d,rfl⟩:∃d,k=c+d:=⟨k-c,by omega⟩
  have:Low p n W B (c+d) []:=by
   clear x
   induction d with
   |zero=>exact h.1
   |succ d ih=>
    refine .succ ih ?_;have hb:brL p W B n [] (units n)=[]:=rfl;rw[hb];exact⟨.nil,List.Pairwise.nil,λf=>Iff.rfl⟩
  exact⟨[],.inl ⟨this,λ_=>rfl⟩⟩
theorem Zo(o:OkW p n W){z:V1}(hz:El p n z)(h:Eqv p n W (at_ z) λ_=>0):isZ z:=by
 have h1:=zCi o hz h (vM n) λ_ _=>rfl;intro x hx;obtain⟨j,hj,rfl⟩:=List.mem_iff_getElem.1 hx;rw[<-at_eq hj];exact h1 j (by rw[<-hz.1];exact hj)
end Go.Proofs
namespace Go.Grp
open Go.Ab Go.Lie
structure Mon{α:Type}(S:α->Prop)(m:α->α->α)(e:α):Prop where
 one:S e
 cl:∀{a b},S a->S b->S (m a b)
 «as»:∀{a b c},S a->S b->S c->m (m a b) c=m a (m b c)
 l1:∀{a},S a->m e a=a
 r1:∀{a},S a->m a e=a
section
variable{α:Type}{S:α->Prop}{m:α->α->α}{e:α}
def pw(m:α->α->α)(e x:α):Nat->α
 |0=>e
 |k+1=>m (pw m e x k) x
def rep(m:α->α->α)(x:α):Nat->α->α
 |0,a=>a
 |k+1,a=>rep m x k (m a x)
def ph(m:α->α->α)(e:α)(h:Nat->α)(x:Nat->Nat):Nat->Nat->α
 |t,0=>e
 |t,d+1=>m (pw m e (h t) (x t)) (ph m e h x (t+1) d)
def fo(m:α->α->α)(h:Nat->α)(x:Nat->Nat):Nat->Nat->α->α
 |t,0,a=>a
 |t,d+1,a=>fo m h x (t+1) d (rep m (h t) (x t) a)
theorem Mon.pw(M:Mon S m e){x:α}(hx:S x):∀k,S (pw m e x k)
 |0=>M.one
 |k+1=>M.cl (M.pw hx k) hx
theorem Mon.pw_add(M:Mon S m e){x:α}(hx:S x)(a:Nat):∀b,Grp.pw m e x (a+b)=m (Grp.pw m e x a) (Grp.pw m e x b)
 |0=>(M.r1 (M.pw hx a)).symm
 |b+1=>by
  show m (Grp.pw m e x (a+b)) x=m _ (m (Grp.pw m e x b) x);rw[M.pw_add hx a b,M.as (M.pw hx a) (M.pw hx b) hx]
theorem Mon.pw_one(M:Mon S m e){x:α}(hx:S x):Grp.pw m e x 1=x:=M.l1 hx
theorem Mon.pw_comm(M:Mon S m e){x:α}(hx:S x)(a:Nat):m (Grp.pw m e x a) x=m x (Grp.pw m e x a):=by
 have h1:=M.pw_add hx a 1;have h2:=M.pw_add hx 1 a;rw[M.pw_one hx]at h1 h2;rw[<-h1,<-h2,Nat.add_comm]
theorem Mon.rep_eq(M:Mon S m e){x:α}(hx:S x):∀(k:Nat) {a:α},S a->rep m x k a=m a (Grp.pw m e x k)
 |0,a,ha=>(M.r1 ha).symm
 |k+1,a,ha=>by
  show rep m x k (m a x)=m a (m (Grp.pw m e x k) x);rw[M.rep_eq hx k (M.cl ha hx),M.as ha hx (M.pw hx k),M.pw_comm hx k]
theorem Mon.ph(M:Mon S m e){h:Nat->α}{x:Nat->Nat}:∀{d t:Nat},(∀j,t<=j->j<t+d->S (h j))->S (ph m e h x t d)
 |0,t,_=>M.one
 |d+1,t,hh=>M.cl (M.pw (hh t (vM _) (by omega)) _) (M.ph λj h1 h2=>hh j (by omega) (by omega))
theorem Mon.fo_eq(M:Mon S m e){h:Nat->α}{x:Nat->Nat}:∀{d t:Nat} {a:α},(∀j,t<=j->j<t+d->S (h j))->S a->fo m h x t d a=m a (Grp.ph m e h x t d)
 |0,t,a,_,ha=>(M.r1 ha).symm
 |d+1,t,a,hh,ha=>by
  have ht:=hh t (vM _) (by omega);show fo m h x (t+1) d (rep m (h t) (x t) a)=m a (m _ _);rw[M.rep_eq ht _ ha,M.fo_eq (λj h1 h2=>hh j (by omega) (by omega)) (M.cl ha (M.pw ht _)),M.as ha (M.pw ht _) (M.ph λj h1 h2=>hh j (by omega) (by omega))]
theorem zCW{h h':Nat->α}{x x':Nat->Nat}:∀{d t:Nat},(∀j,t<=j->j<t+d->h j=h' j/\x j=x' j)->Grp.ph m e h x t d=Grp.ph m e h' x' t d
 |0,t,_=>rfl
 |d+1,t,hh=>by
  simp only[Grp.ph];rw[(hh t (vM _) (by omega)).1,(hh t (vM _) (by omega)).2,zCW λj h1 h2=>hh j (by omega) (by omega)]
theorem Mon.past_pw(M:Mon S m e){g u v:α}(hg:S g)(hu:S u)(hv:S v)(h:m u g=m g v):∀k,m (Grp.pw m e u k) g=m g (Grp.pw m e v k)
 |0=>by rw[Grp.pw,Grp.pw,M.l1 hg,M.r1 hg]
 |k+1=>by
  show m (m (Grp.pw m e u k) u) g=m g (m (Grp.pw m e v k) v);rw[M.as (M.pw hu k) hu hg,h,<-M.as (M.pw hu k) hg hv,M.past_pw hg hu hv h k,M.as hg (M.pw hv k) hv]
theorem Mon.past_ph(M:Mon S m e){g:α}(hg:S g){h h':Nat->α}{x:Nat->Nat}:∀{d t:Nat},(∀j,t<=j->j<t+d->S (h j)/\S (h' j)/\m (h j) g=m g (h' j))->m (Grp.ph m e h x t d) g=m g (Grp.ph m e h' x t d)
 |0,t,_=>by rw[Grp.ph,Grp.ph,M.l1 hg,M.r1 hg]
 |d+1,t,hh=>by
  obtain⟨h1,h2,h3⟩:=hh t (vM _) (by omega);have i1:=M.ph (x:=x) (λj a b=>(hh j (show t<=j by omega) (by omega)).1) (d:=d) (t:=t+1);have i2:=M.ph (x:=x) (λj a b=>(hh j (show t<=j by omega) (by omega)).2.1) (d:=d) (t:=t+1);show m (m _ _) g=m g (m _ _);rw[M.as (M.pw h1 _) i1 hg,M.past_ph hg λj a b=>hh j (by omega) (by omega),<-M.as (M.pw h1 _) hg i2,M.past_pw hg h1 h2 h3,M.as hg (M.pw h2 _) i2]
end
variable{O:V1}{P:V2}{C:V3}
structure TT(O:V1)(t:Nat)(x:V1):Prop where
 len:x.length=O.length
 bd:∀j,j<O.length->0<=at_ x j/\at_ x j<at_ O j
 zero:∀j,j<t->at_ x j=0
abbrev nx(x:V1)(j:Nat):Nat:=(at_ x j).toNat
abbrev cvec(C:V3)(i j:Nat):V1:=(C.getD i []).getD (j-i-1) []
abbrev pvec(P:V2)(i:Nat):V1:=P.getD i []
abbrev zv(O:V1):V1:=List.replicate O.length 0
structure Shp(O:V1)(P:V2)(C:V3):Prop where
 le:O.length<=6
 pr:∀j,j<O.length->2<=at_ O j/\at_ O j<=7
 pl:P.length=O.length
 cl:C.length=O.length
 pw:∀i,i<O.length->TT O (i+1) (pvec P i)
 row:∀i,i<O.length->(C.getD i []).length=O.length-1-i
 cj:∀i j,i<j->j<O.length->TT O (i+1) (cvec C i j)
def img(O:V1)(C:V3)(m:V1->V1->V1)(i:Nat)(x:V1):V1:=fo m (cvec C i) (nx x) (i+1) (O.length-1-i) (zv O)
def iter{α:Type}(f:α->α):Nat->α->α
 |0,a=>a
 |k+1,a=>iter f k (f a)
theorem zEi{α:Type}(f:α->α)(a b:Nat)(x:α):iter f (a+b) x=iter f b (iter f a x):=by
 induction a generalizing x with
 |zero=>rw[Nat.zero_add];rfl
 |succ a ih=>rw[show a+1+b=(a+b)+1 by omega];exact ih (f x)
def mu(O:V1)(P:V2)(C:V3):Nat->V1->V1->V1
 |0,_,_=>zv O
 |d+1,a,b=>
  let i:=O.length-(d+1)
  let r:=mu O P C d (iter (img O C (mu O P C d) i) (nx b i) (a.set i 0)) (b.set i 0)
  if at_ a i+at_ b i ≥ at_ O i then(mu O P C d (pvec P i) r).set i (at_ a i+at_ b i-at_ O i)else r.set i (at_ a i+at_ b i)
theorem TT.zv(t:Nat)(h:∀j,j<O.length->0<at_ O j):TT O t (zv O):=⟨by simp,λj hj=>by rw[zn];exact⟨by omega,h j hj⟩,λj _=>zn _ j⟩
theorem TT.mono{t t':Nat}{x:V1}(h:TT O t x)(ht:t'<=t):TT O t' x:=⟨h.len,h.bd,λj hj=>h.zero j (by omega)⟩
theorem TT.set{t i:Nat}{x:V1}(h:TT O t x)(hi:i<O.length)(yh:t<=i){c:Int}(hc:0<=c/\c<at_ O i):TT O t (x.set i c):=by
 have hl:i<x.length:=by rw[h.len];exact hi
 refine⟨by rw[List.length_set,h.len],λj hj=>?_,λj hj=>?_⟩
 .rw[at_set hl];split
  .rename_i e;subst e;exact hc
  .exact h.bd j hj
 .rw[at_set hl,if_neg (by omega)];exact h.zero j hj
theorem TT.set0{i:Nat}{x:V1}(h:TT O i x)(hi:i<O.length)(hO:0<at_ O i):TT O (i+1) (x.set i 0):=by
 have hl:i<x.length:=by rw[h.len];exact hi
 have h1:=h.set hi (vM _) (c:=0) ⟨by omega,hO⟩;refine⟨h1.len,h1.bd,λj hj=>?_⟩;rw[at_set hl];split
 .rfl
 .exact h.zero j (by omega)
theorem TT.ext{t:Nat}{x y:V1}(h:TT O t x)(g:TT O t y)(he:∀j,t<=j->j<O.length->at_ x j=at_ y j):x=y:=by
 refine Zl (by rw[h.len,g.len]) λj hj=>?_;rcases Nat.lt_or_ge j t with e|e
 .rw[h.zero j e,g.zero j e]
 .exact he j e (by rw[<-h.len];exact hj)
theorem Shp.pos(s:Shp O P C){j:Nat}(hj:j<O.length):0<at_ O j:=by have:=(s.pr j hj).1;omega
theorem Shp.zv(s:Shp O P C)(t:Nat):TT O t (zv O):=TT.zv t λj hj=>s.pos hj
theorem zMJ{α:Type}{S:α->Prop}{m:α->α->α}{x:α}(h:∀a,S a->S (m a x)):∀(k:Nat) {a:α},S a->S (rep m x k a)
 |0,a,ha=>ha
 |k+1,a,ha=>zMJ h k (h a ha)
theorem fo_in{α:Type}{S:α->Prop}{m:α->α->α}{h:Nat->α}{x:Nat->Nat}:∀{d t:Nat} {a:α},(∀j,t<=j->j<t+d->∀a,S a->S (m a (h j)))->S a->S (fo m h x t d a)
 |0,t,a,_,ha=>ha
 |d+1,t,a,hh,ha=>by
  show S (fo m h x (t+1) d (rep m (h t) (x t) a));exact fo_in (λj h1 h2=>hh j (by omega) (by omega)) (zMJ (hh t (vM _) (by omega)) (x t) ha)
theorem zBB{α:Type}{S:α->Prop}{f:α->α}(h:∀a,S a->S (f a)):∀(k:Nat) {a:α},S a->S (iter f k a)
 |0,a,ha=>ha
 |k+1,a,ha=>zBB h k (h a ha)
theorem Qk(s:Shp O P C){m:V1->V1->V1}{i:Nat}(hm:∀a b,TT O (i+1) a->TT O (i+1) b->TT O (i+1) (m a b))(x:V1):TT O (i+1) (img O C m i x):=
 fo_in (λj h1 h2 a ha=>hm a _ ha (s.cj i j (by omega) (by omega))) (s.zv _)
theorem mu_tt(s:Shp O P C):∀{d:Nat} {a b:V1},d<=O.length->TT O (O.length-d) a->TT O (O.length-d) b->TT O (O.length-d) (mu O P C d a b)
 |0,a,b,_,ha,hb=>s.zv _
 |d+1,a,b,hd,ha,hb=>by
  have hi:O.length-(d+1)<O.length:=by omega
  have e:O.length-d=O.length-(d+1)+1:=by omega
  have hm:∀a b,TT O (O.length-(d+1)+1) a->TT O (O.length-(d+1)+1) b->TT O (O.length-(d+1)+1) (mu O P C d a b):=by
   rw[<-e];exactλa b h1 h2=>mu_tt s (by omega) h1 h2
  have aF:=s.pos hi;have ba:=ha.bd _ hi;have bb:=hb.bd _ hi;have ir:=hm _ _ (zBB (λx _=>Qk s hm x) (nx b (O.length-(d+1))) (ha.set0 hi aF)) (hb.set0 hi aF);simp only[mu];split
  .exact((hm _ _ (s.pw _ hi) ir).mono (Nat.le_succ _)).set hi (vM _) ⟨by omega,by omega⟩
  .exact(ir.mono (Nat.le_succ _)).set hi (vM _) ⟨by omega,by omega⟩
end Go.Grp
namespace Go.Grp
open Go.Ab Go.Lie
variable{O:V1}{P:V2}{C:V3}{α:Type}{S:α->Prop}{m:α->α->α}{e:α}{h:Nat->α}{t0:Nat}
abbrev Ph(O:V1)(m:α->α->α)(e:α)(h:Nat->α)(d:Nat)(x:V1):α:=ph m e h (nx x) (O.length-d) d
structure Rel(O:V1)(P:V2)(C:V3)(S:α->Prop)(m:α->α->α)(e:α)(h:Nat->α)(t0:Nat):Prop where
 mem:∀j,t0<=j->j<O.length->S (h j)
 pow:∀j,t0<=j->j<O.length->pw m e (h j) (nx O j)=Ph O m e h (O.length-(j+1)) (pvec P j)
 cj:∀j k,t0<=j->j<k->k<O.length->m (h k) (h j)=m (h j) (Ph O m e h (O.length-(j+1)) (cvec C j k))
theorem Ph_in(M:Mon S m e)(r:Rel O P C S m e h t0){d:Nat}(hd:d<=O.length-t0)(x:V1):S (Ph O m e h d x):=M.ph λj h1 h2=>r.mem j (by omega) (by omega)
theorem zFz{d i:Nat}(hi:i<O.length-d){x:V1}(hx:x.length=O.length)(c:Int):Ph O m e h d (x.set i c)=Ph O m e h d x:=
 zCW λj h1 h2=>⟨rfl,by show(at_ _ j).toNat=(at_ x j).toNat;rw[at_set (by omega),if_neg (by omega)]⟩
theorem zKt{d:Nat}(hd:d<O.length)(x:V1):Ph O m e h (d+1) x=m (pw m e (h (O.length-(d+1))) (nx x (O.length-(d+1)))) (Ph O m e h d x):=by
 show ph m e h (nx x) _ (d+1)=_;rw[ph,show O.length-(d+1)+1=O.length-d by omega]
theorem Ph_zv(M:Mon S m e):∀d:Nat,Ph O m e h d (zv O)=e:=by
 intro d
 have:∀(d t:Nat),ph m e h (nx (zv O)) t d=e:=by
  intro d
  induction d with
  |zero=>intro t;rfl
  |succ d ih=>
   intro t;have h0:nx (zv O) t=0:=by show(at_ (zv O) t).toNat=0;rw[zn];rfl
   rw[ph,ih,h0];exact M.l1 M.one
 exact this d _
theorem Ph_fo(M:Mon S m e){T:V1->Prop}{mm:V1->V1->V1}{F:V1->α}(hF:∀a b,T a->T b->T (mm a b)/\F (mm a b)=m (F a) (F b)){c:Nat->V1}{x:Nat->Nat}:
  ∀{d t:Nat} {a:V1},(∀j,t<=j->j<t+d->T (c j))->T a->T (fo mm c x t d a)/\F (fo mm c x t d a)=fo m (λj=>F (c j)) x t d (F a)
 |0,t,a,_,ha=>⟨ha,rfl⟩
 |d+1,t,a,hc,ha=>by
  have hr:∀(k:Nat) {a:V1},T a->T (rep mm (c t) k a)/\F (rep mm (c t) k a)=rep m (F (c t)) k (F a):=by
   intro k
   induction k with
   |zero=>exactλha=>⟨ha,rfl⟩
   |succ k ih=>
    intro a ha;obtain⟨h1,h2⟩:=hF a (c t) ha (hc t (vM _) (by omega));obtain⟨h3,h4⟩:=ih h1;exact⟨h3,by show F (rep mm (c t) k (mm a (c t)))=rep m (F (c t)) k (m (F a) (F (c t)));rw[h4,h2]⟩
  obtain⟨h1,h2⟩:=hr (x t) ha;obtain⟨h3,h4⟩:=Ph_fo M hF (c:=c) (x:=x) (d:=d) (t:=t+1) (λj h1 h2=>hc j (by omega) (by omega)) h1;refine⟨h3,?_⟩;show F (fo mm c x (t+1) d _)=fo m _ x (t+1) d (rep m (F (c t)) (x t) (F a));rw[h4,h2]
theorem dyck(s:Shp O P C)(M:Mon S m e)(r:Rel O P C S m e h t0):∀{d:Nat},d<=O.length-t0->∀{a b:V1},TT O (O.length-d) a->TT O (O.length-d) b->Ph O m e h d (mu O P C d a b)=m (Ph O m e h d a) (Ph O m e h d b)
 |0,_,a,b,_,_=>(M.l1 M.one).symm
 |d+1,hd,a,b,ha,hb=>by
  have hi:O.length-(d+1)<O.length:=by omega
  have be:t0<=O.length-(d+1):=by omega
  have e1:O.length-d=O.length-(d+1)+1:=by omega
  have e2:O.length-1-(O.length-(d+1))=d:=by omega
  have e3:O.length-(O.length-(d+1)+1)=d:=by omega
  have aF:=s.pos hi;have ba:=ha.bd _ hi;have bb:=hb.bd _ hi;have hS:=r.mem _ be hi;have ih:∀{a b:V1},TT O (O.length-d) a->TT O (O.length-d) b->Ph O m e h d (mu O P C d a b)=m (Ph O m e h d a) (Ph O m e h d b):=λh1 h2=>dyck s M r (by omega) h1 h2;have cl:∀{a b:V1},TT O (O.length-d) a->TT O (O.length-d) b->TT O (O.length-d) (mu O P C d a b):=λh1 h2=>mu_tt s (by omega) h1 h2;have bX:∀x,S (Ph O m e h d x):=λx=>Ph_in M r (by omega) x;generalize aK:O.length-(d+1)=i at *
  have I7:∀{x:V1},TT O (O.length-d) x->TT O (O.length-d) (img O C (mu O P C d) i x)/\m (Ph O m e h d x) (h i)=m (h i) (Ph O m e h d (img O C (mu O P C d) i x)):=by
   intro x hx;have hc:∀j,i+1<=j->j<i+1+d->TT O (O.length-d) (cvec C i j):=λj h1 h2=>by rw[e1];exact s.cj i j (by omega) (by omega)
   have eS:TT O (O.length-d) (zv O):=s.zv _;obtain⟨f1,f2⟩:=Ph_fo M (T:=TT O (O.length-d)) (mm:=mu O P C d) (F:=Ph O m e h d) (λa b h1 h2=>⟨cl h1 h2,ih h1 h2⟩) (c:=cvec C i) (x:=nx x) hc eS;have Li:img O C (mu O P C d) i x=fo (mu O P C d) (cvec C i) (nx x) (i+1) d (zv O):=by rw[img,e2]
   rw[Li];refine⟨f1,?_⟩;rw[f2,Ph_zv M,M.fo_eq (λj _ _=>bX _) M.one,M.l1 (M.ph λj _ _=>bX _)];show m (ph m e h (nx x) (O.length-d) d) (h i)=_;rw[e1];refine M.past_ph hS λj h1 h2=>⟨r.mem j (by omega) (by omega),bX _,?_⟩
   have:=r.cj i j be (by omega) (by omega)
   rw[e3]at this;exact this
  have rh:∀(k:Nat) {x:V1},TT O (O.length-d) x->TT O (O.length-d) (iter (img O C (mu O P C d) i) k x)/\m (Ph O m e h d x) (pw m e (h i) k)=m (pw m e (h i) k) (Ph O m e h d (iter (img O C (mu O P C d) i) k x)):=by
   intro k
   induction k with
   |zero=>exactλ{x} hx=>⟨hx,by show m _ e=m e _;rw[M.r1 (bX x)];exact(M.l1 (bX x)).symm⟩
   |succ k ik=>
    intro x hx;obtain⟨g1,g2⟩:=I7 hx;obtain⟨g3,g4⟩:=ik g1;refine⟨g3,?_⟩;show m _ (m (pw m e (h i) k) (h i))=m (m (pw m e (h i) k) (h i)) (Ph O m e h d (iter _ k (img O C (mu O P C d) i x)));rw[M.pw_comm hS,<-M.as (bX _) hS (M.pw hS k),g2,M.as hS (bX _) (M.pw hS k),g4,<-M.as hS (M.pw hS k) (bX _)]
  have rQ:TT O (O.length-d) (a.set i 0):=by rw[e1];exact ha.set0 hi aF
  have oF:TT O (O.length-d) (b.set i 0):=by rw[e1];exact hb.set0 hi aF
  obtain⟨k1,k2⟩:=rh (nx b i) rQ;have il:i<O.length-d:=by omega
  rw[zFz il ha.len]at k2;have er:=ih k1 oF;rw[zFz il hb.len]at er;have ct:=cl k1 oF;have j8:∀x,Ph O m e h (d+1) x=m (pw m e (h i) (nx x i)) (Ph O m e h d x):=λx=>by rw[zKt (by omega),aK]
  rw[j8 a,j8 b,j8];generalize hL:iter (img O C (mu O P C d) i) (nx b i) (a.set i 0)=L at *
  have Lf:mu O P C (d+1) a b=if at_ a i+at_ b i ≥ at_ O i then(mu O P C d (pvec P i) (mu O P C d L (b.set i 0))).set i (at_ a i+at_ b i-at_ O i)else(mu O P C d L (b.set i 0)).set i (at_ a i+at_ b i):=by
   simp only[mu,aK,hL]
  have rhs:m (m (pw m e (h i) (nx a i)) (Ph O m e h d a)) (m (pw m e (h i) (nx b i)) (Ph O m e h d b))=m (pw m e (h i) (nx a i+nx b i)) (Ph O m e h d (mu O P C d L (b.set i 0))):=by
   rw[er,M.pw_add hS,M.as (M.pw hS _) (bX _) (M.cl (M.pw hS _) (bX _)),<-M.as (bX _) (M.pw hS _) (bX _),k2,M.as (M.pw hS _) (bX _) (bX _),<-M.as (M.pw hS _) (M.pw hS _) (M.cl (bX _) (bX _))]
  rw[rhs,Lf];have hn:(at_ a i+at_ b i).toNat=nx a i+nx b i:=by show _=(at_ a i).toNat+(at_ b i).toNat;omega
  have fD:∀{x:V1} (c:Int),TT O (O.length-d) x->nx (x.set i c) i=c.toNat:=λ{x} c hx=>by show(at_ _ i).toNat=_;rw[at_set (by rw[hx.len];exact hi),if_pos rfl]
  split
  .rename_i aG;have hp:TT O (O.length-d) (pvec P i):=by rw[e1];exact s.pw i hi
   have cp:=cl hp ct;rw[fD _ cp,zFz il cp.len,ih hp ct];have rp:=r.pow i be hi;rw[e3]at rp;rw[<-rp,<-M.as (M.pw hS _) (M.pw hS _) (bX _),<-M.pw_add hS];congr 2
   show(at_ a i+at_ b i-at_ O i).toNat+(at_ O i).toNat=(at_ a i).toNat+(at_ b i).toNat
   omega
  .rw[fD _ ct,zFz il ct.len,hn]
structure Gp{α:Type}(S:α->Prop)(m:α->α->α)(e:α):Prop extends Mon S m e where
 inv:∀{a},S a->∃b,S b/\m a b=e/\m b a=e
theorem Gp.cancel(G:Gp S m e){a b c:α}(ha:S a)(hb:S b)(hc:S c)(h:m a b=m a c):b=c:=by
 obtain⟨i,hi,_,h1⟩:=G.inv ha
 have:=congrArg (m i) h
 rwa[<-G.as hi ha hb,<-G.as hi ha hc,h1,G.l1 hb,G.l1 hc]at this
theorem Gp.of_right(M:Mon S m e)(hr:∀{a},S a->∃b,S b/\m a b=e):Gp S m e:=by
 refine⟨M,λ{a} ha=>?_⟩;obtain⟨b,hb,h1⟩:=hr ha;obtain⟨c,hc,h2⟩:=hr hb;refine⟨b,hb,h1,?_⟩
 have:a=c:=by rw[<-M.r1 ha,<-h2,<-M.as ha hb hc,h1,M.l1 hc]
 rw[this];exact h2
theorem Mon.pw_ind(M:Mon S m e){Q:α->Prop}(h1:Q e)(hm:∀a b,S a->S b->Q a->Q b->Q (m a b)){x:α}(hx:S x)(hq:Q x):∀k,Q (Grp.pw m e x k)
 |0=>h1
 |k+1=>hm _ _ (M.pw hx k) hx (M.pw_ind h1 hm hx hq k) hq
theorem Mon.ph_ind(M:Mon S m e){Q:α->Prop}(h1:Q e)(hm:∀a b,S a->S b->Q a->Q b->Q (m a b)){h:Nat->α}{x:Nat->Nat}:∀{d t:Nat},(∀j,t<=j->j<t+d->S (h j)/\Q (h j))->Q (Grp.ph m e h x t d)
 |0,t,_=>h1
 |d+1,t,hh=>by
  obtain⟨g1,g2⟩:=hh t (vM _) (by omega);exact hm _ _ (M.pw g1 _) (M.ph λj a b=>(hh j (by omega) (by omega)).1) (M.pw_ind h1 hm g1 g2 _) (M.ph_ind h1 hm λj a b=>hh j (by omega) (by omega))
theorem Mon.ph_skip(M:Mon S m e){h:Nat->α}{x:Nat->Nat}{d:Nat}:∀{k t:Nat},(∀j,t<=j->j<t+k->x j=0)->(∀j,t+k<=j->j<t+k+d->S (h j))->Grp.ph m e h x t (k+d)=Grp.ph m e h x (t+k) d
 |0,t,_,_=>by rw[Nat.zero_add,Nat.add_zero]
 |k+1,t,h0,hs=>by
  have:=M.ph_skip (h:=h) (x:=x) (d:=d) (k:=k) (t:=t+1) (λj a b=>h0 j (by omega) (by omega)) (λj a b=>hs j (by omega) (by omega))
  rw[show k+1+d=(k+d)+1 by omega,Grp.ph,h0 t (vM _) (by omega),this,show t+1+k=t+(k+1) by omega];exact M.l1 (M.ph λj a b=>hs j (by omega) (by omega))
abbrev unit(O:V1)(j:Nat):V1:=(zv O).set j 1
theorem Shp.unit(s:Shp O P C){t j:Nat}(hj:j<O.length)(ht:t<=j):TT O t (unit O j):=(s.zv t).set hj ht ⟨by omega,by have:=(s.pr j hj).1;omega⟩
structure Lv(O:V1)(P:V2)(C:V3)(i:Nat):Prop where
 pow:∀j,i<j->j<O.length->pw (mu O P C (O.length-1-i)) (zv O) (cvec C i j) (nx O j)=img O C (mu O P C (O.length-1-i)) i (pvec P j)
 cj:∀j k,i<j->j<k->k<O.length->mu O P C (O.length-1-i) (cvec C i k) (cvec C i j)=mu O P C (O.length-1-i) (cvec C i j) (img O C (mu O P C (O.length-1-i)) i (cvec C j k))
 fix:img O C (mu O P C (O.length-1-i)) i (pvec P i)=pvec P i
 inn:∀j,i<j->j<O.length->mu O P C (O.length-1-i) (pvec P i) (iter (img O C (mu O P C (O.length-1-i)) i) (nx O i) (unit O j))=mu O P C (O.length-1-i) (unit O j) (pvec P i)
structure Beh(O:V1)(P:V2)(C:V3)(d:Nat):Prop where
 le:d<=O.length
 gp:Gp (TT O (O.length-d)) (mu O P C d) (zv O)
 nf:∀{x},TT O (O.length-d) x->Ph O (mu O P C d) (zv O) (unit O) d x=x
theorem qN{x:V1}{i:Nat}(h:at_ x i=0)(hi:i<x.length):x.set i 0=x:=by
 refine Zl (by simp) λj hj=>?_;rw[at_set hi];split
 .rename_i e;subst e;exact h.symm
 .rfl
theorem zC5(x:V1)(i:Nat)(a b:Int):(x.set i a).set i b=x.set i b:=List.set_set ..
theorem zMF{x:V1}{i:Nat}(hi:i<x.length):(x.set i 0).set i (at_ x i)=x:=by
 rw[zC5];refine Zl (by simp) λj hj=>?_;rw[at_set hi];split
 .rename_i e;subst e;rfl
 .rfl
section
variable{d i:Nat}
abbrev al(O:V1)(P:V2)(C:V3)(d i:Nat):V1->V1:=img O C (mu O P C d) i
theorem al_ph(s:Shp O P C)(B:Beh O P C d)(hi:O.length-d=i+1)(x:V1):al O P C d i x=Ph O (mu O P C d) (zv O) (cvec C i) d x:=by
 have hle:=B.le;have hs:∀j,i+1<=j->j<i+1+d->TT O (O.length-d) (cvec C i j):=λj h1 h2=>by rw[hi];exact s.cj i j (by omega) (by omega)
 have e:O.length-1-i=d:=by omega
 show fo _ _ _ _ _ _=ph _ _ _ _ _ _;rw[e,B.gp.fo_eq hs B.gp.one,B.gp.l1 (B.gp.ph hs),hi]
theorem al_zv(s:Shp O P C)(B:Beh O P C d)(hi:O.length-d=i+1):al O P C d i (zv O)=zv O:=by rw[al_ph s B hi,Ph_zv B.gp.toMon]
theorem zQr(s:Shp O P C)(B:Beh O P C d)(hi:O.length-d=i+1)(L:Lv O P C i):Rel O P C (TT O (O.length-d)) (mu O P C d) (zv O) (cvec C i) (i+1):=by
 have hle:=B.le;have e:O.length-1-i=d:=by omega
 have hs:∀j,i+1<=j->j<O.length->TT O (O.length-d) (cvec C i j):=λj h1 h2=>by rw[hi];exact s.cj i j (by omega) h2
 have sk:∀{j:Nat} {x:V1},i<j->j<O.length->TT O (j+1) x->al O P C d i x=Ph O (mu O P C d) (zv O) (cvec C i) (O.length-(j+1)) x:=λ{j x} h1 h2 hx=>by
  rw[al_ph s B hi];show ph _ _ _ _ _ _=ph _ _ _ _ _ _
  have:=B.gp.toMon.ph_skip (h:=cvec C i) (x:=nx x) (d:=O.length-(j+1)) (k:=j-i) (t:=i+1) (λt a b=>by show(at_ x t).toNat=0;rw[hx.zero t (by omega)];rfl) (λt a b=>hs t (by omega) (by omega))
  rw[show j-i+(O.length-(j+1))=d by omega,show i+1+(j-i)=O.length-(O.length-(j+1)) by omega]at this;rw[hi];exact this
 refine⟨hs,λj h1 h2=>?_,λj k h1 h2 h3=>?_⟩
 .have:=L.pow j (by omega) h2
  rw[e]at this;rw[this];exact sk (by omega) h2 (s.pw j h2)
 .have:=L.cj j k (by omega) h2 h3
  rw[e]at this;rw[this];congr 1;exact sk (by omega) (by omega) (s.cj j k h2 h3)
theorem al_in(s:Shp O P C)(B:Beh O P C d)(hi:O.length-d=i+1)(x:V1):TT O (O.length-d) (al O P C d i x):=by
 rw[hi];exact Qk s (by rw[<-hi];exactλa b h1 h2=>B.gp.cl h1 h2) x
theorem zRC(s:Shp O P C)(B:Beh O P C d)(hi:O.length-d=i+1)(L:Lv O P C i){a b:V1}(ha:TT O (O.length-d) a)(hb:TT O (O.length-d) b):al O P C d i (mu O P C d a b)=mu O P C d (al O P C d i a) (al O P C d i b):=by
 rw[al_ph s B hi,al_ph s B hi,al_ph s B hi];exact dyck s B.gp.toMon (zQr s B hi L) (by have:=B.le;omega) ha hb
theorem it_in(s:Shp O P C)(B:Beh O P C d)(hi:O.length-d=i+1)(k:Nat){x:V1}(hx:TT O (O.length-d) x):TT O (O.length-d) (iter (al O P C d i) k x):=zBB (λa _=>al_in s B hi a) k hx
theorem zIJ(s:Shp O P C)(B:Beh O P C d)(hi:O.length-d=i+1)(L:Lv O P C i):∀(k:Nat) {a b:V1},TT O (O.length-d) a->TT O (O.length-d) b->iter (al O P C d i) k (mu O P C d a b)=mu O P C d (iter (al O P C d i) k a) (iter (al O P C d i) k b)
 |0,a,b,ha,hb=>rfl
 |k+1,a,b,ha,hb=>by
  show iter _ k (al O P C d i _)=_;rw[zRC s B hi L ha hb,zIJ s B hi L k (al_in s B hi a) (al_in s B hi b)];rfl
theorem zDI{f:V1->V1}{w:V1}(h:f w=w):∀k,iter f k w=w
 |0=>rfl
 |k+1=>by show iter f k (f w)=w;rw[h];exact zDI h k
theorem zP5(s:Shp O P C)(B:Beh O P C d)(hi:O.length-d=i+1)(L:Lv O P C i){x:V1}(hx:TT O (O.length-d) x):mu O P C d (pvec P i) (iter (al O P C d i) (nx O i) x)=mu O P C d x (pvec P i):=by
 have hle:=B.le;have aH:i<O.length:=by omega
 have e:O.length-1-i=d:=by omega
 have hw:TT O (O.length-d) (pvec P i):=by rw[hi];exact s.pw i aH
 have M:=B.gp.toMon
 have:=M.ph_ind (Q:=λx=>mu O P C d (pvec P i) (iter (al O P C d i) (nx O i) x)=mu O P C d x (pvec P i)) ?_ ?_ (h:=unit O) (x:=nx x) (d:=d) (t:=O.length-d) λj h1 h2=>⟨s.unit (by omega) h1,?_⟩
 .have nf:=B.nf hx;rw[show Ph O (mu O P C d) (zv O) (unit O) d x=ph (mu O P C d) (zv O) (unit O) (nx x) (O.length-d) d from rfl]at nf;rw[nf]at this;exact this
 .rw[zDI (al_zv s B hi),M.r1 hw,M.l1 hw]
 .intro a b ha hb h1 h2;rw[zIJ s B hi L _ ha hb,<-M.as hw (it_in s B hi _ ha) (it_in s B hi _ hb),h1,M.as ha hw (it_in s B hi _ hb),h2,<-M.as ha hb hw]
 .have:=L.inn j (by omega) (by omega)
  rw[e]at this;exact this
theorem zDq(s:Shp O P C)(B:Beh O P C d)(hi:O.length-d=i+1){a b:Int}{x y:V1}(hx:TT O (O.length-d) x)(hy:TT O (O.length-d) y):
  mu O P C (d+1) (x.set i a) (y.set i b)=if a+b ≥ at_ O i then(mu O P C d (pvec P i) (mu O P C d (iter (al O P C d i) b.toNat x) y)).set i (a+b-at_ O i)else(mu O P C d (iter (al O P C d i) b.toNat x) y).set i (a+b):=by
 have hle:=B.le;have aH:i<O.length:=by omega
 have h0:O.length-(d+1)=i:=by omega
 have xl:i<x.length:=by rw[hx.len];exact aH
 have yl:i<y.length:=by rw[hy.len];exact aH
 have zx:at_ x i=0:=hx.zero i (by omega);have zy:at_ y i=0:=hy.zero i (by omega);simp only[mu,h0];rw[zC5,zC5,qN zx xl,qN zy yl];have e1:at_ (x.set i a) i=a:=by rw[at_set xl,if_pos rfl]
 have e2:at_ (y.set i b) i=b:=by rw[at_set yl,if_pos rfl]
 show(if at_ (x.set i a) i+at_ (y.set i b) i ≥ _ then _ else _)=_
 have e3:nx (y.set i b) i=b.toNat:=by show(at_ _ i).toNat=_;rw[e2]
 rw[e1,e2,e3]
theorem pair(h:i<O.length){t:Nat}{x:V1}(hx:TT O i x)(aF:0<at_ O i):∃y a,TT O (i+1) y/\x=y.set i a/\0<=a/\a<at_ O i:=
 ⟨x.set i 0,at_ x i,hx.set0 h aF,(zMF (by rw[hx.len];exact h)).symm,(hx.bd i h).1,(hx.bd i h).2⟩
theorem zIn(s:Shp O P C)(B:Beh O P C d)(hi:O.length-d=i+1)(L:Lv O P C i):Beh O P C (d+1):=by
 have hle:=B.le;have aH:i<O.length:=by omega
 have h0:O.length-(d+1)=i:=by omega
 have e:O.length-1-i=d:=by omega
 have aF:=s.pos aH;have hw:TT O (O.length-d) (pvec P i):=by rw[hi];exact s.pw i aH
 have M:=B.gp.toMon;have mp:=λ{a b:Int} {x y:V1} (hx:TT O (O.length-d) x) (hy:TT O (O.length-d) y)=>zDq s B hi (a:=a) (b:=b) hx hy;have ii:=λ(k:Nat) {x:V1} (hx:TT O (O.length-d) x)=>it_in s B hi k hx;have im:=λ(k:Nat) {x y:V1} (hx:TT O (O.length-d) x) (hy:TT O (O.length-d) y)=>zIJ s B hi L k hx hy;have iw:∀k,iter (al O P C d i) k (pvec P i)=pvec P i:=λk=>zDI (by have:=L.fix;rw[e]at this;exact this) k;have iz:∀k,iter (al O P C d i) k (zv O)=zv O:=λk=>zDI (al_zv s B hi) k;have pr:∀{x:V1},TT O i x->∃y a,TT O (O.length-d) y/\x=y.set i a/\0<=a/\a<at_ O i:=λhx=>by rw[hi];exact pair aH (t:=0) hx aF
 have zs:zv O=(zv O).set i 0:=(qN (zn _ i) (by simp;exact aH)).symm;have hz:TT O (O.length-d) (zv O):=s.zv _;have l1:∀{a:V1},TT O i a->mu O P C (d+1) (zv O) a=a:=λ{a} ha=>by
  obtain⟨x,a,hx,rfl,b1,b2⟩:=pr ha;rw[zs,mp hz hx,if_neg (by omega),iz,M.l1 hx,Int.zero_add]
 have r1:∀{a:V1},TT O i a->mu O P C (d+1) a (zv O)=a:=λ{a} ha=>by
  obtain⟨x,a,hx,rfl,b1,b2⟩:=pr ha
  conv=>lhs;rw[zs]
  rw[mp hx hz,if_neg (by omega),Int.add_zero]
  show(mu O P C d x (zv O)).set i a=_
  rw[M.r1 hx]
 have cl:∀{a b:V1},TT O i a->TT O i b->TT O i (mu O P C (d+1) a b):=λ{a b} ha hb=>by
  have:=mu_tt s (d:=d+1) (by omega) (by rw[h0];exact ha) (by rw[h0];exact hb)
  rwa[h0]at this
 have DM:∀{a b c:V1},TT O i a->TT O i b->TT O i c->mu O P C (d+1) (mu O P C (d+1) a b) c=mu O P C (d+1) a (mu O P C (d+1) b c):=λ{a b c} ha hb hc=>by
  obtain⟨x,a,hx,rfl,a1,a2⟩:=pr ha;obtain⟨y,b,hy,rfl,b1,b2⟩:=pr hb;obtain⟨z,c,cG,rfl,c1,c2⟩:=pr hc;have A:=ii b.toNat hx;have Bc:=ii c.toNat hy;have AB:=M.cl A hy;have BZ:=M.cl Bc cG;have mL:=λ{u:V1} (hu:TT O (O.length-d) u)=>zP5 s B hi L hu;have ic:iter (al O P C d i) c.toNat (iter (al O P C d i) b.toNat x)=iter (al O P C d i) (b.toNat+c.toNat) x:=(zEi _ _ _ _).symm;have X:=ii (b.toNat+c.toNat) hx;rw[mp hx hy,mp hy cG];by_cases h1:a+b ≥ at_ O i
  .rw[if_pos h1,mp (M.cl hw AB) cG,im _ hw AB,iw,im _ A hy,ic];by_cases h2:b+c ≥ at_ O i
   .rw[if_pos h2,mp hx (M.cl hw BZ)];have hk:(b+c-at_ O i).toNat+nx O i=b.toNat+c.toNat:=by show _+(at_ O i).toNat=_;omega
    have hX:=mL (ii (b+c-at_ O i).toNat hx);rw[<-zEi,hk]at hX;have e5:mu O P C d (iter (al O P C d i) (b+c-at_ O i).toNat x) (mu O P C d (pvec P i) (mu O P C d (iter (al O P C d i) c.toNat y) z))=mu O P C d (mu O P C d (pvec P i) (mu O P C d (iter (al O P C d i) (b.toNat+c.toNat) x) (iter (al O P C d i) c.toNat y))) z:=by
     rw[<-M.as (ii _ hx) hw BZ,<-hX,M.as hw X BZ,<-M.as X Bc cG,<-M.as hw (M.cl X Bc) cG]
    rw[e5];by_cases h3:a+b-at_ O i+c ≥ at_ O i
    .rw[if_pos h3,if_pos (by omega)];congr 1;omega
    .rw[if_neg h3,if_neg (by omega)];congr 1;omega
   .rw[if_neg h2,mp hx BZ,if_neg (by omega),if_pos (by omega),show(b+c).toNat=b.toNat+c.toNat by omega];rw[<-M.as X Bc cG,<-M.as hw (M.cl X Bc) cG];congr 1;omega
  .rw[if_neg h1,mp AB cG,im _ A hy,ic];by_cases h2:b+c ≥ at_ O i
   .rw[if_pos h2,mp hx (M.cl hw BZ),if_pos (by omega),if_neg (by omega)];have hk:(b+c-at_ O i).toNat+nx O i=b.toNat+c.toNat:=by show _+(at_ O i).toNat=_;omega
    have hX:=mL (ii (b+c-at_ O i).toNat hx);rw[<-zEi,hk]at hX;rw[<-M.as (ii _ hx) hw BZ,<-hX,M.as hw X BZ,<-M.as X Bc cG];congr 1;omega
   .rw[if_neg h2,mp hx BZ,show(b+c).toNat=b.toNat+c.toNat by omega,<-M.as X Bc cG];by_cases h3:a+b+c ≥ at_ O i
    .rw[if_pos h3,if_pos (by omega)];congr 1;omega
    .rw[if_neg h3,if_neg (by omega)];congr 1;omega
 have Mn:Mon (TT O (O.length-(d+1))) (mu O P C (d+1)) (zv O):=by
  rw[h0];exact⟨s.zv _,cl,DM,l1,r1⟩
 refine⟨by omega,Gp.of_right Mn ?_,?_⟩
 .rw[h0];intro a ha;obtain⟨x,a,hx,rfl,a1,a2⟩:=pr ha;by_cases KD:a=0
  .subst KD;obtain⟨y,hy,h1,_⟩:=B.gp.inv hx;refine⟨y.set i 0,(hy.mono (by omega)).set aH (vM _) ⟨by omega,aF⟩,?_⟩;rw[mp hx hy,if_neg (by omega)]
   show(mu O P C d x y).set i _=_
   rw[h1,Int.add_zero];exact zs.symm
  .obtain⟨y,hy,h1,_⟩:=B.gp.inv (M.cl hw (ii (at_ O i-a).toNat hx));refine⟨y.set i (at_ O i-a),(hy.mono (by omega)).set aH (vM _) ⟨by omega,by omega⟩,?_⟩;rw[mp hx hy,if_pos (by omega),<-M.as hw (ii _ hx) hy,h1,show a+(at_ O i-a)-at_ O i=0 by omega];exact zs.symm
 .rw[h0];intro x hx;obtain⟨y,a,hy,rfl,a1,a2⟩:=pr hx;have yl:i<y.length:=by rw[hy.len];exact aH
  have hu:∀k:Nat,(k:Int)<at_ O i->pw (mu O P C (d+1)) (zv O) (unit O i) k=(zv O).set i k:=by
   intro k
   induction k with
   |zero=>intro _;exact zs
   |succ k ih=>
    intro hk;show mu O P C (d+1) (pw _ _ _ k) (unit O i)=_;rw[ih (by omega),mp hz hz,if_neg (by omega)]
    show(mu O P C d (al O P C d i (zv O)) (zv O)).set i _=_
    rw[al_zv s B hi,M.l1 hz];congr 1
  have sub:∀{u v:V1},TT O (O.length-d) u->TT O (O.length-d) v->mu O P C (d+1) u v=mu O P C d u v:=λ{u v} hu hv=>by
   have ul:i<u.length:=by rw[hu.len];exact aH
   have vl:i<v.length:=by rw[hv.len];exact aH
   have h3:=mp (a:=0) (b:=0) hu hv;rw[qN (hu.zero i (by omega)) ul,qN (hv.zero i (by omega)) vl,if_neg (by omega)]at h3;rw[h3];have uA:=M.cl hu hv;exact qN (uA.zero i (by omega)) (by show i<(mu O P C d u v).length;rw[uA.len];exact aH)
  have G7:∀{u:V1},TT O (O.length-d) u->∀k,pw (mu O P C (d+1)) (zv O) u k=pw (mu O P C d) (zv O) u k:=λ{u} hu k=>by
   induction k with
   |zero=>rfl
   |succ k ih=>show mu O P C (d+1) (pw _ _ u k) u=mu O P C d (pw _ _ u k) u;rw[ih,sub (M.pw hu k) hu]
  have Hb:∀(c t:Nat),O.length-d<=t->t+c<=O.length->ph (mu O P C (d+1)) (zv O) (unit O) (nx (y.set i a)) t c=ph (mu O P C d) (zv O) (unit O) (nx y) t c:=by
   intro c
   induction c with
   |zero=>intro t _ _;rfl
   |succ c ih=>
    intro t h1 h2;have EE:TT O (O.length-d) (unit O t):=s.unit (by omega) h1;have dk:nx (y.set i a) t=nx y t:=by show(at_ _ t).toNat=(at_ y t).toNat;rw[at_set yl,if_neg (by omega)]
    rw[ph,ph,ih (t+1) (by omega) (by omega),G7 EE,dk,sub (M.pw EE _) (M.ph λj g1 g2=>s.unit (by omega) (by omega))]
  rw[zKt (by omega),h0,show Ph O (mu O P C (d+1)) (zv O) (unit O) d (y.set i a)=Ph O (mu O P C d) (zv O) (unit O) d y from Hb d _ (vM _) (by omega),B.nf hy];have dk:nx (y.set i a) i=a.toNat:=by show(at_ _ i).toNat=_;rw[at_set yl,if_pos rfl]
  have ys:y=y.set i 0:=(qN (hy.zero i (by omega)) yl).symm;rw[dk,hu _ (by omega)]
  conv=>lhs;rw[ys]
  rw[mp hz hy,if_neg (by omega)]
  show(mu O P C d (zv O) y).set i _=_
  rw[M.l1 hy];congr 1;omega
theorem zIm(s:Shp O P C):Beh O P C 0:=by
 have h0:∀{x:V1},TT O (O.length-0) x->x=zv O:=λ{x} hx=>hx.ext (s.zv _) λj h1 h2=>by omega
 refine⟨Nat.zero_le _,⟨⟨s.zv _,λ_ _=>s.zv _,λ_ _ _=>rfl,λh=>(h0 h).symm,λh=>(h0 h).symm⟩,λh=>⟨zv O,s.zv _,rfl,rfl⟩⟩,λh=>(h0 h).symm⟩
end
def Cons(O:V1)(P:V2)(C:V3):Prop:=∀i,i<O.length->Lv O P C i
theorem zNl(s:Shp O P C):∀{d:Nat},d<=O.length->(∀i,O.length-d<=i->i<O.length->Lv O P C i)->Beh O P C d
 |0,_,_=>zIm s
 |d+1,hd,h=>zIn s (zNl s (by omega) λi h1 h2=>h i (by omega) h2) (by omega) (h (O.length-(d+1)) (vM _) (by omega))
end Go.Grp
namespace Go.Grp
open Go.Ab Go.Lie
variable{O:V1}{P:V2}{C:V3}{α:Type}{S:α->Prop}{m:α->α->α}{e:α}{h:Nat->α}{d i:Nat}
theorem zGG(s:Shp O P C)(hd:d+1<=O.length){u v:V1}(hu:TT O (O.length-d) u)(hv:TT O (O.length-d) v):mu O P C (d+1) u v=mu O P C d u v:=by
 have aH:O.length-(d+1)<O.length:=by omega
 have zu:=hu.zero (O.length-(d+1)) (by omega);have yR:=hv.zero (O.length-(d+1)) (by omega);have uA:=mu_tt s (by omega:d<=O.length) hu hv;have hp:=s.pos aH;simp only[mu];rw[qN zu (by rw[hu.len];exact aH),qN yR (by rw[hv.len];exact aH),zu,yR,if_neg (by omega)]
 have:nx v (O.length-(d+1))=0:=by show(at_ v _).toNat=0;rw[yR];rfl
 rw[this];exact qN (uA.zero _ (by omega)) (by show _<(mu O P C d u v).length;rw[uA.len];exact aH)
theorem zM5(s:Shp O P C):∀{k:Nat},d+k<=O.length->∀{u v:V1},TT O (O.length-d) u->TT O (O.length-d) v->mu O P C (d+k) u v=mu O P C d u v
 |0,_,u,v,_,_=>rfl
 |k+1,hk,u,v,hu,hv=>by
  rw[show d+(k+1)=(d+k)+1 by omega,zGG s (by omega) (hu.mono (by omega)) (hv.mono (by omega)),zM5 s (by omega) hu hv]
theorem zHf{m':α->α->α}(h:∀a b,S a->S b->m' a b=m a b)(M:Mon S m e){x:α}(hx:S x):∀k,pw m' e x k=pw m e x k
 |0=>rfl
 |k+1=>by show m' (pw m' e x k) x=m (pw m e x k) x;rw[zHf h M hx k,h _ _ (M.pw hx k) hx]
theorem zFM{m':α->α->α}(h:∀a b,S a->S b->m' a b=m a b)(M:Mon S m e){f:Nat->α}{x:Nat->Nat}:∀{c t:Nat},(∀j,t<=j->j<t+c->S (f j))->ph m' e f x t c=ph m e f x t c
 |0,t,_=>rfl
 |c+1,t,hf=>by
  have ht:=hf t (vM _) (by omega);have i:=zFM h M (f:=f) (x:=x) (c:=c) (t:=t+1) λj a b=>hf j (by omega) (by omega);rw[ph,ph,i,zHf h M ht];exact h _ _ (M.pw ht _) (M.ph λj a b=>hf j (by omega) (by omega))
theorem zQS{m:V1->V1->V1}(M:Mon (TT O (O.length-d)) m (zv O))(s:Shp O P C){f:Nat->V1}(hf:∀j,O.length-d<=j->j<O.length->TT O (O.length-d) (f j))(hd:d<=O.length){k:Nat}(h1:O.length-d<=k)(h2:k<O.length):Ph O m (zv O) f d (unit O k)=f k:=by
 have:∀(c t:Nat),O.length-d<=t->t+c=O.length->ph m (zv O) f (nx (unit O k)) t c=if t<=k then f k else zv O:=by
  intro c
  induction c with
  |zero=>intro t g1 g2;rw[ph,if_neg (by omega)]
  |succ c ih=>
   intro t g1 g2;have hn:nx (unit O k) t=if t=k then 1 else 0:=by
    show(at_ ((zv O).set k 1) t).toNat=_
    rw[at_set (by simp;exact h2)];split
    .rfl
    .rw[zn];rfl
   rw[ph,ih (t+1) (by omega) (by omega),hn];have ft:=hf t g1 (by omega);by_cases e:t=k
   .subst e;rw[if_pos rfl,if_neg (by omega),if_pos (vM _),M.pw_one ft,M.r1 ft]
   .rw[if_neg e];show m (zv O) _=_;by_cases g:t<=k
    .rw[if_pos (by omega),if_pos g,M.l1 (hf k h1 h2)]
    .rw[if_neg (by omega),if_neg g,M.l1 M.one]
 have:=this d (O.length-d) (vM _) (by omega)
 rw[if_pos h1]at this;exact this
structure Full(O:V1)(P:V2)(C:V3)(d:Nat):Prop extends Beh O P C d where
 rel:Rel O P C (TT O (O.length-d)) (mu O P C d) (zv O) (unit O) (O.length-d)
theorem zNU(s:Shp O P C):Full O P C 0:=⟨zIm s,⟨λj h1 h2=>s.unit h2 h1,λj h1 h2=>by omega,λj k h1 h2 h3=>by omega⟩⟩
theorem zNV(s:Shp O P C)(B:Full O P C d)(hi:O.length-d=i+1)(L:Lv O P C i):Full O P C (d+1):=by
 have hle:=B.le;have aH:i<O.length:=by omega
 have h0:O.length-(d+1)=i:=by omega
 have B1:=zIn s B.toBeh hi L;refine⟨B1,?_⟩;have M:=B.gp.toMon;have aF:=s.pos aH;have hz:TT O (O.length-d) (zv O):=s.zv _;have hw:TT O (O.length-d) (pvec P i):=by rw[hi];exact s.pw i aH
 have sub:∀a b,TT O (O.length-d) a->TT O (O.length-d) b->mu O P C (d+1) a b=mu O P C d a b:=λa b ha hb=>zGG s (by omega) ha hb;have un:∀j,O.length-d<=j->j<O.length->TT O (O.length-d) (unit O j):=λj h1 h2=>s.unit h2 h1;have mp:=λ{a b:Int} {x y:V1} (hx:TT O (O.length-d) x) (hy:TT O (O.length-d) y)=>zDq s B.toBeh hi (a:=a) (b:=b) hx hy;have zs:zv O=(zv O).set i 0:=(qN (zn _ i) (by simp;exact aH)).symm;have nfx:∀{j:Nat} {x:V1},i<=j->j<O.length->TT O (j+1) x->Ph O (mu O P C (d+1)) (zv O) (unit O) (O.length-(j+1)) x=x:=λ{j x} h1 h2 hx=>by
  have hn:=B.nf (hx.mono (by omega:O.length-d<=j+1));have e1:Ph O (mu O P C (d+1)) (zv O) (unit O) (O.length-(j+1)) x=Ph O (mu O P C d) (zv O) (unit O) (O.length-(j+1)) x:=zFM sub M λk a b=>un k (by omega) (by omega);rw[e1]
  have:=M.ph_skip (h:=unit O) (x:=nx x) (d:=O.length-(j+1)) (k:=j-i) (t:=O.length-d) (λt a b=>by show(at_ x t).toNat=0;rw[hx.zero t (by omega)];rfl) (λt a b=>un t (by omega) (by omega))
  rw[show j-i+(O.length-(j+1))=d by omega,show O.length-d+(j-i)=O.length-(O.length-(j+1)) by omega]at this;show ph _ _ _ _ _ _=x;rw[<-this];exact hn
 rw[h0];refine⟨λj h1 h2=>s.unit h2 h1,λj h1 h2=>?_,λj k h1 h2 h3=>?_⟩
 .rw[nfx h1 h2 (s.pw j h2)];by_cases e:j=i
  .subst e;have hu:∀k:Nat,(k:Int)<at_ O j->pw (mu O P C (d+1)) (zv O) (unit O j) k=(zv O).set j k:=by
    intro k
    induction k with
    |zero=>intro _;exact zs
    |succ k ih=>
     intro hk;show mu O P C (d+1) (pw _ _ _ k) (unit O j)=_;rw[ih (by omega),mp hz hz,if_neg (by omega)]
     show(mu O P C d (al O P C d j (zv O)) (zv O)).set j _=_
     rw[al_zv s B.toBeh hi,M.l1 hz];congr 1
   obtain⟨o,ho⟩:∃o:Nat,nx O j=o+1:=⟨nx O j-1,by show(at_ O j).toNat=_;have:nx O j=(at_ O j).toNat:=rfl;omega⟩
   have Mh:at_ O j=(o:Int)+1:=by have:nx O j=(at_ O j).toNat:=rfl;omega
   rw[ho];show mu O P C (d+1) (pw _ _ _ o) (unit O j)=_;rw[hu o (by omega),mp hz hz,if_pos (by omega)]
   show(mu O P C d (pvec P j) (mu O P C d (al O P C d j (zv O)) (zv O))).set j _=_
   rw[al_zv s B.toBeh hi,M.l1 hz,M.r1 hw,show(o:Int)+1-at_ O j=0 by omega];exact qN (hw.zero j (by omega)) (by rw[hw.len];exact aH)
  .rw[zHf sub M (un j (by omega) h2),B.rel.pow j (by omega) h2];have hn:=nfx h1 h2 (s.pw j h2);have e1:Ph O (mu O P C (d+1)) (zv O) (unit O) (O.length-(j+1)) (pvec P j)=Ph O (mu O P C d) (zv O) (unit O) (O.length-(j+1)) (pvec P j):=zFM sub M λk a b=>un k (by omega) (by omega);rw[<-e1];exact hn
 .rw[nfx h1 (by omega) (s.cj j k h2 h3)];by_cases e:j=i
  .subst e;have hc:TT O (O.length-d) (cvec C j k):=by rw[hi];exact s.cj j k h2 h3
   have uk:=un k (by omega) h3;have zu:=uk.zero j (by omega);have zc:=hc.zero j (by omega);have e1:mu O P C (d+1) (unit O k) (unit O j)=(cvec C j k).set j 1:=by
    have:=mp (a:=0) (b:=1) uk hz
    rw[qN zu (by rw[uk.len];exact aH),if_neg (by have:=(s.pr j aH).1;omega)]at this;rw[this]
    show(mu O P C d (al O P C d j (unit O k)) (zv O)).set j _=_
    rw[al_ph s B.toBeh hi,zQS M s (λq a b=>by rw[hi];exact s.cj j q (by omega) b) hle (by omega) h3,M.r1 hc];congr 1
   have e2:mu O P C (d+1) (unit O j) (cvec C j k)=(cvec C j k).set j 1:=by
    have:=mp (a:=1) (b:=0) hz hc
    rw[qN zc (by rw[hc.len];exact aH),if_neg (by have:=(s.pr j aH).1;omega)]at this;rw[this]
    show(mu O P C d (zv O) (cvec C j k)).set j _=_
    rw[M.l1 hc];congr 1
   rw[e1,e2]
  .have Jx:TT O (O.length-d) (cvec C j k):=(s.cj j k h2 h3).mono (by omega);have hn:=nfx h1 (by omega) (s.cj j k h2 h3);have e1:Ph O (mu O P C (d+1)) (zv O) (unit O) (O.length-(j+1)) (cvec C j k)=Ph O (mu O P C d) (zv O) (unit O) (O.length-(j+1)) (cvec C j k):=zFM sub M λk a b=>un k (by omega) (by omega);rw[e1]at hn
   have:=B.rel.cj j k (by omega) h2 h3
   rw[hn]at this;rw[sub _ _ (un k (by omega) h3) (un j (by omega) (by omega)),sub _ _ (un j (by omega) (by omega)) Jx];exact this
theorem full_of(s:Shp O P C):∀{d:Nat},d<=O.length->(∀i,O.length-d<=i->i<O.length->Lv O P C i)->Full O P C d
 |0,_,_=>zNU s
 |d+1,hd,h=>zNV s (full_of s (by omega) λi h1 h2=>h i (by omega) h2) (by omega) (h (O.length-(d+1)) (vM _) (by omega))
theorem Mon.ph_app(M:Mon S m e){f:Nat->α}{x:Nat->Nat}{b:Nat}:∀{a t:Nat},(∀j,t<=j->j<t+a+b->S (f j))->Grp.ph m e f x t (a+b)=m (Grp.ph m e f x t a) (Grp.ph m e f x (t+a) b)
 |0,t,hf=>by
  rw[Nat.zero_add,Nat.add_zero];exact(M.l1 (M.ph λj h1 h2=>hf j (by omega) (by omega))).symm
 |a+1,t,hf=>by
  have ft:=hf t (vM _) (by omega);rw[show a+1+b=(a+b)+1 by omega,Grp.ph,Grp.ph,M.ph_app λj h1 h2=>hf j (by omega) (by omega),show t+(a+1)=t+1+a by omega,M.as (M.pw ft _) (M.ph λj h1 h2=>hf j (by omega) (by omega)) (M.ph λj h1 h2=>hf j (by omega) (by omega))]
def hdz(x:V1)(j:Nat):V1:=x.take (j+1)++List.replicate (x.length-(j+1)) 0
theorem zDs(x:V1)(j:Nat):(hdz x j).length=x.length:=by simp[hdz];omega
theorem zCH(x:V1)(j k:Nat):at_ (hdz x j) k=if k<=j then at_ x k else 0:=by
 simp only[hdz,at_,List.getD_eq_getElem?_getD];by_cases hk:k<=j
 .rw[if_pos hk];by_cases hl:k<x.length
  .rw[List.getElem?_append_left (by simp;omega),List.getElem?_take,if_pos (by omega)]
  .rw[List.getElem?_eq_none (by simp;omega),List.getElem?_eq_none (by omega)]
 .rw[if_neg hk];by_cases hl:k<x.length
  .rw[List.getElem?_append_right (by simp;omega),List.getElem?_replicate];split<;>rfl
  .rw[List.getElem?_eq_none (by simp;omega)];rfl
theorem zIP{t j:Nat}{x:V1}(hx:TT O t x)(hO:∀j,j<O.length->0<at_ O j):TT O t (hdz x j):=by
 refine⟨by rw[zDs,hx.len],λk hk=>?_,λk hk=>?_⟩
 .rw[zCH];split
  .exact hx.bd k hk
  .exact⟨by omega,hO k hk⟩
 .rw[zCH];split
  .exact hx.zero k hk
  .rfl
def tstep(O:V1)(P:V2)(C:V3)(m:V1->V1->V1)(x:V1)(j:Nat):V1:=
 fo m (cvec C j) (nx x) (j+1) (O.length-1-j) (if at_ x j+1=at_ O j then m ((hdz x j).set j 0) (pvec P j)else(hdz x j).set j (at_ x j+1))
theorem zNy(s:Shp O P C)(B:Full O P C d){x:V1}(hx:TT O (O.length-d) x){j:Nat}(h1:O.length-d<=j)(h2:j<O.length):tstep O P C (mu O P C d) x j=mu O P C d x (unit O j):=by
 have hle:=B.le;have M:=B.gp.toMon;have aF:=s.pos h2;have bx:=hx.bd j h2;have un:∀k,O.length-d<=k->k<O.length->TT O (O.length-d) (unit O k):=λk a b=>s.unit b a;have cv:∀k,j+1<=k->k<O.length->TT O (O.length-d) (cvec C j k):=λk a b=>(s.cj j k (by omega) b).mono (by omega);have cQ:TT O (O.length-d) (pvec P j):=(s.pw j h2).mono (by omega);have uj:=un j h1 h2;have jl:j<(hdz x j).length:=by rw[zDs,hx.len];exact h2
 -- pn head, pn oW nO, pn rest
 let H:=ph (mu O P C d) (zv O) (unit O) (nx x) (O.length-d) (j-(O.length-d))
 have hH:TT O (O.length-d) H:=M.ph λk a b=>un k (by omega) (by omega);have DX:∀{y:V1},(∀k,k<j->at_ y k=at_ x k)->TT O (O.length-d) y->y=mu O P C d H (mu O P C d (pw (mu O P C d) (zv O) (unit O j) (nx y j)) (ph (mu O P C d) (zv O) (unit O) (nx y) (j+1) (O.length-1-j))):=λ{y} hy ht=>by
  have e1:=B.nf ht;have e2:Ph O (mu O P C d) (zv O) (unit O) d y=mu O P C d (ph (mu O P C d) (zv O) (unit O) (nx y) (O.length-d) (j-(O.length-d))) (ph (mu O P C d) (zv O) (unit O) (nx y) j (O.length-1-j+1)):=by
   have:=M.ph_app (f:=unit O) (x:=nx y) (a:=j-(O.length-d)) (b:=O.length-1-j+1) (t:=O.length-d) λk a b=>un k (by omega) (by omega)
   rw[show j-(O.length-d)+(O.length-1-j+1)=d by omega,show O.length-d+(j-(O.length-d))=j by omega]at this;exact this
  have e3:ph (mu O P C d) (zv O) (unit O) (nx y) (O.length-d) (j-(O.length-d))=H:=zCW λk a b=>⟨rfl,by show(at_ y k).toNat=(at_ x k).toNat;rw[hy k (by omega)]⟩
  rw[e3]at e2;exact e1.symm.trans e2
 have tv:∀{y:V1},(∀k,j<k->at_ y k=0)->ph (mu O P C d) (zv O) (unit O) (nx y) (j+1) (O.length-1-j)=zv O:=λ{y} hy=>by
  have e1:ph (mu O P C d) (zv O) (unit O) (nx y) (j+1) (O.length-1-j)=ph (mu O P C d) (zv O) (unit O) (nx (zv O)) (j+1) (O.length-1-j):=zCW λk a b=>⟨rfl,by show(at_ y k).toNat=(at_ (zv O) k).toNat;rw[hy k (by omega),zn]⟩
  rw[e1]
  have:=Ph_zv (O:=O) (h:=unit O) M (O.length-1-j)
  show ph _ _ _ _ _ _=_;rw[show j+1=O.length-(O.length-1-j) by omega];exact this
 let R:=ph (mu O P C d) (zv O) (unit O) (nx x) (j+1) (O.length-1-j)
 let R':=ph (mu O P C d) (zv O) (cvec C j) (nx x) (j+1) (O.length-1-j)
 have hR:TT O (O.length-d) R:=M.ph λk a b=>un k (by omega) (by omega);have nD:TT O (O.length-d) R':=M.ph λk a b=>cv k a (by omega);have mL:mu O P C d R (unit O j)=mu O P C d (unit O j) R':=M.past_ph uj λk a b=>⟨un k (by omega) (by omega),cv k a (by omega),by
  have:=B.rel.cj j k h1 (by omega) (by omega)
  have Hw:Ph O (mu O P C d) (zv O) (unit O) (O.length-(j+1)) (cvec C j k)=cvec C j k:=by
   have hc:=s.cj j k (by omega) (by omega);have hn:=B.nf (cv k a (by omega));have h3:=M.ph_skip (h:=unit O) (x:=nx (cvec C j k)) (d:=O.length-(j+1)) (k:=j+1-(O.length-d)) (t:=O.length-d) (λt a b=>by show(at_ _ t).toNat=0;rw[hc.zero t (by omega)];rfl) (λt a b=>un t (by omega) (by omega));rw[show j+1-(O.length-d)+(O.length-(j+1))=d by omega,show O.length-d+(j+1-(O.length-d))=O.length-(O.length-(j+1)) by omega]at h3;show ph _ _ _ _ _ _=_;rw[<-h3];exact hn
  rw[Hw]at this;exact this⟩
 have pj:pw (mu O P C d) (zv O) (unit O j) (nx O j)=pvec P j:=by
  rw[B.rel.pow j h1 h2];have hc:=s.pw j h2;have hn:=B.nf cQ;have h3:=M.ph_skip (h:=unit O) (x:=nx (pvec P j)) (d:=O.length-(j+1)) (k:=j+1-(O.length-d)) (t:=O.length-d) (λt a b=>by show(at_ _ t).toNat=0;rw[hc.zero t (by omega)];rfl) (λt a b=>un t (by omega) (by omega));rw[show j+1-(O.length-d)+(O.length-(j+1))=d by omega,show O.length-d+(j+1-(O.length-d))=O.length-(O.length-(j+1)) by omega]at h3;show ph _ _ _ _ _ _=_;rw[<-h3];exact hn
 have sy:∀k,TT O (O.length-d) (pw (mu O P C d) (zv O) (unit O j) k):=λk=>M.pw uj k
 -- both DY Ls H g^(e+1) R'
 have rhs:mu O P C d x (unit O j)=mu O P C d (mu O P C d H (pw (mu O P C d) (zv O) (unit O j) (nx x j+1))) R':=by
  conv=>lhs;rw[DX (λ_ _=>rfl) hx]
  rw[M.as hH (M.cl (sy _) hR) uj,M.as (sy _) hR uj,mL,<-M.as (sy _) uj nD,M.as hH (sy (nx x j+1)) nD];rfl
 have CM:∀{c:Int},0<=c->c<at_ O j->(hdz x j).set j c=mu O P C d H (pw (mu O P C d) (zv O) (unit O j) c.toNat):=λ{c} c0 c1=>by
  have ht:TT O (O.length-d) ((hdz x j).set j c):=(zIP hx λk hk=>s.pos hk).set h2 h1 ⟨c0,c1⟩;have hs:=DX (y:=(hdz x j).set j c) (λk hk=>by rw[at_set jl,if_neg (by omega),zCH,if_pos (by omega)]) ht;rw[tv λk hk=>by rw[at_set jl,if_neg (by omega),zCH,if_neg (by omega)],M.r1 (sy _)]at hs;rw[hs];congr 2
  show(at_ _ j).toNat=_
  rw[at_set jl,if_pos rfl]
 have lhs:(if at_ x j+1=at_ O j then mu O P C d ((hdz x j).set j 0) (pvec P j)else(hdz x j).set j (at_ x j+1))=mu O P C d H (pw (mu O P C d) (zv O) (unit O j) (nx x j+1)):=by
  split
  .rename_i hc;rw[CM (Int.le_refl _) aF,<-pj,show nx O j=nx x j+1 by show(at_ O j).toNat=(at_ x j).toNat+1;omega];show mu O P C d (mu O P C d H (zv O)) _=_;rw[M.r1 hH]
  .rw[CM (by omega) (by omega),show(at_ x j+1).toNat=nx x j+1 by show _=(at_ x j).toNat+1;omega]
 rw[tstep,lhs,rhs];exact M.fo_eq (λk a b=>cv k a (by omega)) (M.cl hH (sy _))
theorem zFf(s:Shp O P C)(M:Mon S m e)(r:Rel O P C S m e h 0)(hi:i<O.length){x:V1}(hx:TT O (i+1) x):
  TT O (i+1) (img O C (mu O P C (O.length-1-i)) i x)/\m (Ph O m e h (O.length-1-i) x) (h i)=m (h i) (Ph O m e h (O.length-1-i) (img O C (mu O P C (O.length-1-i)) i x)):=by
 have e1:O.length-(O.length-1-i)=i+1:=by omega
 have e3:O.length-(i+1)=O.length-1-i:=by omega
 have hS:=r.mem i (Nat.zero_le _) hi;have ih:∀{a b:V1},TT O (i+1) a->TT O (i+1) b->Ph O m e h (O.length-1-i) (mu O P C (O.length-1-i) a b)=m (Ph O m e h (O.length-1-i) a) (Ph O m e h (O.length-1-i) b):=λh1 h2=>dyck s M r (by omega) (by rw[e1];exact h1) (by rw[e1];exact h2);have cl:∀{a b:V1},TT O (i+1) a->TT O (i+1) b->TT O (i+1) (mu O P C (O.length-1-i) a b):=λh1 h2=>by have:=mu_tt s (d:=O.length-1-i) (by omega) (a:=_) (b:=_) (by rw[e1];exact h1) (by rw[e1];exact h2);rw[e1]at this;exact this
 have bX:∀x,S (Ph O m e h (O.length-1-i) x):=λx=>Ph_in M r (by omega) x;have hc:∀j,i+1<=j->j<i+1+(O.length-1-i)->TT O (i+1) (cvec C i j):=λj h1 h2=>s.cj i j (by omega) (by omega);have eS:TT O (i+1) (zv O):=s.zv _;obtain⟨f1,f2⟩:=Ph_fo M (T:=TT O (i+1)) (mm:=mu O P C (O.length-1-i)) (F:=Ph O m e h (O.length-1-i)) (λa b h1 h2=>⟨cl h1 h2,ih h1 h2⟩) (c:=cvec C i) (x:=nx x) hc eS;refine⟨f1,?_⟩;unfold img;rw[f2,Ph_zv M,M.fo_eq (λj _ _=>bX _) M.one,M.l1 (M.ph λj _ _=>bX _)];show m (ph m e h (nx x) (O.length-(O.length-1-i)) (O.length-1-i)) (h i)=_;rw[e1];refine M.past_ph hS λj h1 h2=>⟨r.mem j (by omega) (by omega),bX _,?_⟩
 have:=r.cj i j (Nat.zero_le _) (by omega) (by omega)
 rw[e3]at this;exact this
theorem zQB(s:Shp O P C)(M:Mon S m e)(r:Rel O P C S m e h 0)(hi:i<O.length):∀(k:Nat) {x:V1},TT O (i+1) x->
  TT O (i+1) (iter (img O C (mu O P C (O.length-1-i)) i) k x)/\m (Ph O m e h (O.length-1-i) x) (pw m e (h i) k)=m (pw m e (h i) k) (Ph O m e h (O.length-1-i) (iter (img O C (mu O P C (O.length-1-i)) i) k x)):=by
 have hS:=r.mem i (Nat.zero_le _) hi;have bX:∀x,S (Ph O m e h (O.length-1-i) x):=λx=>Ph_in M r (by omega) x;intro k
 induction k with
 |zero=>exactλ{x} hx=>⟨hx,by show m _ e=m e _;rw[M.r1 (bX x)];exact(M.l1 (bX x)).symm⟩
 |succ k ik=>
  intro x hx;obtain⟨g1,g2⟩:=zFf s M r hi hx;obtain⟨g3,g4⟩:=ik g1;refine⟨g3,?_⟩;show m _ (m (pw m e (h i) k) (h i))=m (m (pw m e (h i) k) (h i)) (Ph O m e h _ (iter _ k (img O C _ i x)));rw[M.pw_comm hS,<-M.as (bX _) hS (M.pw hS k),g2,M.as hS (bX _) (M.pw hS k),g4,<-M.as hS (M.pw hS k) (bX _)]
theorem Cons.of_rel(s:Shp O P C)(G:Gp S m e)(r:Rel O P C S m e h 0)(inj:∀i,i<O.length->∀x y,TT O (i+1) x->TT O (i+1) y->Ph O m e h (O.length-1-i) x=Ph O m e h (O.length-1-i) y->x=y)(low:∀i j x,i<j->j<O.length->TT O (j+1) x->Ph O m e h (O.length-1-i) x=Ph O m e h (O.length-(j+1)) x)(un:∀i j,i<j->j<O.length->Ph O m e h (O.length-1-i) (unit O j)=h j):Cons O P C:=by
 have M:=G.toMon;intro i hi;have e1:O.length-(O.length-1-i)=i+1:=by omega
 have e3:O.length-(i+1)=O.length-1-i:=by omega
 have hS:=r.mem i (Nat.zero_le _) hi;have bX:∀x,S (Ph O m e h (O.length-1-i) x):=λx=>Ph_in M r (by omega) x;have ih:∀{a b:V1},TT O (i+1) a->TT O (i+1) b->Ph O m e h (O.length-1-i) (mu O P C (O.length-1-i) a b)=m (Ph O m e h (O.length-1-i) a) (Ph O m e h (O.length-1-i) b):=λh1 h2=>dyck s M r (by omega) (by rw[e1];exact h1) (by rw[e1];exact h2);have cl:∀{a b:V1},TT O (i+1) a->TT O (i+1) b->TT O (i+1) (mu O P C (O.length-1-i) a b):=λh1 h2=>by have:=mu_tt s (d:=O.length-1-i) (by omega) (a:=_) (b:=_) (by rw[e1];exact h1) (by rw[e1];exact h2);rw[e1]at this;exact this
 have x7:∀j,i<j->j<O.length->m (h j) (h i)=m (h i) (Ph O m e h (O.length-1-i) (cvec C i j)):=λj h1 h2=>by have:=r.cj i j (Nat.zero_le _) h1 h2;rw[e3]at this;exact this
 have AG:∀{a:V1},TT O (i+1) a->∀k,TT O (i+1) (pw (mu O P C (O.length-1-i)) (zv O) a k)/\Ph O m e h (O.length-1-i) (pw (mu O P C (O.length-1-i)) (zv O) a k)=pw m e (Ph O m e h (O.length-1-i) a) k:=λ{a} ha k=>by
  induction k with
  |zero=>exact⟨s.zv _,Ph_zv M _⟩
  |succ k ik=>exact⟨cl ik.1 ha,by show Ph O m e h _ (mu O P C _ (pw _ _ a k) a)=m _ _;rw[ih ik.1 ha,ik.2]⟩
 have DJ:∀j,i<j->j<O.length->∀k,m (pw m e (h j) k) (h i)=m (h i) (pw m e (Ph O m e h (O.length-1-i) (cvec C i j)) k):=λj h1 h2 k=>by
  have hj:=r.mem j (Nat.zero_le _) h2
  induction k with
  |zero=>show m e (h i)=m (h i) e;rw[M.l1 hS,M.r1 hS]
  |succ k ik=>
   show m (m (pw m e (h j) k) (h j)) (h i)=m (h i) (m (pw m e _ k) _);rw[M.as (M.pw hj k) hj hS,x7 j h1 h2,<-M.as (M.pw hj k) hS (bX _),ik,M.as hS (M.pw (bX _) k) (bX _)]
 have ti:∀j,i<j->j<O.length->TT O (i+1) (cvec C i j):=λj h1 h2=>s.cj i j h1 h2;have tp:∀j,i<=j->j<O.length->TT O (i+1) (pvec P j):=λj h1 h2=>(s.pw j h2).mono (by omega);refine⟨λj h1 h2=>?_,λj k h1 h2 h3=>?_,?_,λj h1 h2=>?_⟩
 .obtain⟨a1,a2⟩:=AG (ti j h1 h2) (nx O j);obtain⟨b1,b2⟩:=zFf s M r hi (tp j (by omega) h2);refine inj i hi _ _ a1 b1 (G.cancel hS (bX _) (bX _) ?_);rw[a2,<-DJ j h1 h2,<-b2,low i j _ h1 h2 (s.pw j h2),r.pow j (Nat.zero_le _) h2]
 .have tc:TT O (i+1) (cvec C j k):=(s.cj j k h2 h3).mono (by omega);obtain⟨b1,b2⟩:=zFf s M r hi tc;have hj:=r.mem j (Nat.zero_le _) (by omega);have hk:=r.mem k (Nat.zero_le _) h3;refine inj i hi _ _ (cl (ti k (by omega) h3) (ti j h1 (by omega))) (cl (ti j h1 (by omega)) b1) (G.cancel hS (bX _) (bX _) ?_);rw[ih (ti k (by omega) h3) (ti j h1 (by omega)),ih (ti j h1 (by omega)) b1,<-M.as hS (bX _) (bX _),<-x7 k (by omega) h3,M.as hk hS (bX _),<-x7 j h1 (by omega),<-M.as hk hj hS,<-M.as hS (bX _) (bX _),<-x7 j h1 (by omega),M.as hj hS (bX _),<-b2,<-M.as hj (bX _) hS,r.cj j k (Nat.zero_le _) h2 h3,low i j _ h1 (by omega) (s.cj j k h2 h3)]
 .obtain⟨b1,b2⟩:=zFf s M r hi (tp i (vM _) hi);have hp:=r.pow i (Nat.zero_le _) hi;rw[e3]at hp;refine inj i hi _ _ b1 (tp i (vM _) hi) (G.cancel hS (bX _) (bX _) ?_);rw[<-b2,<-hp,M.pw_comm hS]
 .obtain⟨b1,b2⟩:=zQB s M r hi (nx O i) (s.unit h2 (by omega):TT O (i+1) (unit O j));have hp:=r.pow i (Nat.zero_le _) hi;rw[e3]at hp;refine inj i hi _ _ (cl (tp i (vM _) hi) b1) (cl (s.unit h2 (by omega)) (tp i (vM _) hi)) ?_;rw[ih (tp i (vM _) hi) b1,ih (s.unit h2 (by omega)) (tp i (vM _) hi),<-hp,b2]
end Go.Grp
namespace Go.Grp
end Go.Grp
namespace Go.Proofs
open Go.Ab Go.Lie Go.Grp
variable{σ:PHeap}{K:PV->PHeap->Prop}{O:V1}{P:V2}{C:V3}{vO vP vC vx:PV}{s:Nat}{x:V1}
structure IsPr(vO vP vC:PV)(O:V1)(P:V2)(C:V3):Prop where
 O:FI vO O
 P:FII vP P
 C:FIII vC C
structure SzP(O:V1)(P:V2)(C:V3):Prop where
 O:O.length<=1048576
 P:SzL P
 C:SzM C
structure PtrG(σ:PHeap)(s:Nat)(vO vP vC:PV):Prop where
 obj:σ.obj s=some [vO,vP,vC]
 lt:s<σ.next
theorem PtrG.new(h:PtrG σ s vO vP vC)(cs:List PV):PtrG (σ.new cs) s vO vP vC:=⟨by have:=h.lt;simp only[Z3,seval,-ae,Nat.ne_of_lt this];exact h.obj,by have:=h.lt;simp only[Z3,seval,-ae];omega⟩
theorem PtrG.set(h:PtrG σ s vO vP vC){t:Nat}(ht:s≠t)(cs:List PV):PtrG (σ.set t cs) s vO vP vC:=⟨by simp only[Z3,seval,-ae,ht];exact h.obj,h.lt⟩
theorem PtrG.keep{h:PHeap}(hs:PtrG σ s vO vP vC)(hk:Keep σ h):PtrG h s vO vP vC:=⟨by rw[hk.obj s hs.lt];exact hs.obj,Nat.lt_of_lt_of_le hs.lt hk.next⟩
def isExp(O x:V1):Prop:=x.length=O.length/\∀j,j<x.length->0<=at_ x j/\at_ x j<=at_ O j-1
def Zx(O:V1)(t:Nat)(x:V1):Prop:=isExp O x/\isZ (x.take t)
def prodL:V1->Int
 |[]=>1
 |o::O=>o*prodL O
def rowPr(O:V1)(P:V2)(C:V3)(i:Nat):Prop:=Zx O (i+1) (P.getD i [])/\(C.getD i []).length=O.length-1-i/\∀k,k<(C.getD i []).length->Zx O (i+1) ((C.getD i []).getD k [])
def qx(O:V1)(P:V2)(C:V3):Prop:=
 O.length<=6/\P.length=O.length/\C.length=O.length/\(∀o∈O,isP o)/\prodL O<=729/\∀i,i<O.length->rowPr O P C i
theorem Zx.tt{t:Nat}(h:Zx O t x):TT O t x:=by
 refine⟨h.1.1,λj hj=>by have:=h.1.2 j (by rw[h.1.1];exact hj);omega,λj hj=>?_⟩;rcases Nat.lt_or_ge j x.length with e|e
 .rw[at_eq e];exact h.2 _ (by rw[List.mem_take_iff_getElem];exact⟨j,by omega,rfl⟩)
 .exact at_ge e
theorem qx.shp(h:qx O P C):Shp O P C:=by
 obtain⟨h1,h2,h3,h4,h5,h6⟩:=h;refine⟨h1,λj hj=>?_,h2,h3,λi hi=>(h6 i hi).1.tt,λi hi=>(h6 i hi).2.1,λi j kV hj=>?_⟩
 .rw[at_eq hj];exact(h4 _ (List.getElem_mem hj)).bd
 .have:=(h6 i (by omega)).2.2 (j-i-1) (by rw[(h6 i (by omega)).2.1];omega)
  exact this.tt
theorem zCF(hs:PtrG σ s vO vP vC)(hO:FI vO O)(xV:O.length<=1048576)(bO:∀o∈O,isP o)(hx:FI vx x)(hb:x.length<=1048576)(hk:∀t:Bool,(t=true↔isExp O x)->K (.bool t) σ):zA Tryz.prog 119 [.ptr s 0,vx] σ K:=by
 have fl:∀{A:Prop},¬A->((false=true)↔A):=λh=>⟨λx=>(by cases x),λx=>absurd x h⟩
 obtain⟨wo,ao,rfl⟩:=hO;obtain⟨wx,ax,rfl⟩:=hx;have e0:σ.rd1 s 0=some (.fz wo ao O.length (pis O)):=by rw[zI hs.obj];rfl
 refine zD mix Tryz.func119 ?_
 conv=>arg 2;cbv
 refine zF rfl ?_;simp only[Z3,seval,-ae,e0];refine iteI (λhl=>?_) λhl=>?_;rotate_left
 .exact hk _ (fl λh=>hl (by rw[h.1]))
 have hl:x.length=O.length:=by omega
 refine zG (λm vs h'=>∃i:Nat,i<=x.length/\m=x.length-i/\vs=[.ptr s 0,.fz wx ax x.length (pis x),.int .i64 x.length,.int .i64 i]/\σ=h'/\∀j,j<i->0<=at_ x j/\at_ x j<=at_ O j-1) x.length ?_ ?_
 .exact⟨0,by omega,by omega,rfl,rfl,λj hj=>by omega⟩
 rintro m vs h' ⟨i,hi,rfl,rfl,rfl,aj⟩
 simp only[Z3,seval,-ae];refine iteI (λah=>?_) λaG=>?_
 .have lK:i<O.length:=by omega
  have bo:=(bO _ (List.getElem_mem lK)).bd;simp only[Z3,seval,-ae,ah,lK,e0,gi ah,gi lK,zU,wrap64 (n:=O[i] - 1) (by omega) (by omega)];refine zGq ?_;by_cases cA:0<=x[i]/\x[i]<=O[i] - 1
  .simp only[Z3,seval,-ae,cA,wrapS ah (by omega:x.length<=4611686018427387904)];refine⟨_,by omega,i+1,by omega,rfl,rfl,λj hj=>?_⟩;by_cases e:j=i
   .subst e;rw[at_eq ah,at_eq lK];exact cA
   .exact aj j (by omega)
  .simp only[Z3,seval,-ae,cA];exact hk _ (fl λh=>cA (by have:=h.2 i ah;rwa[at_eq ah,at_eq lK]at this))
 .exact hk _ ⟨λ_=>⟨hl,λj hj=>aj j (by omega)⟩,λ_=>rfl⟩
theorem zCq{i:Nat}(hs:PtrG σ s vO vP vC)(hO:FI vO O)(xV:O.length<=1048576)(bO:∀o∈O,isP o)(hx:FI vx x)(hb:x.length<=1048576)(hi:i<O.length)(hk:∀t:Bool,(t=true↔Zx O (i+1) x)->K (.bool t) σ):zA Tryz.prog 212 [.ptr s 0,.int .i64 i,vx] σ K:=by
 have fl:∀{A:Prop},¬A->((false=true)↔A):=λh=>⟨λx=>(by cases x),λx=>absurd x h⟩
 refine zD mix Tryz.func212 ?_
 conv=>arg 2;cbv
 refine zF rfl ?_;simp only[Z3,seval,-ae];refine zCF hs hO xV bO hx hb λt ht=>?_;cases t with
 |false=>
  simp only[Z3,seval,-ae];exact hk _ (fl λh=>by cases ht.2 h.1)
 |true=>
  have he:=ht.1 rfl;have hl:=he.1;obtain⟨wx,ax,rfl⟩:=hx;have kO:((i+1:Nat):Int)<=(x.length:Int):=by omega
  have qt:i+1<=x.length:=by omega
  simp only[Z3,seval,-ae,wrapS hi (by omega:O.length<=4611686018427387904),kO,qt,zEZ,Nat.sub_zero];refine Z8 (by simp;omega) (by simp;omega) ?_;by_cases hz:isZ (x.take (i+1))
  .simp only[Z3,seval,-ae,hz];exact hk _ ⟨λ_=>⟨he,hz⟩,λ_=>rfl⟩
  .simp only[Z3,seval,-ae,hz];exact hk _ (fl λh=>hz h.2)
theorem zBO:∀(a b:V1),prodL (a++b)=prodL a*prodL b
 |[],b=>by simp[prodL]
 |x::a,b=>by simp[prodL,zBO a b,Int.mul_assoc]
theorem zA1{i:Nat}(hi:i<O.length):prodL (O.take (i+1))=prodL (O.take i)*O[i]:=by
 rw[List.take_succ_eq_append_getElem hi,zBO];simp[prodL]
theorem zAi:∀{O:V1},(∀o∈O,isP o)->1<=prodL O
 |[],_=>by simp[prodL]
 |o::O,h=>by
  have h1:=(h o (by simp)).bd;have h2:=zAi (O:=O) λq hq=>h q (by simp[hq]);simp only[prodL]
  have:=Int.mul_le_mul h1.1 h2 (by omega) (by omega)
  omega
theorem zK9(h:∀o∈O,isP o)(i:Nat):prodL (O.take i)<=prodL O:=by
 have h1:=zAi λo ho=>h o (List.mem_of_mem_take (i:=i) ho);have h2:=zAi λo ho=>h o (List.mem_of_mem_drop (i:=i) ho)
 have:prodL O=prodL (O.take i)*prodL (O.drop i):=by rw[<-zBO,List.take_append_drop]
 have h3:=Int.mul_le_mul (Int.le_refl (prodL (O.take i))) h2 (by omega) (by omega);omega
theorem zD5(hR:IsPr vO vP vC O P C)(sz:SzP O P C)(hk:∀t:Bool,(t=true↔qx O P C)->K (.bool t) σ):zA Tryz.prog 123 [.agg [vO,vP,vC]] σ K:=by
 have s6:=hR.O;have Am:=sz.P;have ta:=sz.C;obtain⟨⟨w0,a0,rfl⟩,⟨w1,a1,rP,rfl,hP⟩,⟨w3,a3,rC,rfl,hC⟩⟩:=hR;refine zA.gh ?_;have fin:∀{t:Bool} {σ':PHeap},(t=true↔qx O P C)->Keep σ σ'->Gh σ K (.bool t) σ':=λh k=>Gh.fin0 k trivial (hk _ h);have no:∀{σ':PHeap},¬qx O P C->Keep σ σ'->Gh σ K (.bool false) σ':=λh k=>fin ⟨λx=>(by cases x),λx=>absurd x h⟩ k;have aq:=zC σ [.fz w0 a0 O.length (pis O),.fz w1 a1 P.length rP,.fz w3 a3 C.length rC];have ji:PtrG (σ.new [.fz w0 a0 O.length (pis O),.fz w1 a1 P.length rP,.fz w3 a3 C.length rC]) σ.next (.fz w0 a0 O.length (pis O)) (.fz w1 a1 P.length rP) (.fz w3 a3 C.length rC):=⟨by simp only[Z3,seval,-ae],by simp only[Z3,seval,-ae]⟩
 refine zD mix Tryz.func123 ?_
 conv=>arg 2;cbv
 refine zF rfl ?_;simp only[Z3,seval,-ae];by_cases h6:O.length<=6;rotate_left
 .have fm:(6:Int)<(O.length:Int):=by omega
  simp only[Z3,seval,-ae,fm];exact no (λh=>h6 h.1) aq
 have fm:¬(6:Int)<(O.length:Int):=by omega
 by_cases wJ:P.length=O.length;rotate_left
 .have fQ:¬(P.length:Int)=(O.length:Int):=by omega
  simp only[Z3,seval,-ae,fm,fQ];exact no (λh=>wJ h.2.1) aq
 have fQ:(P.length:Int)=(O.length:Int):=by omega
 by_cases wU:C.length=O.length;rotate_left
 .have iQ:¬(C.length:Int)=(O.length:Int):=by omega
  simp only[Z3,seval,-ae,fm,eq_true fQ,iQ];exact no (λh=>wU h.2.2.1) aq
 have iQ:(C.length:Int)=(O.length:Int):=by omega
 simp only[Z3,seval,-ae,fm,eq_true fQ,eq_true iQ];refine zG (λm vs h'=>∃i:Nat,i<=O.length/\m=O.length-i/\vs=[.ptr σ.next 0,.int .i64 O.length,.int .i64 (prodL (O.take i)),.fz w0 a0 O.length (pis O),.int .i64 O.length,.int .i64 i]/\h'=σ.new [.fz w0 a0 O.length (pis O),.fz w1 a1 P.length rP,.fz w3 a3 C.length rC]/\(∀o∈O.take i,isP o)/\prodL (O.take i)<=729) O.length ?_ ?_
 .exact⟨0,by omega,by omega,rfl,rfl,by simp,by simp[prodL]⟩
 rintro m vs h' ⟨i,hi,rfl,rfl,rfl,aj,bw⟩
 simp only[Z3,seval,-ae];refine iteI (λah=>?_) λaG=>?_
 .simp only[Z3,seval,-ae,ah,gi ah,zU];refine zBq ?_;by_cases hp:isP O[i];rotate_left
  .simp only[Z3,seval,-ae,hp];exact no (λh=>hp (h.2.2.2.1 _ (List.getElem_mem ah))) aq
  have dA:=hp.bd;have h1:=zAi aj;have Cj:0<=prodL (O.take i)*O[i]:=Int.mul_nonneg (by omega) (by omega);have Ci:=Int.mul_le_mul bw dA.2 (by omega) (by omega);have hw:IntKind.i64.wrap (prodL (O.take i)*O[i])=prodL (O.take i)*O[i]:=wrap64 (by omega) (by omega);by_cases ho:prodL (O.take i)*O[i]<=729
  .have cM:¬(729:Int)<prodL (O.take i)*O[i]:=by omega
   simp only[Z3,seval,-ae,hp,hw,cM,ah,gi ah,zU,wrapS ah (by omega:O.length<=4611686018427387904)];refine⟨_,by omega,i+1,by omega,rfl,?_,zDK ah aj hp,?_⟩
   .rw[zA1 ah]
   .rw[zA1 ah];exact ho
  .have cM:(729:Int)<prodL (O.take i)*O[i]:=by omega
   simp only[Z3,seval,-ae,hp,hw,cM];refine no (λh=>?_) aq
   have:=zK9 h.2.2.2.1 (i+1)
   rw[zA1 ah]at this
   have:=h.2.2.2.2.1
   omega
 have aK:i=O.length:=by omega
 subst aK;rw[List.take_length]at aj bw;refine zG (λm vs h'=>∃i:Nat,i<=O.length/\m=O.length-i/\vs=[.ptr σ.next 0,.int .i64 O.length,.int .i64 O.length,.int .i64 i]/\h'=σ.new [.fz w0 a0 O.length (pis O),.fz w1 a1 P.length rP,.fz w3 a3 C.length rC]/\∀j,j<i->rowPr O P C j) O.length ?_ ?_
 .exact⟨0,by omega,by omega,rfl,rfl,λj hj=>by omega⟩
 rintro m vs h' ⟨i,hi,rfl,rfl,rfl,aT⟩
 simp only[Z3,seval,-ae];refine iteI (λah=>?_) λaG=>?_;rotate_left
 .exact fin ⟨λ_=>⟨h6,wJ,wU,aj,bw,λj hj=>aT j (by omega)⟩,λ_=>rfl⟩ aq
 have eA:i<P.length:=by omega
 have cB:i<C.length:=by omega
 obtain⟨w4,a4,hr⟩:=hP.rowI eA;obtain⟨w5,a5,rs,bD,du⟩:=hC.rowL cB;have mO:=Am.r _ (List.getElem_mem eA);have jM:=(ta.r _ (List.getElem_mem cB)).l;have bad:(Zx O (i+1) P[i]->C[i].length=O.length-1-i->(∀k (h:k<C[i].length),Zx O (i+1) C[i][k])->False)->¬qx O P C:=λhb eH=>by
  obtain⟨q1,q3,q4⟩:=eH.2.2.2.2.2 i ah;rw[qL eA]at q1;rw[zO cB]at q3;refine hb q1 q3 λk h=>?_
  have:=q4 k (by rw[zO cB];exact h)
  rwa[zO cB,zO h]at this
 simp only[Z3,seval,-ae,eA,hr];refine zCq ji s6 sz.O aj ⟨_,_,rfl⟩ mO ah λt ht=>?_;cases t with
 |false=>
  simp only[Z3,seval,-ae];exact no (bad λq _ _=>by cases ht.2 q) aq
 |true=>
 have hv:=ht.1 rfl;have e1:IntKind.i64.wrap ((O.length:Int)-1)=(O.length:Int)-1:=wrap64 (by omega) (by omega);have e2:IntKind.i64.wrap ((O.length:Int)-1-(i:Int))=(O.length:Int)-1-(i:Int):=wrap64 (by omega) (by omega);by_cases hlen:C[i].length=O.length-1-i;rotate_left
 .have aY:¬(C[i].length:Int)=(O.length:Int)-1-(i:Int):=by omega
  simp only[Z3,seval,-ae,ah,cB,bD,e1,e2,aY];exact no (bad λ_ q _=>hlen q) aq
 have aY:(C[i].length:Int)=(O.length:Int)-1-(i:Int):=by omega
 simp only[Z3,seval,-ae,ah,cB,bD,e1,e2,eq_true aY];refine zG (λm vs h'=>∃k:Nat,k<=C[i].length/\m=C[i].length-k/\vs=[.ptr σ.next 0,.int .i64 O.length,.int .i64 i,.int .i64 O.length,.int .i64 i,.fz w5 a5 C[i].length rs,.int .i64 C[i].length,.int .i64 k]/\
  h'=σ.new [.fz w0 a0 O.length (pis O),.fz w1 a1 P.length rP,.fz w3 a3 C.length rC]/\∀j (h:j<C[i].length),j<k->Zx O (i+1) C[i][j]) C[i].length ?_ ?_
 .exact⟨0,by omega,by omega,rfl,rfl,λj h hj=>by omega⟩
 rintro m vs h' ⟨k,bZ,rfl,rfl,rfl,aR⟩
 simp only[Z3,seval,-ae];refine iteI (λaD=>?_) λaG=>?_
 .obtain⟨w6,a6,cw⟩:=du.rowI aD;have cI:=(ta.r _ (List.getElem_mem cB)).r _ (List.getElem_mem aD);simp only[Z3,seval,-ae,aD,cw];refine zCq ji s6 sz.O aj ⟨_,_,rfl⟩ cI ah λt ht=>?_;cases t with
  |false=>
   simp only[Z3,seval,-ae];exact no (bad λ_ _ q=>by cases ht.2 (q k aD)) aq
  |true=>
   simp only[Z3,seval,-ae,wrapS aD (by omega:C[i].length<=4611686018427387904)];refine⟨_,by omega,k+1,by omega,rfl,rfl,λj h hj=>?_⟩;by_cases e:j=k
   .subst e;exact ht.1 rfl
   .exact aR j h (by omega)
 .simp only[Z3,seval,-ae,wrapS ah (by omega:O.length<=4611686018427387904)];refine⟨_,by omega,i+1,by omega,rfl,rfl,λj hj=>?_⟩;by_cases e:j=i
  .subst e;refine⟨by rw[qL eA];exact hv,by rw[zO cB];exact hlen,λt ht=>?_⟩;rw[zO cB]at ht ⊢;rw[zO ht];exact aR t ht (by omega)
  .exact aT j (by omega)
theorem zBi{t:Nat}{z:Int}(hz:z=(t:Int)-1)(ht:t<=O.length)(hO:FI vO O)(xV:O.length<=1048576)(bO:∀o∈O,isP o)(hx:FI vx x)(hb:x.length<=1048576)(hk:∀b:Bool,(b=true↔Zx O t x)->K (.bool b) σ):zA Tryz.prog 218 [vO,vx,.int .i64 z] σ K:=by
 have fl:∀{A:Prop},¬A->((false=true)↔A):=λh=>⟨λx=>(by cases x),λx=>absurd x h⟩
 obtain⟨wo,ao,rfl⟩:=hO;obtain⟨wx,ax,rfl⟩:=hx;subst hz;refine zN mix Tryz.func218 cf218 rfl ?_;dsimp only[if218,qD,eD,mI0,kI0,tI0,bI0,cI0,sI0,mD0,lD0,xD0,I0,G0,gm0,R0,S0];simp only[Z3,seval,-ae];refine iteI (λhl=>?_) λhl=>?_;rotate_left
 .exact hk _ (fl λh=>hl (by rw[h.1.1]))
 have hl:x.length=O.length:=by omega
 refine zG (λm vs h'=>∃i:Nat,i<=x.length/\m=x.length-i/\vs=[.fz wo ao O.length (pis O),.fz wx ax x.length (pis x),.int .i64 ((t:Int)-1),.int .i64 i]/\σ=h'/\∀j,j<i->(0<=at_ x j/\at_ x j<=at_ O j-1)/\(j<t->at_ x j=0)) x.length ?_ ?_
 .exact⟨0,by omega,by omega,rfl,rfl,λj hj=>by omega⟩
 rintro m vs h' ⟨i,hi,rfl,rfl,rfl,aj⟩
 simp only[Z3,seval,-ae];refine iteI (λah=>?_) λaG=>?_;rotate_left
 .refine hk _ ⟨λ_=>⟨⟨hl,λj hj=>(aj j (by omega)).1⟩,λy hy=>?_⟩,λ_=>rfl⟩;rw[List.mem_take_iff_getElem]at hy;obtain⟨j,hj,rfl⟩:=hy
  have:=(aj j (by omega)).2 (by omega)
  rwa[at_eq (by omega)]at this
 have lK:i<O.length:=by omega
 have bo:=(bO _ (List.getElem_mem lK)).bd;simp only[Z3,seval,-ae,ah,lK,gi ah,gi lK,zU,wrap64 (n:=O[i] - 1) (by omega) (by omega)];refine zIG ?_;by_cases cA:0<=x[i]/\x[i]<=O[i] - 1;rotate_left
 .simp only[Z3,seval,-ae,cA];exact hk _ (fl λh=>cA (by have:=h.1.2 i ah;rwa[at_eq ah,at_eq lK]at this))
 have next:(i<t->x[i]=0)->∃n',n'<x.length-i/\∃i':Nat,i'<=x.length/\n'=x.length-i'/\[PV.fz wo ao O.length (pis O),.fz wx ax x.length (pis x),.int .i64 ((t:Int)-1),.int .i64 ((i+1:Nat):Int)]=[.fz wo ao O.length (pis O),.fz wx ax x.length (pis x),.int .i64 ((t:Int)-1),.int .i64 i']/\∀j,j<i'->(0<=at_ x j/\at_ x j<=at_ O j-1)/\(j<t->at_ x j=0):=λh0=>by
  refine⟨_,by omega,i+1,by omega,rfl,rfl,λj hj=>?_⟩;by_cases e:j=i
  .subst e;rw[at_eq ah,at_eq lK];exact⟨cA,h0⟩
  .exact aj j (by omega)
 by_cases hle:(i:Int)<=(t:Int)-1
 .simp only[Z3,seval,-ae,cA,hle,ah,gi ah,zU];refine iteI (λh0=>?_) λh0=>?_
  .simp only[Z3,seval,-ae,wrapS ah (by omega:x.length<=4611686018427387904)];exact next λ_=>h0
  .refine hk _ (fl λh=>h0 ?_);exact h.2 _ (by rw[List.mem_take_iff_getElem];exact⟨i,by omega,rfl⟩)
 .simp only[Z3,seval,-ae,cA,hle,ah,wrapS ah (by omega:x.length<=4611686018427387904)];exact next λh=>absurd h (by omega)
theorem zHD(hO:FI vO O)(xV:O.length<=6)(bO:∀o∈O,isP o)(hk:∀r:Int,(r<=729↔prodL O<=729)->K (.int .i64 r) σ):zA Tryz.prog 288 [vO] σ K:=by
 obtain⟨wo,ao,rfl⟩:=hO;refine zD mix Tryz.func288 ?_
 conv=>arg 2;cbv
 refine zF rfl ?_;simp only[Z3,seval,-ae];refine zG (λm vs h'=>∃(i:Nat) (r:Int),i<=O.length/\m=O.length-i/\vs=[.fz wo ao O.length (pis O),.int .i64 r,.int .i64 i]/\σ=h'/\(r=prodL (O.take i)\/(729<r/\729<prodL (O.take i)))) O.length ?_ ?_
 .exact⟨0,1,by omega,by omega,rfl,rfl,.inl (by simp[prodL])⟩
 rintro m vs h' ⟨i,r,hi,rfl,rfl,rfl,hr⟩
 simp only[Z3,seval,-ae];refine iteI (λah=>?_) λaG=>?_;rotate_left
 .have aK:i=O.length:=by omega
  subst aK;rw[List.take_length]at hr;exact hk _ (by omega)
 have bt:∀o∈O.take i,isP o:=λo ho=>bO o (List.mem_of_mem_take ho);have h1:=zAi bt;have hp:=bO _ (List.getElem_mem ah);have dA:=hp.bd;have hs:=zA1 ah;refine iteI (λhle=>?_) λEZ=>?_
 .have jT:r=prodL (O.take i):=by omega
  subst jT;have Cj:0<=prodL (O.take i)*O[i]:=Int.mul_nonneg (by omega) (by omega);have Ci:=Int.mul_le_mul hle dA.2 (by omega) (by omega);simp only[Z3,seval,-ae,ah,gi ah,zU,wrap64 (n:=prodL (O.take i)*O[i]) (by omega) (by omega),wrapS ah (by omega:O.length<=4611686018427387904)];exact⟨_,by omega,i+1,_,by omega,rfl,rfl,.inl hs.symm⟩
 .simp only[Z3,seval,-ae,wrapS ah (by omega:O.length<=4611686018427387904)];refine⟨_,by omega,i+1,_,by omega,rfl,rfl,.inr ⟨by omega,?_⟩⟩;have Ci:=Int.mul_le_mul (Int.le_refl (prodL (O.take i))) dA.1 (by omega) (by omega);omega
theorem zCf(hR:IsPr vO vP vC O P C)(sz:SzP O P C)(hk:∀t:Bool,(t=true↔qx O P C)->K (.bool t) σ):zA Tryz.prog 216 [.agg [vO,vP,vC]] σ K:=by
 have s6:=hR.O;have Am:=sz.P;have ta:=sz.C;obtain⟨⟨w0,a0,rfl⟩,⟨w1,a1,rP,rfl,hP⟩,⟨w3,a3,rC,rfl,hC⟩⟩:=hR;refine zA.gh ?_;have fin:∀{t:Bool} {σ':PHeap},(t=true↔qx O P C)->Keep σ σ'->Gh σ K (.bool t) σ':=λh k=>Gh.fin0 k trivial (hk _ h);have no:∀{σ':PHeap},¬qx O P C->Keep σ σ'->Gh σ K (.bool false) σ':=λh k=>fin ⟨λx=>(by cases x),λx=>absurd x h⟩ k;have aq:=zC σ [.fz w0 a0 O.length (pis O),.fz w1 a1 P.length rP,.fz w3 a3 C.length rC];refine zN mix Tryz.func216 cf216 rfl ?_;dsimp only[if216,eI,qD,eD,mI0,kI0,tI0,lI0,fI0,xI0,bI0,cI0,nI0,sI0,C1,mD0,lD0,fD0,xD0,I0,G0,gm0,oI0,R0,S0];simp only[Z3,seval,-ae];by_cases h6:O.length<=6;rotate_left
 .have fm:(6:Int)<(O.length:Int):=by omega
  simp only[Z3,seval,-ae,fm];exact no (λh=>h6 h.1) aq
 have fm:¬(6:Int)<(O.length:Int):=by omega
 by_cases wJ:P.length=O.length;rotate_left
 .have fQ:¬(P.length:Int)=(O.length:Int):=by omega
  simp only[Z3,seval,-ae,fm,fQ];exact no (λh=>wJ h.2.1) aq
 have fQ:(P.length:Int)=(O.length:Int):=by omega
 by_cases wU:C.length=O.length;rotate_left
 .have iQ:¬(C.length:Int)=(O.length:Int):=by omega
  simp only[Z3,seval,-ae,fm,eq_true fQ,iQ];exact no (λh=>wU h.2.2.1) aq
 have iQ:(C.length:Int)=(O.length:Int):=by omega
 simp only[Z3,seval,-ae,fm,eq_true fQ,eq_true iQ];refine zG (λm vs h'=>∃i:Nat,i<=O.length/\m=O.length-i/\vs=[.ptr σ.next 0,.int .i64 O.length,.int .i64 i]/\h'=σ.new [.fz w0 a0 O.length (pis O),.fz w1 a1 P.length rP,.fz w3 a3 C.length rC]/\(∀o∈O.take i,isP o)) O.length ?_ ?_
 .exact⟨0,by omega,by omega,rfl,rfl,by simp⟩
 rintro m vs h' ⟨i,hi,rfl,rfl,rfl,aj⟩
 simp only[Z3,seval,-ae];refine iteI (λah=>?_) λaG=>?_
 .simp only[Z3,seval,-ae,ah,gi ah,zU];refine zEI ?_;by_cases hp:isP O[i];rotate_left
  .simp only[Z3,seval,-ae,hp];exact no (λh=>hp (h.2.2.2.1 _ (List.getElem_mem ah))) aq
  simp only[Z3,seval,-ae,hp,wrapS ah (by omega:O.length<=4611686018427387904)];exact⟨_,by omega,i+1,by omega,rfl,rfl,zDK ah aj hp⟩
 have aK:i=O.length:=by omega
 subst aK;rw[List.take_length]at aj;simp only[Z3,seval,-ae];refine zHD s6 h6 aj λr hr=>?_;by_cases bw:prodL O<=729;rotate_left
 .have:(729:Int)<r:=by omega
  simp only[Z3,seval,-ae,this];exact no (λh=>bw h.2.2.2.2.1) aq
 have:¬(729:Int)<r:=by omega
 simp only[Z3,seval,-ae,this];refine zG (λm vs h'=>∃i:Nat,i<=O.length/\m=O.length-i/\vs=[.ptr σ.next 0,.int .i64 O.length,.int .i64 i]/\h'=σ.new [.fz w0 a0 O.length (pis O),.fz w1 a1 P.length rP,.fz w3 a3 C.length rC]/\∀j,j<i->rowPr O P C j) O.length ?_ ?_
 .exact⟨0,by omega,by omega,rfl,rfl,λj hj=>by omega⟩
 rintro m vs h' ⟨i,hi,rfl,rfl,rfl,aT⟩
 simp only[Z3,seval,-ae];refine iteI (λah=>?_) λaG=>?_;rotate_left
 .exact fin ⟨λ_=>⟨h6,wJ,wU,aj,bw,λj hj=>aT j (by omega)⟩,λ_=>rfl⟩ aq
 have eA:i<P.length:=by omega
 have cB:i<C.length:=by omega
 obtain⟨w4,a4,hr⟩:=hP.rowI eA;obtain⟨w5,a5,rs,bD,du⟩:=hC.rowL cB;have mO:=Am.r _ (List.getElem_mem eA);have jM:=(ta.r _ (List.getElem_mem cB)).l;have bad:(Zx O (i+1) P[i]->C[i].length=O.length-1-i->(∀k (h:k<C[i].length),Zx O (i+1) C[i][k])->False)->¬qx O P C:=λhb eH=>by
  obtain⟨q1,q3,q4⟩:=eH.2.2.2.2.2 i ah;rw[qL eA]at q1;rw[zO cB]at q3;refine hb q1 q3 λk h=>?_
  have:=q4 k (by rw[zO cB];exact h)
  rwa[zO cB,zO h]at this
 simp only[Z3,seval,-ae,eA,hr];refine zBi (t:=i+1) (by omega) (by omega) s6 sz.O aj ⟨_,_,rfl⟩ mO λt ht=>?_;cases t with
 |false=>
  simp only[Z3,seval,-ae];exact no (bad λq _ _=>by cases ht.2 q) aq
 |true=>
 have hv:=ht.1 rfl;have e1:IntKind.i64.wrap ((O.length:Int)-1)=(O.length:Int)-1:=wrap64 (by omega) (by omega);have e2:IntKind.i64.wrap ((O.length:Int)-1-(i:Int))=(O.length:Int)-1-(i:Int):=wrap64 (by omega) (by omega);by_cases hlen:C[i].length=O.length-1-i;rotate_left
 .have aY:¬(C[i].length:Int)=(O.length:Int)-1-(i:Int):=by omega
  simp only[Z3,seval,-ae,ah,cB,bD,e1,e2,aY];exact no (bad λ_ q _=>hlen q) aq
 have aY:(C[i].length:Int)=(O.length:Int)-1-(i:Int):=by omega
 simp only[Z3,seval,-ae,ah,cB,bD,e1,e2,eq_true aY];refine zG (λm vs h'=>∃k:Nat,k<=C[i].length/\m=C[i].length-k/\vs=[.ptr σ.next 0,.int .i64 O.length,.int .i64 i,.int .i64 k]/\
  h'=σ.new [.fz w0 a0 O.length (pis O),.fz w1 a1 P.length rP,.fz w3 a3 C.length rC]/\∀j (h:j<C[i].length),j<k->Zx O (i+1) C[i][j]) C[i].length ?_ ?_
 .exact⟨0,by omega,by omega,rfl,rfl,λj h hj=>by omega⟩
 rintro m vs h' ⟨k,bZ,rfl,rfl,rfl,aR⟩
 simp only[Z3,seval,-ae,cB,bD];refine iteI (λaD=>?_) λaG=>?_
 .obtain⟨w6,a6,cw⟩:=du.rowI aD;have cI:=(ta.r _ (List.getElem_mem cB)).r _ (List.getElem_mem aD);simp only[Z3,seval,-ae,cB,bD,aD,cw];refine zBi (t:=i+1) (by omega) (by omega) s6 sz.O aj ⟨_,_,rfl⟩ cI λt ht=>?_;cases t with
  |false=>
   simp only[Z3,seval,-ae];exact no (bad λ_ _ q=>by cases ht.2 (q k aD)) aq
  |true=>
   simp only[Z3,seval,-ae,wrapS aD (by omega:C[i].length<=4611686018427387904)];refine⟨_,by omega,k+1,by omega,rfl,rfl,λj h hj=>?_⟩;by_cases e:j=k
   .subst e;exact ht.1 rfl
   .exact aR j h (by omega)
 .simp only[Z3,seval,-ae,wrapS ah (by omega:O.length<=4611686018427387904)];refine⟨_,by omega,i+1,by omega,rfl,rfl,λj hj=>?_⟩;by_cases e:j=i
  .subst e;refine⟨by rw[qL eA];exact hv,by rw[zO cB];exact hlen,λt ht=>?_⟩;rw[zO cB]at ht ⊢;rw[zO ht];exact aR t ht (by omega)
  .exact aT j (by omega)
variable{rP rC:List PV}
theorem pisAt{i:Nat}(h:i<x.length):(pis x)[i]? = some (.int .i64 (at_ x i)):=by rw[zU,gi h,at_eq h];rfl
theorem pvRow(s:Shp O P C)(hP:All2 FI rP P){i:Nat}(hi:i<O.length):∃w a,rP[i]? = some (.fz w a O.length (pis (pvec P i))):=by
 have eA:i<P.length:=by rw[s.pl];exact hi
 obtain⟨w,a,h⟩:=hP.rowI eA;refine⟨w,a,?_⟩;have e:pvec P i=P[i]:=qL eA;rw[h,e,show P[i].length=O.length by rw[<-e];exact(s.pw i hi).len]
theorem cvRow(s:Shp O P C)(hC:All2 FII rC C){i:Nat}(hi:i<O.length):∃w a rs,rC[i]? = some (.fz w a (O.length-1-i) rs)/\∀q,q<O.length-1-i->∃w' a',rs[q]? = some (.fz w' a' O.length (pis (cvec C i (i+(1+q))))):=by
 have cB:i<C.length:=by rw[s.cl];exact hi
 obtain⟨w,a,rs,h,du⟩:=hC.rowL cB;have e:C.getD i []=C[i]:=zO cB;have hl:C[i].length=O.length-1-i:=by rw[<-e];exact s.row i hi
 refine⟨w,a,rs,by rw[h,hl],λq hq=>?_⟩;have bm:q<C[i].length:=by omega
 obtain⟨w',a',h'⟩:=du.rowI bm;have e2:cvec C i (i+(1+q))=C[i][q]:=by
  show(C.getD i []).getD (i+(1+q)-i-1) []=_
  rw[e,show i+(1+q)-i-1=q by omega];exact qL bm
 exact⟨w',a',by rw[h',e2,show C[i][q].length=O.length by rw[<-e2];exact(s.cj i _ (by omega) (by omega)).len]⟩
theorem FI.mk{w:Bool}{a:AV}{n:Nat}(h:x.length=n):FI (.fz w a n (pis x)) x:=⟨w,a,by rw[h]⟩
def AtOK(O:V1)(P:V2)(C:V3)(d i:Nat):Prop:=
 ∀{σ:PHeap} {K:PV->PHeap->Prop} {a b:V1} {va vb vO vP vC:PV},IsPr vO vP vC O P C->TT O i a->TT O i b->FI va a->FI vb b->(∀v,FI v (mu O P C d a b)->K v σ)->zA Tryz.prog 219 [.agg [vO,vP,vC],.int .i64 i,va,vb] σ K
theorem Qj(s:Shp O P C){d i:Nat}(hi:O.length=d+(i+1))(eW:AtOK O P C d (i+1))(hR:IsPr vO vP vC O P C)(hx:TT O 0 x)(aX:FI vx x)(hk:∀v,FI v (Grp.img O C (mu O P C d) i x)->K v σ):
  zA Tryz.prog 291 [.agg [vO,vP,vC],.int .i64 i,vx] σ K:=by
 have aN:=s.le;have aJ:=hR;have hl:=hx.len;have aH:i<O.length:=by omega
 have hm:∀a b,TT O (i+1) a->TT O (i+1) b->TT O (i+1) (mu O P C d a b):=λa b ha hb=>by
  have:=mu_tt s (d:=d) (a:=a) (b:=b) (by omega) (by rwa[show O.length-d=i+1 by omega]) (by rwa[show O.length-d=i+1 by omega])
  rwa[show O.length-d=i+1 by omega]at this
 obtain⟨⟨w0,a0,rfl⟩,⟨w1,a1,rP,rfl,hP⟩,⟨w3,a3,rC,rfl,hC⟩⟩:=hR;obtain⟨w5,a5,rs,bD,du⟩:=cvRow s hC aH;have cB:i<C.length:=by rw[s.cl];exact aH
 obtain⟨wx,ax,rfl⟩:=aX;rw[hl];refine zA.gh ?_;refine zN mix Tryz.func291 cf291 rfl ?_;dsimp only[if291,eI,qD,eD,mI0,kI0,lI0,fI0,xI0,bI0,cI0,sI0,mD0,lD0,fD0,xD0,I0,zI0,R0,S0];simp only[Z3,seval,-ae,List.length_replicate,qA,mk8 (n:=O.length) (by omega),mkL (n:=O.length) (by omega),wrapS aH (by omega:O.length<=4611686018427387904)];have aq:Keep σ (((σ.new [.fz w0 a0 O.length (pis O),.fz w1 a1 P.length rP,.fz w3 a3 C.length rC]).new (pis (zv O))).kill (σ.next+1)):=((zC σ _).new _).kill (by omega);refine ZG (λm vs h'=>∃(q:Nat) (vo:PV) (A:V1),q<=d/\m=d-q/\vs=[.int .i64 i,.fz wx ax O.length (pis x),.ptr σ.next 0,.int .i64 O.length,vo,.int .i64 ((i+(1+q):Nat):Int)]/\
  h'=((σ.new [.fz w0 a0 O.length (pis O),.fz w1 a1 P.length rP,.fz w3 a3 C.length rC]).new (pis (zv O))).kill (σ.next+1)/\FI vo A/\TT O (i+1) A/\fo (mu O P C d) (cvec C i) (nx x) (i+(1+q)) (d-q) A=Grp.img O C (mu O P C d) i x) d ?_ ?_
 .refine .fz (σ.next+1) (pis (zv O)) (by simp only[Z3,seval,-ae]) (zL _ _) λo1=>.here ?_;refine⟨0,.fz true (.sl o1 0 O.length (.known O.length)) O.length (pis (zv O)),zv O,by omega,by omega,?_,rfl,FI.mk (by simp),s.zv _,?_⟩
  .simp only[Z3,seval,-ae];simp only[sbs,sb,capOK,vM,decide_true,and_self,if_true]
  .show _=fo _ _ _ (i+1) (O.length-1-i) (zv O);rw[show O.length-1-i=d by omega];rfl
 rintro m vs h' ⟨q,vo,A,hq,rfl,rfl,rfl,ks,hA,bH⟩
 simp only[Z3,seval,-ae];refine iteI (λah=>?_) λaG=>?_;rotate_left
 .have sJ:q=d:=by omega
  subst sJ;rw[Nat.sub_self]at bH
  have:A=Grp.img O C (mu O P C q) i x:=bH
  rw[<-this]at hk;exact Gh.fin0 aq (ks.bel _) (hk _ ks)
 have sJ:q<d:=by omega
 have dK:i+(1+q)<x.length:=by omega
 have bx:=hx.bd (i+(1+q)) (by omega);have bO:=s.pr (i+(1+q)) (by omega);obtain⟨w6,a6,cw⟩:=du q (by omega);have jH:q<O.length-1-i:=by omega
 have bA:=s.cj i (i+(1+q)) (by omega) (by omega);have e3:IntKind.i64.wrap (((i+(1+q):Nat):Int)-(i:Int))=((1+q:Nat):Int):=by rw[wrap64 (by omega) (by omega)];omega
 have e4:IntKind.i64.wrap (((1+q:Nat):Int)-1)=(q:Int):=by rw[wrap64 (by omega) (by omega)];omega
 have e5:IntKind.i64.wrap (((i+(1+q):Nat):Int)+1)=((i+(1+(q+1)):Nat):Int):=by rw[wrap64 (by omega) (by omega)];omega
 rw[show d-q=(d-q-1)+1 by omega]at bH;refine zG (λm vs h'=>∃(k:Nat) (vo:PV) (A:V1),k<=nx x (i+(1+q))/\m=nx x (i+(1+q))-k/\vs=[.int .i64 i,.fz wx ax O.length (pis x),.ptr σ.next 0,.int .i64 O.length,vo,.int .i64 ((i+(1+q):Nat):Int),.int .i64 k]/\
  h'=((σ.new [.fz w0 a0 O.length (pis O),.fz w1 a1 P.length rP,.fz w3 a3 C.length rC]).new (pis (zv O))).kill (σ.next+1)/\FI vo A/\TT O (i+1) A/\fo (mu O P C d) (cvec C i) (nx x) (i+(1+q)+1) (d-q-1) (rep (mu O P C d) (cvec C i (i+(1+q))) (nx x (i+(1+q))-k) A)=Grp.img O C (mu O P C d) i x) (nx x (i+(1+q))) ?_ ?_
 .exact⟨0,vo,A,by omega,by omega,rfl,rfl,ks,hA,bH⟩
 rintro m vs h' ⟨k,vo,A,bF,rfl,rfl,rfl,ks,hA,bH⟩
 have dk:((nx x (i+(1+q)):Nat):Int)=at_ x (i+(1+q)):=Int.toNat_of_nonneg bx.1;simp only[Z3,seval,-ae,pisAt dK,dK,hl ▸ dK];refine iteI (λaD=>?_) λfO=>?_
 .have bn:k<nx x (i+(1+q)):=by omega
  simp only[Z3,seval,-ae,wrapS aH (by omega:O.length<=4611686018427387904),cB,bD,e3,e4,jH,cw];refine eW aJ hA bA ks (FI.mk bA.len) λv hv=>?_;simp only[Z3,seval,-ae,wrapS bn (by omega:nx x (i+(1+q))<=4611686018427387904)];refine⟨_,by omega,k+1,v,_,by omega,rfl,rfl,hv,hm _ _ hA bA,?_⟩;rw[show nx x (i+(1+q))-k=(nx x (i+(1+q))-(k+1))+1 by omega]at bH;exact bH
 .have dJ:k=nx x (i+(1+q)):=by omega
  subst dJ;simp only[Z3,seval,-ae,e5];refine⟨d-(q+1),by omega,.here ⟨q+1,vo,A,by omega,rfl,rfl,rfl,ks,hA,?_⟩⟩;rw[Nat.sub_self]at bH;rw[show d-(q+1)=d-q-1 by omega];exact bH
theorem zAV(s:Shp O P C):∀{d i:Nat},O.length=d+i->AtOK O P C d i
 |0,i,hi=>by
  rename_i σ K a b va vb vO vP vC;intro hR ha hb dD dM hk;have aN:=s.le;obtain⟨⟨w0,a0,rfl⟩,⟨w1,a1,rP,rfl,hP⟩,⟨w3,a3,rC,rfl,hC⟩⟩:=hR;refine zA.gh ?_;have aG:(O.length:Int)<=(i:Int):=by omega
  refine zN mix Tryz.func219 cf219 rfl ?_;dsimp only[if219,eI,nI,qD,eD,mI0,kI0,lI0,LI0,fI0,xI0,bI0,cI0,sI0,C1,C3,mD0,lD0,fD0,xD0,I0,zI0,vI0,R0,S0];simp only[Z3,seval,-ae,aG,List.length_replicate,qA,mk8 (n:=O.length) (by omega),mkL (n:=O.length) (by omega)];exact Gh.finF (s:=σ.next+1) ((zC σ _).new _) (by simp only[Z3,seval,-ae];rfl) (by omega) (zL _ _) (by simp[capOK]) λo1=>hk _ (FI.mk (by simp[mu]))
 |d+1,i,hi=>by
  rename_i σ K a b va vb vO vP vC;intro hR ha hb dD dM hk;have eW:AtOK O P C d (i+1):=zAV s (by omega);have aN:=s.le;have aJ:=hR;have aH:i<O.length:=by omega
  have hO:=s.pr i aH;have cZ:=ha.len;have jM:=hb.len;have ba:=ha.bd i aH;have bb:=hb.bd i aH;have aF:=s.pos aH;have Kz:O.length-(d+1)=i:=by omega
  have hm:∀a b,TT O (i+1) a->TT O (i+1) b->TT O (i+1) (mu O P C d a b):=λa b ha hb=>by
   have:=mu_tt s (d:=d) (a:=a) (b:=b) (by omega) (by rwa[show O.length-d=i+1 by omega]) (by rwa[show O.length-d=i+1 by omega])
   rwa[show O.length-d=i+1 by omega]at this
  obtain⟨⟨w0,a0,rfl⟩,⟨w1,a1,rP,rfl,hP⟩,⟨w3,a3,rC,rfl,hC⟩⟩:=hR;obtain⟨w5,a5,bw⟩:=pvRow s hP aH;have eA:i<P.length:=by rw[s.pl];exact aH
  have cQ:=s.pw i aH;obtain⟨wa,aa,rfl⟩:=dD;obtain⟨wb,ab,rfl⟩:=dM;have kU:i<a.length:=by omega
  have iL:i<b.length:=by omega
  have aG:¬(O.length:Int)<=(i:Int):=by omega
  have sa:=ha.set0 aH aF;have Ax:=hb.set0 aH aF;have LQ:=sa.len;have LP:=Ax.len;refine zA.gh ?_;refine zN mix Tryz.func219 cf219 rfl ?_;dsimp only[if219,eI,nI,qD,eD,mI0,kI0,lI0,LI0,fI0,xI0,bI0,cI0,sI0,C1,C3,mD0,lD0,fD0,xD0,I0,zI0,vI0,R0,S0];simp only[Z3,seval,-ae,aG];refine Z7 rfl (by omega) λfS oE=>?_;simp only[Z3,seval,-ae];refine Z7 rfl (by omega) λgL gY=>?_;have g1:i<a.length/\i+1<=a.length:=⟨kU,kU⟩;have g2:i<b.length/\i+1<=b.length:=⟨iL,iL⟩;simp only[Z3,seval,-ae,g1.1,g1.2,g2.1,g2.2,zJ,zX kU,zX iL];refine ZG (λm vs h'=>∃(k:Nat) (vl vr:PV) (A:V1),k<=nx b i/\m=nx b i-k/\vs=[.int .i64 i,.fz wa aa a.length (pis a),.fz wb ab b.length (pis b),.ptr σ.next 0,vl,vr,.int .i64 k]/\
   h'=((((σ.new [.fz w0 a0 O.length (pis O),.fz w1 a1 P.length rP,.fz w3 a3 C.length rC]).new (pis (a.set i 0))).new (pis (b.set i 0))).kill (σ.next+1)).kill (σ.next+2)/\FI vl A/\FI vr (b.set i 0)/\TT O (i+1) A/\iter (Grp.img O C (mu O P C d) i) (nx b i-k) A=iter (Grp.img O C (mu O P C d) i) (nx b i) (a.set i 0)) (nx b i) ?_ ?_
  .refine .fz (σ.next+1) (pis (a.set i 0)) (by simp only[Z3,seval,-ae]) (zL _ _) λo1=>.fz (σ.next+2) (pis (b.set i 0)) (by simp only[Z3,seval,-ae]) (zL _ _) λo2=>.here ?_;refine⟨0,.fz true (.sl o1 0 a.length fS) a.length (pis (a.set i 0)),.fz true (.sl o2 0 b.length gL) b.length (pis (b.set i 0)),a.set i 0,by omega,by omega,?_,rfl,FI.mk (by simp),FI.mk (by simp),sa,rfl⟩;simp only[Z3,seval,-ae];have k1:=oE.ok;have k2:=gY.ok;have ar:¬(σ.next+2=σ.next+1):=by omega
   simp only[sbs,sb,k1,k2,ar,false_and,if_false,vM,decide_true,and_self,if_true];rfl
  rintro m vs h' ⟨k,vl,vr,A,bF,rfl,rfl,rfl,eF,EB,hA,be⟩
  have dk:((nx b i:Nat):Int)=at_ b i:=Int.toNat_of_nonneg bb.1;have E9:=oE.ok;simp only[Z3,seval,-ae,pisAt iL,iL];refine iteI (λah=>?_) λfO=>?_
  .have bn:k<nx b i:=by omega
   simp only[Z3,seval,-ae];refine Qj s (by omega) eW aJ (hA.mono (Nat.zero_le _)) eF λv hv=>?_;simp only[Z3,seval,-ae,wrapS bn (by omega:nx b i<=4611686018427387904)];refine⟨nx b i-(k+1),by omega,.here ⟨k+1,v,vr,_,by omega,rfl,rfl,rfl,hv,EB,Qk s hm _,?_⟩⟩;rw[show nx b i-k=(nx b i-(k+1))+1 by omega]at be;exact be
  have dJ:k=nx b i:=by omega
  subst dJ;rw[Nat.sub_self]at be;have wV:A=iter (Grp.img O C (mu O P C d) i) (nx b i) (a.set i 0):=be;subst wV;simp only[Z3,seval,-ae,wrapS aH (by omega:O.length<=4611686018427387904)];have ir:=hm _ _ hA Ax;have HX:=ir.len;refine eW aJ hA Ax eF EB λv hv=>?_;have jx:IntKind.i64.wrap (at_ a i+at_ b i)=at_ a i+at_ b i:=wrap64 (by omega) (by omega);have Cz:i<O.length:=aH;simp only[Z3,seval,-ae,pisAt kU,pisAt iL,kU,iL,pisAt aH,Cz,jx];have EP:∀c e:V1,(if at_ a i+at_ b i ≥ at_ O i then(mu O P C d (pvec P i) (mu O P C d (iter (Grp.img O C (mu O P C d) i) (nx b i) (a.set i 0)) (b.set i 0))).set i (at_ a i+at_ b i-at_ O i)else(mu O P C d (iter (Grp.img O C (mu O P C d) i) (nx b i) (a.set i 0)) (b.set i 0)).set i (at_ a i+at_ b i))=mu O P C (d+1) a b:=λ_ _=>by
   simp only[mu,Kz]
  refine iteI (λrD=>?_) λbn=>?_
  .have dg:IntKind.i64.wrap (at_ a i+at_ b i-at_ O i)=at_ a i+at_ b i-at_ O i:=wrap64 (by omega) (by omega);have e:=EP a b;rw[if_pos rD]at e;simp only[Z3,seval,-ae,pisAt aH,Cz,dg,wrapS aH (by omega:O.length<=4611686018427387904),eA,bw];have nP:=hm _ _ cQ ir;have pC:i<(mu O P C d (pvec P i) (mu O P C d (iter (Grp.img O C (mu O P C d) i) (nx b i) (a.set i 0)) (b.set i 0))).length:=by rw[nP.len];exact aH
   refine eW aJ cQ ir (FI.mk cQ.len) hv λv2 bW=>?_;obtain⟨w7,a7,rfl⟩:=bW;simp only[Z3,seval,-ae,pisAt aH,Cz,dg,wrapS aH (by omega:O.length<=4611686018427387904),eA,bw];refine Z7 rfl (by have:=nP.len;omega) λme rN=>?_;simp only[Z3,seval,-ae,pC,Nat.succ_le_of_lt pC,zJ,zX pC];rw[<-e]at hk;exact Gh.finF (s:=σ.next+1+2) ((((((zC σ _).new _).new _).kill (by omega)).kill (by omega)).new _) (by simp only[Z3,seval,-ae]) (by omega) (zL _ _) rN.ok λo1=>hk _ (FI.mk (by simp))
  .have e:=EP a b;rw[if_neg (by omega)]at e;have pB:i<(mu O P C d (iter (Grp.img O C (mu O P C d) i) (nx b i) (a.set i 0)) (b.set i 0)).length:=by rw[HX];exact aH
   obtain⟨w7,a7,rfl⟩:=hv;simp only[Z3,seval,-ae];refine Z7 rfl (by omega) λme rN=>?_;simp only[Z3,seval,-ae,pB,Nat.succ_le_of_lt pB,zJ,zX pB];rw[<-e]at hk;exact Gh.finF (s:=σ.next+1+2) ((((((zC σ _).new _).new _).kill (by omega)).kill (by omega)).new _) (by simp only[Z3,seval,-ae]) (by omega) (zL _ _) rN.ok λo1=>hk _ (FI.mk (by simp))
end Go.Proofs
