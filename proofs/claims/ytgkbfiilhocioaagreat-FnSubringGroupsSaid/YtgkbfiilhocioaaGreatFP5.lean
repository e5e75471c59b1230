/- . -/
import Derived.Test.YtgkbfiilhocioaaGreatFP4
open Nat renaming le_refl→vM
open Int renaming reduceNatCast'->ae
set_option maxRecDepth 100000
namespace Go.Grp
end Go.Grp
set_option linter.unusedSimpArgs false
set_option linter.unusedVariables false
namespace Go.Proofs
open Go.Ab Go.Lie Go.Grp
variable{σ:PHeap}{K:PV->PHeap->Prop}{O:V1}{P:V2}{C:V3}{vO vP vC vx:PV}{s:Nat}{x:V1}{rP rC:List PV}
theorem pw_sq{α:Type}{S:α->Prop}{m:α->α->α}{e:α}(M:Mon S m e){x:α}(hx:S x):∀q,Grp.pw m e (m x x) q=Grp.pw m e x (q+q)
 |0=>rfl
 |q+1=>by
  rw[show q+1+(q+1)=(q+q)+1+1 by omega];show m (Grp.pw m e (m x x) q) (m x x)=m (m (Grp.pw m e x (q+q)) x) x;rw[pw_sq M hx q,M.as (M.pw hx _) hx hx]
theorem zQi{α:Type}{S:α->Prop}{m:α->α->α}{e:α}(M:Mon S m e){x:α}(hx:S x)(q:Nat):m x (Grp.pw m e (m x x) q)=Grp.pw m e x (q+q+1):=by
 rw[pw_sq M hx q];exact(M.pw_comm hx _).symm
theorem zBV(s:Shp O P C){d i:Nat}(hi:O.length=d+i)(eW:AtOK O P C d i)(M:Mon (TT O i) (mu O P C d) (zv O))(hR:IsPr vO vP vC O P C)(hx:TT O i x)(aX:FI vx x){k:Int}(eC:0<=k/\k<=1000)
  (hk:∀v,FI v (pw (mu O P C d) (zv O) x k.toNat)->K v σ):zA Tryz.prog 272 [.agg [vO,vP,vC],.int .i64 i,vx,.int .i64 k] σ K:=by
 have aN:=s.le;have aJ:=hR;obtain⟨kn,rfl⟩:∃kn:Nat,k=kn:=⟨k.toNat,by omega⟩
 obtain⟨⟨w0,a0,rfl⟩,⟨w1,a1,rP,rfl,hP⟩,⟨w3,a3,rC,rfl,hC⟩⟩:=hR;refine zA.gh ?_;refine zD mix Tryz.func272 ?_
 conv=>arg 2;cbv
 refine zF rfl ?_;simp only[Z3,seval,-ae,List.length_replicate,qA,mk8 (n:=O.length) (by omega),mkL (n:=O.length) (by omega)];have aq:Keep σ (((σ.new [.fz w0 a0 O.length (pis O),.fz w1 a1 P.length rP,.fz w3 a3 C.length rC]).new (pis (zv O))).kill (σ.next+1)):=((zC σ _).new _).kill (by omega);refine ZG (λm vs h'=>∃(k:Nat) (vo vb:PV) (A b:V1),k<=1000/\m=k/\vs=[.int .i64 i,.int .i64 k,.ptr σ.next 0,vo,vb]/\
  h'=((σ.new [.fz w0 a0 O.length (pis O),.fz w1 a1 P.length rP,.fz w3 a3 C.length rC]).new (pis (zv O))).kill (σ.next+1)/\FI vo A/\FI vb b/\TT O i A/\TT O i b/\mu O P C d A (pw (mu O P C d) (zv O) b k)=pw (mu O P C d) (zv O) x kn) kn ?_ ?_
 .refine .fz (σ.next+1) (pis (zv O)) (by simp only[Z3,seval,-ae]) (zL _ _) λo1=>.here ?_;refine⟨kn,.fz true (.sl o1 0 O.length (.known O.length)) O.length (pis (zv O)),vx,zv O,x,by omega,rfl,?_,rfl,FI.mk (by simp),aX,s.zv _,hx,M.l1 (M.pw hx _)⟩;simp only[Z3,seval,-ae];simp only[sbs,sb,capOK,vM,decide_true,and_self,if_true,aX.sb]
 rintro m vs h' ⟨k,vo,vb,A,b,fe,rfl,rfl,rfl,ks,dM,hA,hb,hinv⟩
 simp only[Z3,seval,-ae];refine iteI (λEZ=>?_) λhle=>?_;rotate_left
 .have qq:m=0:=by omega
  subst qq;rw[show pw (mu O P C d) (zv O) b 0=zv O from rfl,M.r1 hA]at hinv;rw[show((kn:Int)).toNat=kn from Int.toNat_natCast kn,<-hinv]at hk;exact Gh.fin0 aq (ks.bel _) (hk _ ks)
 have EG:Int.tmod (m:Int) 2=((m % 2:Nat):Int):=by rw[Int.tmod_eq_emod_of_nonneg (by omega)];rfl
 have yi:Int.tdiv (m:Int) 2=((m / 2:Nat):Int):=by rw[Int.tdiv_eq_ediv_of_nonneg (by omega)];rfl
 have h2:¬((2:Int)=0):=by decide
 have EA:IntKind.i64.wrap ((m / 2:Nat):Int)=((m / 2:Nat):Int):=wrap64 (by omega) (by omega);have L9:IntKind.i64.wrap ((m % 2:Nat):Int)=((m % 2:Nat):Int):=wrap64 (by omega) (by omega);have wD:=M.cl hb hb;by_cases ho:m % 2=1
 .have cM:((m % 2:Nat):Int)=1:=by omega
  simp only[Z3,seval,-ae,h2,EG,cM,eq_true cM];refine eW aJ hA hb ks dM λv hv=>?_;simp only[Z3,seval,-ae];refine eW aJ hb hb dM dM λv2 bW=>?_;simp only[Z3,seval,-ae,h2,yi,EA];refine⟨m / 2,by omega,.here ⟨m / 2,v,v2,_,_,by omega,rfl,rfl,rfl,hv,bW,M.cl hA hb,wD,?_⟩⟩;rw[M.as hA hb (M.pw wD _),zQi M hb,show m / 2+m / 2+1=m by omega];exact hinv
 .have cM:¬((m % 2:Nat):Int)=1:=by omega
  simp only[Z3,seval,-ae,h2,EG,cM];refine eW aJ hb hb dM dM λv2 bW=>?_;simp only[Z3,seval,-ae,h2,yi,EA];refine⟨m / 2,by omega,.here ⟨m / 2,vo,v2,_,_,by omega,rfl,rfl,rfl,ks,bW,hA,wD,?_⟩⟩;rw[pw_sq M hb,show m / 2+m / 2=m by omega];exact hinv
theorem zLg{n k:Nat}(hn:n<=1048576)(bF:k<n)(hk:∀v,FI v (unitL n k)->K v σ):zA Tryz.prog 248 [.int .i64 n,.int .i64 k] σ K:=by
 refine zA.gh ?_;refine zD mix Tryz.func248 ?_
 conv=>arg 2;cbv
 refine zF rfl ?_;simp only[Z3,seval,-ae,List.length_replicate,qA,mk8 (n:=n) (by omega),mkL (n:=n) (by omega),bF,Nat.succ_le_of_lt bF,zJ];rw[zX (by simpa using bF)];exact Gh.finF (s:=σ.next) (zC σ _) (by simp only[Z3,seval,-ae];rfl) (vM _) (zL _ _) (by simp[capOK]) λo1=>hk _ (FI.mk (qH n k))
end Go.Proofs
namespace Go.Proofs
open Go.Ab Go.Lie Go.Grp
variable{σ:PHeap}{K:PV->PHeap->Prop}{O:V1}{P:V2}{C:V3}{vO vP vC vf:PV}{x y f:V1}{d:Nat}
theorem zPH{s off l:Nat}{cap:Cap}{ys:V1}(hs:s<σ.next)(hr:σ.rd s off l=some (pis ys))(hl:ys.length=l)(hb:l<=1048576)(hk:∀a,K (.fz true a l (pis ys)) σ):zA Tryz.prog 206 [.sl s off l cap] σ K:=by
 refine zA.gh ?_;have ar:¬s=σ.next:=Nat.ne_of_lt hs;refine zD mix Tryz.func206 ?_
 conv=>arg 2;cbv
 refine zF rfl ?_;simp only[Z3,seval,-ae];refine PSl.app (b:=0) (news:=pis ys) (m:=l) (zC σ _) (Nat.zero_le _) (PSl.new _ 1 rfl (vM _)) rfl (λh0=>?_) (by rw[zJ,hl,Nat.mul_one]) (by omega) (by omega) λv' h' k1 k2=>?_
 .rw[Qv];simp only[h0,if_false,vM,if_true,Nat.mul_one,zAT,ar];exact hr
 .simp only[Z3,seval,-ae]at k2 ⊢;exact k2.fin k1 (zL _ _) λo cap=>hk _
theorem zKa{α:Type}{m:α->α->α}{h:Nat->α}{x:Nat->Nat}{c:Nat}:∀{k t:Nat} {a:α},(∀j,t<=j->j<t+k->x j=0)->fo m h x t (k+c) a=fo m h x (t+k) c a
 |0,t,a,_=>by rw[Nat.zero_add,Nat.add_zero]
 |k+1,t,a,h0=>by
  rw[show k+1+c=(k+c)+1 by omega,fo,h0 t (vM _) (by omega)];show fo _ _ _ (t+1) (k+c) a=_;rw[zKa (λj h1 h2=>h0 j (by omega) (by omega)),show t+1+k=t+(k+1) by omega]
theorem zQE(s:Shp O P C)(F:Full O P C d)(hx:TT O (O.length-d) x)(hf:TT O (O.length-d) f):fo (mu O P C d) (Grp.unit O) (nx f) 0 O.length x=mu O P C d x f:=by
 have hle:=F.le;have M:=F.gp.toMon;have h1:=zKa (m:=mu O P C d) (h:=Grp.unit O) (x:=nx f) (c:=d) (k:=O.length-d) (t:=0) (a:=x) λj _ h2=>by show(at_ f j).toNat=0;rw[hf.zero j (by omega)];rfl
 rw[show O.length-d+d=O.length by omega,Nat.zero_add]at h1;rw[h1,M.fo_eq (λj h1 h2=>s.unit (by omega) h1) hx];congr 1;exact F.nf hf
def TGok(O:V1)(P:V2)(C:V3)(d j:Nat):Prop:=
 ∀(σ:PHeap) (K:PV->PHeap->Prop) (sp se:Nat) (cap:Cap) (x:V1) (vO vP vC:PV),PtrG σ sp vO vP vC->IsPr vO vP vC O P C->σ.obj se=some (pis x)->se<σ.next->sp≠se->full 1 cap O.length->TT O (O.length-d) x->
  K (.tup []) (σ.set se (pis (mu O P C d x (Grp.unit O j))))->zA Tryz.prog 286 [.ptr sp 0,.sl se 0 O.length cap,.int .i64 j] σ K
theorem Qa(s:Shp O P C)(F:Full O P C d){t:Nat}(ht:O.length-d<=t)(wH:∀j,t<=j->j<O.length->TGok O P C d j){sp se:Nat}{cap:Cap}(hs:PtrG σ sp vO vP vC)(hR:IsPr vO vP vC O P C)
  (he:σ.obj se=some (pis x)) (nY:se<σ.next) (ar:sp≠se) (bh:full 1 cap O.length) (hx:TT O (O.length-d) x) (hf:TT O t f) (uo:FI vf f) (hk:K (.tup []) (σ.set se (pis (mu O P C d x f)))):zA Tryz.prog 215 [.ptr sp 0,.sl se 0 O.length cap,vf] σ K:=by
 have aN:=s.le;have MD:=hf.len;have M:=F.gp.toMon;obtain⟨wf,af,rfl⟩:=uo;refine zD mix Tryz.func215 ?_
 conv=>arg 2;cbv
 refine zF rfl ?_;simp only[Z3,seval,-ae];refine zG (λm vs h'=>∃(q:Nat) (y:V1),q<=O.length/\m=O.length-q/\vs=[.ptr sp 0,.sl se 0 O.length cap,.fz wf af f.length (pis f),.int .i64 f.length,.int .i64 q]/\h'=σ.set se (pis y)/\TT O (O.length-d) y/\fo (mu O P C d) (Grp.unit O) (nx f) q (O.length-q) y=mu O P C d x f) O.length ?_ ?_
 .exact⟨0,x,by omega,by omega,rfl,(zAP he).symm,hx,zQE s F hx (hf.mono ht)⟩
 rintro m vs h' ⟨q,y,hq,rfl,rfl,rfl,hy,bH⟩
 simp only[Z3,seval,-ae];refine iteI (λah=>?_) λaG=>?_;rotate_left
 .have gR:q=O.length:=by omega
  subst gR;rw[Nat.sub_self]at bH;rw[<-bH]at hk;exact hk
 have ym:q<O.length:=by omega
 have bf:=hf.bd q ym;have bO:=s.pr q ym;have dk:((nx f q:Nat):Int)=at_ f q:=Int.toNat_of_nonneg bf.1;rw[show O.length-q=(O.length-(q+1))+1 by omega]at bH;simp only[Z3,seval,-ae,pisAt ah,ah];refine zG (λm vs h'=>∃(k:Nat) (y:V1),k<=nx f q/\m=nx f q-k/\vs=[.ptr sp 0,.sl se 0 O.length cap,.int .i64 q,.fz wf af f.length (pis f),.int .i64 f.length,.int .i64 q,.int .i64 (at_ f q),.int .i64 k]/\h'=σ.set se (pis y)/\TT O (O.length-d) y/\fo (mu O P C d) (Grp.unit O) (nx f) (q+1) (O.length-(q+1)) (rep (mu O P C d) (Grp.unit O q) (nx f q-k) y)=mu O P C d x f) (nx f q) ?_ ?_
 .exact⟨0,y,by omega,by omega,rfl,rfl,hy,bH⟩
 rintro m vs h' ⟨k,y,bF,rfl,rfl,rfl,hy,bH⟩
 simp only[Z3,seval,-ae];refine iteI (λaD=>?_) λfO=>?_
 .have bn:k<nx f q:=by omega
  have Ih:t<=q:=by
   rcases Nat.lt_or_ge q t with h|h
   .have:=hf.zero q h;omega
   .exact h
  have hu:TT O (O.length-d) (Grp.unit O q):=s.unit ym (by omega);refine wH q Ih ym _ _ sp se cap y vO vP vC (hs.set ar _) hR (by simp only[Z3,seval,-ae]) nY ar bh hy ?_;simp only[Z3,seval,-ae,wrapS bn (by omega:nx f q<=4611686018427387904)];refine⟨_,by omega,k+1,_,by omega,rfl,rfl,rfl,M.cl hy hu,?_⟩;rw[show nx f q-k=(nx f q-(k+1))+1 by omega]at bH;exact bH
 .have dJ:k=nx f q:=by omega
  subst dJ;rw[Nat.sub_self]at bH;simp only[Z3,seval,-ae,wrapS ah (by omega:f.length<=4611686018427387904)];exact⟨_,by omega,q+1,y,by omega,rfl,rfl,rfl,hy,bH⟩
end Go.Proofs
namespace Go.Proofs
open Go.Ab Go.Lie Go.Grp
variable{σ:PHeap}{K:PV->PHeap->Prop}{O:V1}{P:V2}{C:V3}{vO vP vC vf:PV}{x y f:V1}{rP rC:List PV}{d j:Nat}
def zr(x:V1)(j:Nat):Nat->V1
 |0=>x
 |k+1=>(zr x j k).set (j+(1+k)) 0
theorem zB3:∀k,(zr x j k).length=x.length
 |0=>rfl
 |k+1=>by rw[zr,List.length_set];exact zB3 k
theorem zr_at:∀{k:Nat},j+(1+k)<=x.length->∀t,at_ (zr x j k) t=if j<t/\t<j+(1+k)then 0 else at_ x t
 |0,_,t=>by rw[if_neg (by omega)];rfl
 |k+1,h,t=>by
  rw[zr,at_set (by rw[zB3];omega)];split
  .rename_i e;rw[if_pos (by omega)]
  .rename_i e;rw[zr_at (by omega)];by_cases g:j<t/\t<j+(1+k)
   .rw[if_pos g,if_pos (by omega)]
   .rw[if_neg g,if_neg (by omega)]
theorem zQV(hj:j<x.length):zr x j (x.length-1-j)=hdz x j:=by
 refine Zl (by rw[zB3,zDs]) λt ht=>?_;rw[zB3]at ht;rw[zr_at (by omega),zCH];by_cases g:t<=j
 .rw[if_neg (by omega),if_pos g]
 .rw[if_pos (by omega),if_neg g]
theorem zJG{se n:Nat}{cap:Cap}(hc:full 1 cap n)(hj:j+1<=n):∃off aZ,Zd 1 (.sl se 0 n cap) (some (.int .i64 ((j+1:Nat):Int))) none none=some (.sl se off (n-(j+1)) aZ)/\(off=j+1\/(off=0/\n-(j+1)=0)):=by
 have e:(0:Int)<=((j+1:Nat):Int)/\((j+1:Nat):Int)<=(n:Int):=⟨by omega,by omega⟩
 rcases hc with rfl|rfl
 .refine⟨j+1,.grown 1,?_,.inl rfl⟩;rw[zBM];simp only[zBQ,zBP,zCX,Option.bind_some,if_pos e,Int.toNat_natCast];simp
 .rw[zBL];simp only[zBQ,zBP,zCX,Option.bind_some,if_pos e,Int.toNat_natCast];by_cases h:n=j+1
  .refine⟨0,.known (n-(j+1)),?_,.inr ⟨rfl,by omega⟩⟩;rw[if_pos h];simp
  .refine⟨j+1,.known (n-(j+1)),?_,.inl rfl⟩;rw[if_neg h];simp
theorem Zr(s:Shp O P C)(F:Full O P C d):∀(r:Nat) {j:Nat},O.length-d<=j->j<O.length->O.length-j<=r->TGok O P C d j
 |0,j,h1,h2,h3=>by omega
 |r+1,j,h1,h2,h3=>by
  intro σ K sp se cap x vO vP vC hs hR he nY ar bh hx hk;have wH:∀j',j+1<=j'->j'<O.length->TGok O P C d j':=λj' g1 g2=>Zr s F r (by omega) g2 (by omega);have aN:=s.le;have aJ:=hR;have pR:=hs;have aW:=hx.len;have sQ:j<x.length:=by omega
  have bx:=hx.bd j h2;have bO:=s.pr j h2;have M:=F.gp.toMon;rw[<-zNy s F hx h1 h2]at hk;obtain⟨⟨w0,a0,rfl⟩,⟨w1,a1,rP,rfl,hP⟩,⟨w3,a3,rC,rfl,hC⟩⟩:=hR;obtain⟨w5,a5,rs,bD,du⟩:=cvRow s hC h2;obtain⟨w6,a6,bw⟩:=pvRow s hP h2;have ov:j<C.length:=by rw[s.cl];exact h2
  have qT:j<P.length:=by rw[s.pl];exact h2
  have cQ:=s.pw j h2;have e0:σ.rd1 sp 0=some (.fz w0 a0 O.length (pis O)):=by rw[zI hs.obj];rfl
  have e1:σ.rd1 sp 1=some (.fz w1 a1 P.length rP):=by rw[zI hs.obj];rfl
  have e2:σ.rd1 sp 2=some (.fz w3 a3 C.length rC):=by rw[zI hs.obj];rfl
  have MX:∀t,σ.rd1 se t=(pis x)[t]?:=λt=>zI he t;obtain⟨off,aZ,bK,p6⟩:=zJG (se:=se) bh (Nat.succ_le_of_lt h2);have DO:IntKind.i64.wrap ((j:Int)+1)=((j+1:Nat):Int):=wrapS h2 (by omega);refine zD mix Tryz.func286 ?_
  conv=>arg 2;cbv
  refine zF rfl ?_;simp only[Z3,seval,-ae,DO,bK];have dZ:(x.drop (j+1)).length=O.length-(j+1):=by simp[aW]
  refine zPH nY (ys:=x.drop (j+1)) ?_ dZ (by omega) λav=>?_
  .rw[ze he,zJ];rcases p6 with rfl|⟨rfl,h0⟩
   .rw[if_pos (by omega),<-zOP,List.take_of_length_le (by rw[List.length_drop,zJ];omega)]
   .rw[h0,if_pos (by omega),List.take_zero,List.drop_eq_nil_of_le (by omega)];rfl
  simp only[Z3,seval,-ae,zJ];refine zG (λm vs h'=>∃k:Nat,k<=O.length-(j+1)/\m=O.length-(j+1)-k/\vs=[.ptr sp 0,.sl se 0 O.length cap,.int .i64 j,.fz true av (O.length-(j+1)) (pis (x.drop (j+1))),.int .i64 ((O.length-(j+1):Nat):Int),.int .i64 k]/\h'=σ.set se (pis (zr x j k))) (O.length-(j+1)) ?_ ?_
  .exact⟨0,by omega,by omega,rfl,(zAP he).symm⟩
  .rintro m vs h' ⟨k,fe,rfl,rfl,rfl⟩
   simp only[Z3,seval,-ae];refine iteI (λah=>?_) λaG=>?_
   .have e3:IntKind.i64.wrap (((j+1:Nat):Int)+(k:Int))=((j+(1+k):Nat):Int):=by rw[wrap64 (by omega) (by omega)];omega
    have dK:j+(1+k)<O.length:=by omega
    have qu:j+(1+k)<(zr x j k).length:=by rw[zB3];omega
    have bY:(pis (zr x j k)).take (j+(1+k))++[.int .i64 0]++(pis (zr x j k)).drop (j+(1+(k+1)))=pis (zr x j (k+1)):=by rw[show j+(1+(k+1))=j+(1+k)+1 by omega];exact zX qu
    have kO:j+(1+(k+1))<=O.length:=by omega
    simp only[Z3,seval,-ae,DO,e3,dK,zJ,zB3,aW,kO,bY,wrapS ah (by omega:O.length-(j+1)<=4611686018427387904)];exact⟨_,by omega,k+1,by omega,rfl,rfl,rfl⟩
   have dJ:k=x.length-1-j:=by omega
   subst dJ;rw[zQV sQ];have dQ:(hdz x j).length=O.length:=by rw[zDs];exact aW
   have qu:j<(hdz x j).length:=by omega
   have CK:at_ (hdz x j) j=at_ x j:=by rw[zCH,if_pos (vM _)]
   have DN:IntKind.i64.wrap (at_ x j+1)=at_ x j+1:=wrap64 (by omega) (by omega);have cf:j<((hdz x j).set j (at_ x j+1)).length:=by rw[List.length_set];exact qu
   have wF:at_ ((hdz x j).set j (at_ x j+1)) j=at_ x j+1:=by rw[at_set qu,if_pos rfl]
   have p1:=pisAt qu;have p2:=pisAt cf;rw[CK]at p1;rw[wF]at p2;have pQ:j+1<=O.length:=h2;simp only[Z3,seval,-ae,h2,dQ,zJ,p1,DN,pQ,zX qu,zAS];simp only[Z3,seval,-ae,h2,dQ,zJ,p1,p2,DN,pQ,zX qu,zAS,ar,e0,pisAt h2];refine iteI (λheq=>?_) λkI=>?_
   .have Jc:((hdz x j).set j (at_ x j+1)).set j 0=(hdz x j).set j 0:=by rw[List.set_set]
    simp only[Z3,seval,-ae,h2,dQ,List.length_set,zJ,pQ,zX cf,Jc,ar,e1,qT,bw];have EI:TT O (O.length-d) ((hdz x j).set j 0):=(zIP hx λt ht=>s.pos ht).set h2 h1 ⟨by omega,by omega⟩;refine Qa s F (t:=j+1) (by omega) wH (pR.set ar (pis ((hdz x j).set j 0))) aJ (x:=(hdz x j).set j 0) (by simp only[Z3,seval,-ae]) nY ar bh EI cQ (FI.mk cQ.len) ?_;simp only[Z3,seval,-ae,zAS];have hY:TT O (O.length-d) (mu O P C d ((hdz x j).set j 0) (pvec P j)):=M.cl EI (cQ.mono (by omega));have kY:fo (mu O P C d) (cvec C j) (nx x) (j+(1+0)) (O.length-(j+1)-0) (mu O P C d ((hdz x j).set j 0) (pvec P j))=tstep O P C (mu O P C d) x j:=by
     rw[tstep,if_pos heq,show O.length-1-j=O.length-(j+1)-0 by omega]
    generalize mu O P C d ((hdz x j).set j 0) (pvec P j)=Y at hY kY ⊢;refine zG (λm vs h'=>∃(k:Nat) (y:V1),k<=O.length-(j+1)/\m=O.length-(j+1)-k/\vs=[.ptr sp 0,.sl se 0 O.length cap,.int .i64 j,.fz true av (O.length-(j+1)) (pis (x.drop (j+1))),.int .i64 ((O.length-(j+1):Nat):Int),.int .i64 k]/\h'=σ.set se (pis y)/\TT O (O.length-d) y/\fo (mu O P C d) (cvec C j) (nx x) (j+(1+k)) (O.length-(j+1)-k) y=tstep O P C (mu O P C d) x j) (O.length-(j+1)) ?_ ?_
    .exact⟨0,Y,by omega,by omega,rfl,rfl,hY,kY⟩
    rintro m vs h' ⟨k,y,fe,rfl,rfl,rfl,hy,bH⟩
    simp only[Z3,seval,-ae];refine iteI (λah=>?_) λaG=>?_;rotate_left
    .have dJ:O.length-(j+1)-k=0:=by omega
     rw[dJ]at bH;rw[<-bH]at hk;exact hk
    have dK:j+(1+k)<O.length:=by omega
    have kR:k<(x.drop (j+1)).length:=by omega
    have la:at_ (x.drop (j+1)) k=at_ x (j+(1+k)):=by
     simp only[at_,List.getD_eq_getElem?_getD,List.getElem?_drop,show j+1+k=j+(1+k) by omega]
    have pk:=pisAt kR;rw[la]at pk;have bk:=hx.bd (j+(1+k)) dK;have F8:=s.pr _ dK;have dk:((nx x (j+(1+k)):Nat):Int)=at_ x (j+(1+k)):=Int.toNat_of_nonneg bk.1;obtain⟨w7,a7,cw⟩:=du k (by omega);have bA:=s.cj j (j+(1+k)) (by omega) dK;have np:k<O.length-1-j:=by omega
    rw[show O.length-(j+1)-k=(O.length-(j+1)-k-1)+1 by omega]at bH;simp only[Z3,seval,-ae,pk,kR,ah];refine zG (λm vs h'=>∃(q:Nat) (y:V1),q<=nx x (j+(1+k))/\m=nx x (j+(1+k))-q/\vs=[.ptr sp 0,.sl se 0 O.length cap,.int .i64 j,.int .i64 k,.fz true av (O.length-(j+1)) (pis (x.drop (j+1))),.int .i64 ((O.length-(j+1):Nat):Int),.int .i64 k,.int .i64 (at_ x (j+(1+k))),.int .i64 q]/\h'=σ.set se (pis y)/\TT O (O.length-d) y/\fo (mu O P C d) (cvec C j) (nx x) (j+(1+k)+1) (O.length-(j+1)-k-1) (rep (mu O P C d) (cvec C j (j+(1+k))) (nx x (j+(1+k))-q) y)=tstep O P C (mu O P C d) x j) (nx x (j+(1+k))) ?_ ?_
    .exact⟨0,y,by omega,by omega,rfl,rfl,hy,bH⟩
    rintro m vs h' ⟨q,y,BW,rfl,rfl,rfl,hy,bH⟩
    simp only[Z3,seval,-ae];refine iteI (λaD=>?_) λfO=>?_
    .have bn:q<nx x (j+(1+k)):=by omega
     simp only[Z3,seval,-ae,ar,e2,ov,bD,np,cw];refine Qa s F (t:=j+1) (by omega) wH (pR.set ar (pis y)) aJ (x:=y) (by simp only[Z3,seval,-ae]) nY ar bh hy bA (FI.mk bA.len) ?_;simp only[Z3,seval,-ae,zAS,wrapS bn (by omega:nx x (j+(1+k))<=4611686018427387904)];refine⟨_,by omega,q+1,_,by omega,rfl,rfl,rfl,M.cl hy (bA.mono (by omega)),?_⟩;rw[show nx x (j+(1+k))-q=(nx x (j+(1+k))-(q+1))+1 by omega]at bH;exact bH
    .have gR:q=nx x (j+(1+k)):=by omega
     subst gR;rw[Nat.sub_self]at bH;simp only[Z3,seval,-ae,wrapS ah (by omega:O.length-(j+1)<=4611686018427387904)];refine⟨_,by omega,k+1,y,by omega,rfl,rfl,rfl,hy,?_⟩;rw[show O.length-(j+1)-(k+1)=O.length-(j+1)-k-1 by omega];exact bH
   .have hY:TT O (O.length-d) ((hdz x j).set j (at_ x j+1)):=(zIP hx λt ht=>s.pos ht).set h2 h1 ⟨by omega,by omega⟩;have kY:fo (mu O P C d) (cvec C j) (nx x) (j+(1+0)) (O.length-(j+1)-0) ((hdz x j).set j (at_ x j+1))=tstep O P C (mu O P C d) x j:=by
     rw[tstep,if_neg kI,show O.length-1-j=O.length-(j+1)-0 by omega]
    clear p2 wF cf;generalize (hdz x j).set j (at_ x j+1)=Y at hY kY ⊢;refine zG (λm vs h'=>∃(k:Nat) (y:V1),k<=O.length-(j+1)/\m=O.length-(j+1)-k/\vs=[.ptr sp 0,.sl se 0 O.length cap,.int .i64 j,.fz true av (O.length-(j+1)) (pis (x.drop (j+1))),.int .i64 ((O.length-(j+1):Nat):Int),.int .i64 k]/\h'=σ.set se (pis y)/\TT O (O.length-d) y/\fo (mu O P C d) (cvec C j) (nx x) (j+(1+k)) (O.length-(j+1)-k) y=tstep O P C (mu O P C d) x j) (O.length-(j+1)) ?_ ?_
    .exact⟨0,Y,by omega,by omega,rfl,rfl,hY,kY⟩
    rintro m vs h' ⟨k,y,fe,rfl,rfl,rfl,hy,bH⟩
    simp only[Z3,seval,-ae];refine iteI (λah=>?_) λaG=>?_;rotate_left
    .have dJ:O.length-(j+1)-k=0:=by omega
     rw[dJ]at bH;rw[<-bH]at hk;exact hk
    have dK:j+(1+k)<O.length:=by omega
    have kR:k<(x.drop (j+1)).length:=by omega
    have la:at_ (x.drop (j+1)) k=at_ x (j+(1+k)):=by
     simp only[at_,List.getD_eq_getElem?_getD,List.getElem?_drop,show j+1+k=j+(1+k) by omega]
    have pk:=pisAt kR;rw[la]at pk;have bk:=hx.bd (j+(1+k)) dK;have F8:=s.pr _ dK;have dk:((nx x (j+(1+k)):Nat):Int)=at_ x (j+(1+k)):=Int.toNat_of_nonneg bk.1;obtain⟨w7,a7,cw⟩:=du k (by omega);have bA:=s.cj j (j+(1+k)) (by omega) dK;have np:k<O.length-1-j:=by omega
    rw[show O.length-(j+1)-k=(O.length-(j+1)-k-1)+1 by omega]at bH;simp only[Z3,seval,-ae,pk,kR,ah];refine zG (λm vs h'=>∃(q:Nat) (y:V1),q<=nx x (j+(1+k))/\m=nx x (j+(1+k))-q/\vs=[.ptr sp 0,.sl se 0 O.length cap,.int .i64 j,.int .i64 k,.fz true av (O.length-(j+1)) (pis (x.drop (j+1))),.int .i64 ((O.length-(j+1):Nat):Int),.int .i64 k,.int .i64 (at_ x (j+(1+k))),.int .i64 q]/\h'=σ.set se (pis y)/\TT O (O.length-d) y/\fo (mu O P C d) (cvec C j) (nx x) (j+(1+k)+1) (O.length-(j+1)-k-1) (rep (mu O P C d) (cvec C j (j+(1+k))) (nx x (j+(1+k))-q) y)=tstep O P C (mu O P C d) x j) (nx x (j+(1+k))) ?_ ?_
    .exact⟨0,y,by omega,by omega,rfl,rfl,hy,bH⟩
    rintro m vs h' ⟨q,y,BW,rfl,rfl,rfl,hy,bH⟩
    simp only[Z3,seval,-ae];refine iteI (λaD=>?_) λfO=>?_
    .have bn:q<nx x (j+(1+k)):=by omega
     simp only[Z3,seval,-ae,ar,e2,ov,bD,np,cw];refine Qa s F (t:=j+1) (by omega) wH (pR.set ar (pis y)) aJ (x:=y) (by simp only[Z3,seval,-ae]) nY ar bh hy bA (FI.mk bA.len) ?_;simp only[Z3,seval,-ae,zAS,wrapS bn (by omega:nx x (j+(1+k))<=4611686018427387904)];refine⟨_,by omega,q+1,_,by omega,rfl,rfl,rfl,M.cl hy (bA.mono (by omega)),?_⟩;rw[show nx x (j+(1+k))-q=(nx x (j+(1+k))-(q+1))+1 by omega]at bH;exact bH
    .have gR:q=nx x (j+(1+k)):=by omega
     subst gR;rw[Nat.sub_self]at bH;simp only[Z3,seval,-ae,wrapS ah (by omega:O.length-(j+1)<=4611686018427387904)];refine⟨_,by omega,k+1,y,by omega,rfl,rfl,rfl,hy,?_⟩;rw[show O.length-(j+1)-(k+1)=O.length-(j+1)-k-1 by omega];exact bH
theorem QZ(s:Shp O P C)(F:Full O P C d){sp se:Nat}{cap:Cap}(hs:PtrG σ sp vO vP vC)(hR:IsPr vO vP vC O P C)
  (he:σ.obj se=some (pis x)) (nY:se<σ.next) (ar:sp≠se) (bh:full 1 cap O.length) (hx:TT O (O.length-d) x) (hf:TT O (O.length-d) f) (uo:FI vf f) (hk:K (.tup []) (σ.set se (pis (mu O P C d x f)))):zA Tryz.prog 215 [.ptr sp 0,.sl se 0 O.length cap,vf] σ K:=
 Qa s F (vM _) (λj h1 h2=>Zr s F O.length h1 h2 (by omega)) hs hR he nY ar bh hx hf uo hk
end Go.Proofs
namespace Go.Proofs
open Go.Ab Go.Lie Go.Grp
variable{σ:PHeap}{K:PV->PHeap->Prop}{O:V1}{P:V2}{C:V3}{vO vP vC vf va vb:PV}{x f a b:V1}{d sp:Nat}
theorem zE9{v:PV}{sp:Nat}(hf:f=[])(uo:FI vf f)(hk:K (.tup []) σ):zA Tryz.prog 215 [.ptr sp 0,v,vf] σ K:=by
 obtain⟨wf,af,rfl⟩:=uo;subst hf;refine zD mix Tryz.func215 ?_
 conv=>arg 2;cbv
 refine zF rfl ?_;simp only[Z3,seval,-ae];refine zG (λm vs h'=>m=0/\vs=[.ptr sp 0,v,.fz wf af ([]:V1).length (pis []),.int .i64 (([]:V1).length:Nat),.int .i64 (0:Nat)]/\σ=h') 0 ⟨rfl,rfl,rfl⟩ ?_
 rintro m vs h' ⟨rfl,rfl,rfl⟩
 simp only[Z3,seval,-ae];exact hk
theorem zEC(s:Shp O P C)(F:Full O P C d)(hs:PtrG σ sp vO vP vC)(hR:IsPr vO vP vC O P C)(ha:TT O (O.length-d) a)(hb:TT O (O.length-d) b)(dD:FI va a)(dM:FI vb b)(hk:ResI σ K (mu O P C d a b)):
  zA Tryz.prog 127 [.ptr sp 0,va,vb] σ K:=by
 have aN:=s.le;have cZ:=ha.len;have gV:=(F.gp.cl ha hb).len;have ar:sp≠σ.next:=Nat.ne_of_lt hs.lt;obtain⟨wa,aa,rfl⟩:=dD;refine zA.gh ?_;refine zD mix Tryz.func127 ?_
 conv=>arg 2;cbv
 refine zF rfl ?_;simp only[Z3,seval,-ae];refine Zh rfl (by omega) ⟨λh0=>?_,λcap hc=>?_⟩
 .have oF:b=[]:=List.eq_nil_of_length_eq_zero (by rw[hb.len,<-cZ,h0];rfl);simp only[Z3,seval,-ae];refine zE9 oF dM ?_;simp only[Z3,seval,-ae];exact Gh.fin0 (Keep.refl σ) trivial (hk.1 (List.eq_nil_of_length_eq_zero (by show(mu O P C d a b).length=0;rw[gV,<-cZ,h0];rfl)))
 .rw[cZ]at hc;rw[cZ];simp only[Z3,seval,-ae];refine QZ s F (hs.new _) hR (x:=a) (by simp only[Z3,seval,-ae]) (by simp only[Z3,seval,-ae]) ar hc ha hb dM ?_;simp only[Z3,seval,-ae];rw[show O.length=(mu O P C d a b).length from gV.symm]at hc ⊢;exact Gh.finS (zC σ _) (by simp only[Z3,seval,-ae]) (vM _) (zL _ _) (hk.2 cap hc)
theorem zBy(s:Shp O P C)(F:Full O P C d)(hs:PtrG σ sp vO vP vC)(hR:IsPr vO vP vC O P C)(ha:TT O (O.length-d) a)(hb:TT O (O.length-d) b)(dD:FI va a)(dM:FI vb b)(hk:∀v,FI v (mu O P C d a b)->K v σ):
  zA Tryz.prog 127 [.ptr sp 0,va,vb] σ K:=zA.fzI (λK'=>zEC s F hs hR ha hb dD dM) λa=>hk _ ⟨_,_,rfl⟩
theorem zHl(s:Shp O P C)(F:Full O P C d)(hs:PtrG σ sp vO vP vC)(hR:IsPr vO vP vC O P C)(ha:TT O (O.length-d) a)(dD:FI va a){k:Int}(eC:0<=k/\k<=1000000)(hk:ResI σ K (pw (mu O P C d) (zv O) a k.toNat)):
  zA Tryz.prog 158 [.ptr sp 0,va,.int .i64 k] σ K:=by
 have aN:=s.le;have cZ:=ha.len;have M:=F.gp.toMon;have ar:sp≠σ.next:=Nat.ne_of_lt hs.lt;have uq:=dD;obtain⟨wa,aa,rfl⟩:=dD;rw[cZ]at uq ⊢;refine zA.gh ?_;refine zD mix Tryz.func158 ?_
 conv=>arg 2;cbv
 refine zF rfl ?_;simp only[Z3,seval,-ae,List.length_replicate,qA,mk8 (n:=O.length) (by omega),mkL (n:=O.length) (by omega)];refine zG (λm vs h'=>∃q:Nat,q<=k.toNat/\m=k.toNat-q/\vs=[.ptr sp 0,.fz wa aa O.length (pis a),.sl σ.next 0 O.length (.known O.length),.int .i64 k,.int .i64 q]/\h'=σ.new (pis (pw (mu O P C d) (zv O) a q))) k.toNat ?_ ?_
 .exact⟨0,by omega,by omega,rfl,rfl⟩
 rintro m vs h' ⟨q,hq,rfl,rfl,rfl⟩
 simp only[Z3,seval,-ae];refine iteI (λah=>?_) λaG=>?_
 .have bn:q<k.toNat:=by omega
  have hp:=M.pw ha q;refine QZ s F (hs.new _) hR (x:=pw (mu O P C d) (zv O) a q) (by simp only[Z3,seval,-ae]) (by simp only[Z3,seval,-ae]) ar (.inr rfl) hp ha uq ?_;simp only[Z3,seval,-ae,wrapS bn (by omega:k.toNat<=4611686018427387904)];exact⟨_,by omega,q+1,by omega,rfl,rfl,rfl⟩
 .have gR:q=k.toNat:=by omega
  subst gR;have gV:=(M.pw ha k.toNat).len;have hc:full 1 (.known O.length) (pw (mu O P C d) (zv O) a k.toNat).length:=.inr (by rw[gV]);refine Gh.finS (zC σ _) (by simp only[Z3,seval,-ae];rfl) (vM _) (zL _ _) ?_
  have:=hk.2 _ hc
  rwa[gV]at this
theorem zEY(s:Shp O P C)(F:Full O P C d)(hs:PtrG σ sp vO vP vC)(hR:IsPr vO vP vC O P C)(ha:TT O (O.length-d) a)(dD:FI va a){k:Int}(eC:0<=k/\k<=1000000)(hk:∀v,FI v (pw (mu O P C d) (zv O) a k.toNat)->K v σ):
  zA Tryz.prog 158 [.ptr sp 0,va,.int .i64 k] σ K:=zA.fzI (λK'=>zHl s F hs hR ha dD eC) λa=>hk _ ⟨_,_,rfl⟩
theorem mu_step(s:Shp O P C){i:Nat}(hd:O.length-d<=i)(hle:d<=O.length)(hi:i<O.length)(hx:TT O i x):TT O i (mu O P C d x (Grp.unit O i))/\at_ (mu O P C d x (Grp.unit O i)) i=if at_ x i+1=at_ O i then 0 else at_ x i+1:=by
 have hu:TT O i (Grp.unit O i):=s.unit hi (vM _);obtain⟨e,he⟩:∃e,O.length-i=e+1:=⟨O.length-i-1,by omega⟩
 have aK:O.length-(e+1)=i:=by omega
 have e1:mu O P C d x (Grp.unit O i)=mu O P C (e+1) x (Grp.unit O i):=by
  have:=zM5 s (d:=e+1) (k:=d-(e+1)) (u:=x) (v:=Grp.unit O i) (by omega) (by rw[aK];exact hx) (by rw[aK];exact hu)
  rwa[show e+1+(d-(e+1))=d by omega]at this
 have h1:=mu_tt s (d:=e+1) (a:=x) (b:=Grp.unit O i) (by omega) (by rw[aK];exact hx) (by rw[aK];exact hu);rw[aK]at h1;rw[e1];refine⟨h1,?_⟩;have bx:=hx.bd i hi;have bO:=s.pr i hi;have fD:at_ (Grp.unit O i) i=1:=by rw[at_set (by simp;exact hi),if_pos rfl]
 have aF:=s.pos hi;have hm:∀a b,TT O (i+1) a->TT O (i+1) b->TT O (i+1) (mu O P C e a b):=λa b ha hb=>by
  have:=mu_tt s (d:=e) (a:=a) (b:=b) (by omega) (by rwa[show O.length-e=i+1 by omega]) (by rwa[show O.length-e=i+1 by omega])
  rwa[show O.length-e=i+1 by omega]at this
 have ir:=hm _ _ (zBB (λx _=>Qk s hm x) (nx (Grp.unit O i) i) (hx.set0 hi aF)) (hu.set0 hi aF);simp only[mu,aK];rw[fD];split
 .have nP:=hm _ _ (s.pw i hi) ir;rw[at_set (by rw[nP.len];exact hi),if_pos rfl];split<;>omega
 .rw[at_set (by rw[ir.len];exact hi),if_pos rfl,if_neg (by omega)]
end Go.Proofs
namespace Go.Proofs
open Go.Ab Go.Lie Go.Grp
variable{σ:PHeap}{K:PV->PHeap->Prop}{O:V1}{P:V2}{C:V3}{vO vP vC vx va vb:PV}{x y a b:V1}{rP rC:List PV}{d j sp:Nat}
theorem zNR(s:Shp O P C)(F:Full O P C d)(hs:PtrG σ sp vO vP vC)(hR:IsPr vO vP vC O P C)(ha:TT O (O.length-d) a)(dD:FI va a)(hk:∀z,TT O (O.length-d) z->mu O P C d a z=zv O->ResI σ K z):
  zA Tryz.prog 246 [.ptr sp 0,va] σ K:=by
 have aN:=s.le;have hle:=F.le;have cZ:=ha.len;have M:=F.gp.toMon;have ar:sp≠σ.next:=Nat.ne_of_lt hs.lt;have jE:sp≠σ.next+1:=by have:=hs.lt;omega
 obtain⟨wa,aa,rfl⟩:=dD;refine zA.gh ?_;refine zD mix Tryz.func246 ?_
 conv=>arg 2;cbv
 refine zF rfl ?_;simp only[Z3,seval,-ae];refine Zh rfl (by omega) ⟨λh0=>?_,λcap hc=>?_⟩
 .have Kc:O=[]:=List.eq_nil_of_length_eq_zero (by rw[<-cZ,h0];rfl);subst Kc;subst h0;simp only[Z3,seval,-ae,mk8 (n:=0) (by omega),mkL (n:=0) (by omega)];refine zG (λm vs h'=>m=0/\vs=[.ptr sp 0,.fz true .nils 0 [],.sl σ.next 0 0 (.known 0),.int .i64 (0:Nat),.int .i64 (0:Nat)]/\h'=σ.new []) 0 ⟨rfl,rfl,rfl⟩ ?_
  rintro m vs h' ⟨rfl,rfl,rfl⟩
  simp only[Z3,seval,-ae];have Ju:d=0:=by simpa using hle
  exact Gh.finS (cs:=pis []) (zC σ _) (by simp only[Z3,seval,-ae];rfl) (vM _) (zL _ _) ((hk [] (s.zv _) (by subst Ju;rfl)).2 _ (.inr rfl))
 rw[cZ]at hc;rw[cZ];simp only[Z3,seval,-ae,List.length_replicate,qA,mk8 (n:=O.length) (by omega),mkL (n:=O.length) (by omega)];refine zG (λm vs h'=>∃(i:Nat) (r z:V1),i<=O.length/\m=O.length-i/\vs=[.ptr sp 0,.sl σ.next 0 O.length cap,.sl (σ.next+1) 0 O.length (.known O.length),.int .i64 O.length,.int .i64 i]/\h'=(σ.new (pis r)).new (pis z)/\TT O (O.length-d) r/\TT O i r/\TT O (O.length-d) z/\mu O P C d a z=r) O.length ?_ ?_
 .exact⟨0,a,zv O,by omega,by omega,rfl,rfl,ha,ha.mono (Nat.zero_le _),s.zv _,M.r1 ha⟩
 rintro m vs h' ⟨i,r,z,hi,rfl,rfl,rfl,hr,pU,hz,hinv⟩
 simp only[Z3,seval,-ae];refine iteI (λah=>?_) λaG=>?_;rotate_left
 .have aK:i=O.length:=by omega
  subst aK;have iF:r=zv O:=pU.ext (s.zv _) λj h1 h2=>by omega
  rw[iF]at hinv;have dQ:=hz.len
  have:=(hk z hz hinv).2 (.known O.length) (.inr (by rw[dQ]))
  rw[dQ]at this;exact Gh.finS (s:=σ.next+1) ((zC σ _).new _) (by simp only[Z3,seval,-ae]) (by omega) (zL _ _) this
 simp only[Z3,seval,-ae];have bO:=s.pr i ah;refine zG (λm vs h'=>∃(r z:V1),m=((at_ O i-at_ r i) % at_ O i).toNat/\vs=[.ptr sp 0,.sl σ.next 0 O.length cap,.sl (σ.next+1) 0 O.length (.known O.length),.int .i64 i,.int .i64 O.length,.int .i64 i]/\h'=(σ.new (pis r)).new (pis z)/\TT O (O.length-d) r/\TT O i r/\TT O (O.length-d) z/\mu O P C d a z=r) _ ⟨r,z,rfl,rfl,rfl,hr,pU,hz,hinv⟩ ?_
 rintro m vs h' ⟨r,z,rfl,rfl,rfl,hr,pU,hz,hinv⟩
 have bp:i<r.length:=by rw[hr.len];exact ah
 have br:=hr.bd i ah;simp only[Z3,seval,-ae,ah,pisAt bp];refine iteI (λheq=>?_) λkI=>?_
 .simp only[Z3,seval,-ae,wrapS ah (by omega:O.length<=4611686018427387904)];refine⟨_,by omega,i+1,r,z,by omega,rfl,rfl,rfl,hr,?_,hz,hinv⟩;refine⟨pU.len,pU.bd,λt ht=>?_⟩;by_cases e:t=i
  .subst e;exact heq
  .exact pU.zero t (by omega)
 .have yz:O.length-d<=i:=by
   rcases Nat.lt_or_ge i (O.length-d)with h|h
   .exact absurd (hr.zero i h) kI
   .exact h
  have hu:TT O (O.length-d) (Grp.unit O i):=s.unit ah yz;obtain⟨m1,m2⟩:=mu_step s yz hle ah pU;refine Zr s F O.length yz ah (by omega) _ _ sp σ.next cap r vO vP vC ((hs.new _).new _) hR (by simp only[Z3,seval,-ae]) (by simp only[Z3,seval,-ae];omega) ar hc hr ?_;simp only[Z3,seval,-ae];refine Zr s F O.length yz ah (by omega) _ _ sp (σ.next+1) (.known O.length) z vO vP vC ((hs.new _).new _) hR (by simp only[Z3,seval,-ae]) (by simp only[Z3,seval,-ae]) jE (.inr rfl) hz ?_;simp only[Z3,seval,-ae];refine⟨_,?_,_,_,rfl,rfl,M.cl hr hu,m1,M.cl hz hu,by rw[<-M.as ha hz hu,hinv]⟩;rw[m2];split
  .rename_i e;rw[Int.sub_zero,Int.emod_self]
   have:(at_ O i-at_ r i) % at_ O i=at_ O i-at_ r i:=Int.emod_eq_of_lt (by omega) (by omega)
   omega
  .rename_i e;have h1:(at_ O i-at_ r i) % at_ O i=at_ O i-at_ r i:=Int.emod_eq_of_lt (by omega) (by omega);have h2:(at_ O i-(at_ r i+1)) % at_ O i=at_ O i-(at_ r i+1):=Int.emod_eq_of_lt (by omega) (by omega);omega
theorem zGp(s:Shp O P C)(F:Full O P C d)(hs:PtrG σ sp vO vP vC)(hR:IsPr vO vP vC O P C)(ha:TT O (O.length-d) a)(dD:FI va a)(hk:∀v z,TT O (O.length-d) z->mu O P C d a z=zv O->FI v z->K v σ):
  zA Tryz.prog 246 [.ptr sp 0,va] σ K:=
 zA.gh (zNR s F hs hR ha dD λz h1 h2=>⟨λh0=>Gh.fin0 (Keep.refl σ) trivial (hk _ z h1 h2 ⟨true,.nils,by rw[h0];rfl⟩),λcap hc=>Gh.finF (zC σ _) (by simp only[Z3,seval,-ae]) (vM _) (zL _ _) hc.ok λo=>hk _ z h1 h2 ⟨true,.sl o 0 z.length cap,rfl⟩⟩)
theorem zIe(s:Shp O P C)(F:Full O P C d)(hs:PtrG σ sp vO vP vC)(hR:IsPr vO vP vC O P C)(ha:TT O (O.length-d) a)(hb:TT O (O.length-d) b)(dD:FI va a)(dM:FI vb b)(hk:∀z,TT O (O.length-d) z->mu O P C d b z=mu O P C d a b->ResI σ K z):
  zA Tryz.prog 228 [.ptr sp 0,va,vb] σ K:=by
 have M:=F.gp.toMon;refine zA.gh ?_;refine zD mix Tryz.func228 ?_
 conv=>arg 2;cbv
 refine zF rfl ?_;simp only[Z3,seval,-ae];refine zGp s F hs hR hb dM λv1 z1 h1 h2 f1=>?_;simp only[Z3,seval,-ae];refine zBy s F hs hR ha hb dD dM λv2 f2=>?_;simp only[Z3,seval,-ae];have jx:=M.cl ha hb;have hz:=M.cl h1 jx;have hr:=hk _ hz (by rw[<-M.as hb h1 jx,h2,M.l1 jx]);refine zEC s F hs hR h1 jx f1 f2 ⟨λh0=>?_,λcap hc=>?_⟩
 .simp only[Z3,seval,-ae];exact Gh.ret (hr.1 h0)
 .simp only[Z3,seval,-ae];exact Gh.ret (hr.2 cap hc)
theorem zAH(s:Shp O P C)(F:Full O P C d)(hs:PtrG σ sp vO vP vC)(hR:IsPr vO vP vC O P C)(ha:TT O (O.length-d) a)(hb:TT O (O.length-d) b)(dD:FI va a)(dM:FI vb b)(hk:∀v z,TT O (O.length-d) z->mu O P C d b z=mu O P C d a b->FI v z->K v σ):
  zA Tryz.prog 228 [.ptr sp 0,va,vb] σ K:=
 zA.gh (zIe s F hs hR ha hb dD dM λz h1 h2=>⟨λh0=>Gh.fin0 (Keep.refl σ) trivial (hk _ z h1 h2 ⟨true,.nils,by rw[h0];rfl⟩),λcap hc=>Gh.finF (zC σ _) (by simp only[Z3,seval,-ae]) (vM _) (zL _ _) hc.ok λo=>hk _ z h1 h2 ⟨true,.sl o 0 z.length cap,rfl⟩⟩)
theorem zA5(s:Shp O P C)(F:Full O P C d){i:Nat}(hi:O.length=d+(i+1))(hs:PtrG σ sp vO vP vC)(hR:IsPr vO vP vC O P C)(hx:TT O 0 x)(aX:FI vx x)(hk:∀v,FI v (Grp.img O C (mu O P C d) i x)->K v σ):
  zA Tryz.prog 285 [.ptr sp 0,.int .i64 i,vx] σ K:=by
 have aN:=s.le;have aW:=hx.len;have aH:i<O.length:=by omega
 have M:=F.gp.toMon;have ar:sp≠σ.next:=Nat.ne_of_lt hs.lt;have aJ:=hR;have pR:=hs;have iV:O.length-d=i+1:=by omega
 obtain⟨⟨w0,a0,rfl⟩,⟨w1,a1,rP,rfl,hP⟩,⟨w3,a3,rC,rfl,hC⟩⟩:=hR;obtain⟨w5,a5,rs,bD,du⟩:=cvRow s hC aH;have cB:i<C.length:=by rw[s.cl];exact aH
 have e2:σ.rd1 sp 2=some (.fz w3 a3 C.length rC):=by rw[zI hs.obj];rfl
 have bB:IntKind.i64.wrap ((i:Int)+1)=((i+1:Nat):Int):=wrapS aH (by omega);obtain⟨wx,ax,rfl⟩:=aX;rw[aW];have u9:O.length-1-i=d:=by omega
 rw[u9]at bD du;refine zA.gh ?_;refine zD mix Tryz.func285 ?_
 conv=>arg 2;cbv
 refine zF rfl ?_;simp only[Z3,seval,-ae,List.length_replicate,qA,mk8 (n:=O.length) (by omega),mkL (n:=O.length) (by omega),e2,ar,cB,bD];refine zG (λm vs h'=>∃(k:Nat) (y:V1),k<=d/\m=d-k/\vs=[.ptr sp 0,.int .i64 i,.fz wx ax O.length (pis x),.sl σ.next 0 O.length (.known O.length),.fz w5 a5 d rs,.int .i64 d,.int .i64 k]/\h'=σ.new (pis y)/\TT O (i+1) y/\fo (mu O P C d) (cvec C i) (nx x) (i+(1+k)) (d-k) y=Grp.img O C (mu O P C d) i x) d ?_ ?_
 .exact⟨0,zv O,by omega,by omega,rfl,rfl,s.zv _,by rw[Grp.img,u9];rfl⟩
 rintro m vs h' ⟨k,y,kR,rfl,rfl,rfl,hy,bH⟩
 simp only[Z3,seval,-ae];refine iteI (λah=>?_) λaG=>?_;rotate_left
 .have dJ:d-k=0:=by omega
  rw[dJ]at bH;rw[<-bH]at hk;exact Gh.finF (zC σ _) (by simp only[Z3,seval,-ae];rfl) (vM _) (zL _ _) (by simp[capOK]) λo=>hk _ (FI.mk hy.len)
 have dK:i+(1+k)<O.length:=by omega
 have sQ:i+(1+k)<x.length:=by omega
 have bk:=hx.bd (i+(1+k)) dK;have F8:=s.pr _ dK;have dk:((nx x (i+(1+k)):Nat):Int)=at_ x (i+(1+k)):=Int.toNat_of_nonneg bk.1;obtain⟨w7,a7,cw⟩:=du k ah;have bA:=s.cj i (i+(1+k)) (by omega) dK;have e3:IntKind.i64.wrap (((i+1:Nat):Int)+(k:Int))=((i+(1+k):Nat):Int):=by rw[wrap64 (by omega) (by omega)];omega
 rw[show d-k=(d-k-1)+1 by omega]at bH;simp only[Z3,seval,-ae,ah,cw,bB,e3,dK,pisAt sQ];refine zG (λm vs h'=>∃(q:Nat) (y:V1),q<=nx x (i+(1+k))/\m=nx x (i+(1+k))-q/\vs=[.ptr sp 0,.int .i64 i,.fz wx ax O.length (pis x),.sl σ.next 0 O.length (.known O.length),.fz w7 a7 O.length (pis (cvec C i (i+(1+k)))),.fz w5 a5 d rs,.int .i64 d,.int .i64 k,.int .i64 (at_ x (i+(1+k))),.int .i64 q]/\h'=σ.new (pis y)/\TT O (i+1) y/\fo (mu O P C d) (cvec C i) (nx x) (i+(1+k)+1) (d-k-1) (rep (mu O P C d) (cvec C i (i+(1+k))) (nx x (i+(1+k))-q) y)=Grp.img O C (mu O P C d) i x) (nx x (i+(1+k))) ?_ ?_
 .exact⟨0,y,by omega,by omega,rfl,rfl,hy,bH⟩
 rintro m vs h' ⟨q,y,BW,rfl,rfl,rfl,hy,bH⟩
 simp only[Z3,seval,-ae];refine iteI (λaD=>?_) λfO=>?_
 .have bn:q<nx x (i+(1+k)):=by omega
  refine QZ s F (pR.new _) aJ (x:=y) (by simp only[Z3,seval,-ae]) (by simp only[Z3,seval,-ae]) ar (.inr rfl) (by rw[iV];exact hy) (by rw[iV];exact bA) (FI.mk bA.len) ?_;simp only[Z3,seval,-ae,wrapS bn (by omega:nx x (i+(1+k))<=4611686018427387904)];have EO:=M.cl (a:=y) (b:=cvec C i (i+(1+k))) (by rw[iV];exact hy) (by rw[iV];exact bA);rw[iV]at EO;refine⟨_,by omega,q+1,_,by omega,rfl,rfl,rfl,EO,?_⟩;rw[show nx x (i+(1+k))-q=(nx x (i+(1+k))-(q+1))+1 by omega]at bH;exact bH
 .have gR:q=nx x (i+(1+k)):=by omega
  subst gR;rw[Nat.sub_self]at bH;simp only[Z3,seval,-ae,wrapS ah (by omega:d<=4611686018427387904)];refine⟨_,by omega,k+1,y,by omega,rfl,rfl,rfl,hy,?_⟩;rw[show d-(k+1)=d-k-1 by omega];exact bH
end Go.Proofs
namespace Go.Proofs
open Go.Ab Go.Lie Go.Grp
variable{σ:PHeap}{K:PV->PHeap->Prop}{O:V1}{P:V2}{C:V3}{vO vP vC:PV}{s:Nat}{x:V1}{rP rC:List PV}
theorem zJs(s:Shp O P C){d i:Nat}(hi:O.length=d+(i+1))(B:Beh O P C d)(hR:IsPr vO vP vC O P C)
  (hk:∀f0 f1 f2 f3:Int,(f0=0↔Lv O P C i)->K (.agg [.int .i64 f0,.int .i64 f1,.int .i64 f2,.int .i64 f3]) σ):zA Tryz.prog 319 [.agg [vO,vP,vC],.int .i64 i] σ K:=by
 have aN:=s.le;have aJ:=hR;have aH:i<O.length:=by omega
 have eW:AtOK O P C d (i+1):=zAV s (by omega);have M:=B.gp.toMon;rw[show O.length-d=i+1 by omega]at M;have ed:O.length-1-i=d:=by omega
 have yes:((∀q,q<d->pw (mu O P C d) (zv O) (cvec C i (i+(1+q))) (nx O (i+(1+q)))=Grp.img O C (mu O P C d) i (pvec P (i+(1+q))))->
   (∀q r,q+(1+r)<d->mu O P C d (cvec C i (i+(1+(q+(1+r))))) (cvec C i (i+(1+q)))=mu O P C d (cvec C i (i+(1+q))) (Grp.img O C (mu O P C d) i (cvec C (i+(1+q)) (i+(1+(q+(1+r)))))))->
   Grp.img O C (mu O P C d) i (pvec P i)=pvec P i->
   (∀q,q<d->mu O P C d (pvec P i) (iter (Grp.img O C (mu O P C d) i) (nx O i) (unitL O.length (i+(1+q))))=mu O P C d (unitL O.length (i+(1+q))) (pvec P i))->Lv O P C i):=λh1 h2 h3 h4=>by
  refine⟨λj g1 g2=>?_,λj k g1 g2 g3=>?_,?_,λj g1 g2=>?_⟩
  .have:=h1 (j-i-1) (by omega);rw[show i+(1+(j-i-1))=j by omega]at this;rw[ed];exact this
  .have:=h2 (j-i-1) (k-j-1) (by omega);rw[show i+(1+(j-i-1))=j by omega,show i+(1+(j-i-1+(1+(k-j-1))))=k by omega]at this;rw[ed];exact this
  .rw[ed];exact h3
  .have:=h4 (j-i-1) (by omega);rw[show i+(1+(j-i-1))=j by omega]at this;rw[ed];exact this
 obtain⟨⟨w0,a0,rfl⟩,⟨w1,a1,rP,rfl,hP⟩,⟨w3,a3,rC,rfl,hC⟩⟩:=hR;obtain⟨w5,a5,rs,bD,du⟩:=cvRow s hC aH;have cB:i<C.length:=by rw[s.cl];exact aH
 have eA:i<P.length:=by rw[s.pl];exact aH
 refine zA.gh ?_;have fin:∀{f0 f1 f2 f3:Int} {σ':PHeap},(f0=0↔Lv O P C i)->Keep σ σ'->Gh σ K (.agg [.int .i64 f0,.int .i64 f1,.int .i64 f2,.int .i64 f3]) σ':=λh k=>Gh.fin0 k ⟨trivial,trivial,trivial,trivial,trivial⟩ (hk _ _ _ _ h);have no:∀{f0:Int},f0≠0->¬Lv O P C i->(f0=0↔Lv O P C i):=λh g=>⟨λx=>absurd x h,λx=>absurd x g⟩
 refine zN mix Tryz.func319 cf319 rfl ?_;dsimp only[if319,qI,eI,qD,eD,mI0,kI0,lI0,LI0,fI0,xI0,bI0,cI0,nI0,sI0,C2,C3,mD0,lD0,fD0,xD0,I0,vI0,R0,S0];simp only[Z3,seval,-ae];have aq:∀cs:List PV,Keep σ ((σ.new [.fz w0 a0 O.length (pis O),.fz w1 a1 P.length rP,.fz w3 a3 C.length rC]).new cs):=λcs=>(zC σ _).new _;have bB:IntKind.i64.wrap ((i:Int)+1)=((i+1:Nat):Int):=wrapS aH (by omega)
 -- first condition
 simp only[Z3,seval,-ae,bB];refine zG (λm vs h'=>∃q:Nat,q<=d/\m=d-q/\vs=[.int .i64 i,.ptr σ.next 0,.ptr (σ.next+1) 0,.int .i64 O.length,.int .i64 i,.int .i64 ((i+(1+q):Nat):Int)]/\
  h'=(σ.new [.fz w0 a0 O.length (pis O),.fz w1 a1 P.length rP,.fz w3 a3 C.length rC]).new [.int .i64 0,.int .i64 0,.int .i64 0,.int .i64 0]/\∀q',q'<q->pw (mu O P C d) (zv O) (cvec C i (i+(1+q'))) (nx O (i+(1+q')))=Grp.img O C (mu O P C d) i (pvec P (i+(1+q')))) d ?_ ?_
 .exact⟨0,by omega,by omega,rfl,rfl,λq h=>by omega⟩
 rintro m vs h' ⟨q,hq,rfl,rfl,rfl,aj⟩
 simp only[Z3,seval,-ae];refine iteI (λah=>?_) λaG=>?_
 .have dc:i+(1+q)<O.length:=by omega
  have qT:i+(1+q)<P.length:=by rw[s.pl];exact dc
  obtain⟨w6,a6,cw⟩:=du q (by omega);obtain⟨w7,a7,bw⟩:=pvRow s hP dc;have jH:q<O.length-1-i:=by omega
  have bA:=s.cj i (i+(1+q)) (by omega) (by omega);have cQ:=s.pw (i+(1+q)) dc;have hO:=s.pr _ dc;have e3:IntKind.i64.wrap (((i+(1+q):Nat):Int)-(i:Int))=((1+q:Nat):Int):=by rw[wrap64 (by omega) (by omega)];omega
  have e4:IntKind.i64.wrap (((1+q:Nat):Int)-1)=(q:Int):=by rw[wrap64 (by omega) (by omega)];omega
  have e5:IntKind.i64.wrap (((i+(1+q):Nat):Int)+1)=((i+(1+(q+1)):Nat):Int):=by rw[wrap64 (by omega) (by omega)];omega
  simp only[Z3,seval,-ae,bB,cB,bD,e3,e4,jH,cw,dc,pisAt dc];refine zBV s (by omega) eW M aJ bA (FI.mk bA.len) (by omega) λv hv=>?_;simp only[Z3,seval,-ae,bB,cB,bD,e3,e4,jH,cw,dc,pisAt dc,qT,bw];refine Qj s (by omega) eW aJ (cQ.mono (Nat.zero_le _)) (FI.mk cQ.len) λv2 bW=>?_;obtain⟨w8,a8,rfl⟩:=hv;obtain⟨w9,a9,rfl⟩:=bW;simp only[Z3,seval,-ae,qT,bw];refine Qg rfl rfl (by have:=(M.pw bA (at_ O (i+(1+q))).toNat).len;omega) ?_;by_cases he:pw (mu O P C d) (zv O) (cvec C i (i+(1+q))) (nx O (i+(1+q)))=Grp.img O C (mu O P C d) i (pvec P (i+(1+q)))
  .simp only[Z3,seval,-ae,eq_true he,e5];refine⟨_,by omega,q+1,by omega,rfl,rfl,λq' h=>?_⟩;by_cases e:q'=q
   .subst e;exact he
   .exact aj q' (by omega)
  .simp only[Z3,seval,-ae,he];exact fin (no (by decide) λL=>he (by have:=L.pow (i+(1+q)) (by omega) dc;rwa[ed]at this)) (aq _)
 have sJ:q=d:=by omega
 subst sJ
 -- second condition
 simp only[Z3,seval,-ae,bB];refine zG (λm vs h'=>∃q':Nat,q'<=q/\m=q-q'/\vs=[.int .i64 i,.ptr σ.next 0,.ptr (σ.next+1) 0,.int .i64 O.length,.int .i64 i,.int .i64 ((i+(1+q'):Nat):Int)]/\
  h'=(σ.new [.fz w0 a0 O.length (pis O),.fz w1 a1 P.length rP,.fz w3 a3 C.length rC]).new [.int .i64 0,.int .i64 0,.int .i64 0,.int .i64 0]/\
  ∀t r,t<q'->t+(1+r)<q->mu O P C q (cvec C i (i+(1+(t+(1+r))))) (cvec C i (i+(1+t)))=mu O P C q (cvec C i (i+(1+t))) (Grp.img O C (mu O P C q) i (cvec C (i+(1+t)) (i+(1+(t+(1+r))))))) q ?_ ?_
 .exact⟨0,by omega,by omega,rfl,rfl,λt r h=>by omega⟩
 rintro m vs h' ⟨t,ht,rfl,rfl,rfl,aR⟩
 simp only[Z3,seval,-ae];refine iteI (λah=>?_) λaG=>?_
 .have dc:i+(1+t)<O.length:=by omega
  have ov:i+(1+t)<C.length:=by rw[s.cl];exact dc
  obtain⟨w6,a6,cw⟩:=du t (by omega);obtain⟨w7,a7,tq,iD,pT⟩:=cvRow s hC dc;have jH:t<O.length-1-i:=by omega
  have bA:=s.cj i (i+(1+t)) (by omega) (by omega);have e3:IntKind.i64.wrap (((i+(1+t):Nat):Int)-(i:Int))=((1+t:Nat):Int):=by rw[wrap64 (by omega) (by omega)];omega
  have e4:IntKind.i64.wrap (((1+t:Nat):Int)-1)=(t:Int):=by rw[wrap64 (by omega) (by omega)];omega
  have e5:IntKind.i64.wrap (((i+(1+t):Nat):Int)+1)=((i+(1+(t+1)):Nat):Int):=by rw[wrap64 (by omega) (by omega)];omega
  simp only[Z3,seval,-ae,e5];refine zG (λm vs h'=>∃r:Nat,t+(1+r)<=q/\m=q-(t+(1+r))/\vs=[.int .i64 i,.ptr σ.next 0,.ptr (σ.next+1) 0,.int .i64 O.length,.int .i64 i,.int .i64 ((i+(1+t):Nat):Int),.int .i64 ((i+(1+(t+(1+r))):Nat):Int)]/\
   h'=(σ.new [.fz w0 a0 O.length (pis O),.fz w1 a1 P.length rP,.fz w3 a3 C.length rC]).new [.int .i64 0,.int .i64 0,.int .i64 0,.int .i64 0]/\
   ∀r',r'<r->t+(1+r')<q->mu O P C q (cvec C i (i+(1+(t+(1+r'))))) (cvec C i (i+(1+t)))=mu O P C q (cvec C i (i+(1+t))) (Grp.img O C (mu O P C q) i (cvec C (i+(1+t)) (i+(1+(t+(1+r'))))))) (q-(t+1)) ?_ ?_
  .exact⟨0,by omega,by omega,rfl,rfl,λr' h=>by omega⟩
  rintro m vs h' ⟨r,hr,rfl,rfl,rfl,gJ⟩
  simp only[Z3,seval,-ae];refine iteI (λaD=>?_) λfO=>?_
  .have mB:i+(1+(t+(1+r)))<O.length:=by omega
   obtain⟨w8,a8,kD⟩:=du (t+(1+r)) (by omega);obtain⟨w9,a9,iB⟩:=pT r (by omega);rw[show i+(1+t)+(1+r)=i+(1+(t+(1+r))) by omega]at iB;have gG:=s.cj i (i+(1+(t+(1+r)))) (by omega) mB;have lb:=s.cj (i+(1+t)) (i+(1+(t+(1+r)))) (by omega) mB;have np:t+(1+r)<O.length-1-i:=by omega
   have kQ:r<O.length-1-(i+(1+t)):=by omega
   have f3:IntKind.i64.wrap (((i+(1+(t+(1+r))):Nat):Int)-(i:Int))=((1+(t+(1+r)):Nat):Int):=by rw[wrap64 (by omega) (by omega)];omega
   have f4:IntKind.i64.wrap (((1+(t+(1+r)):Nat):Int)-1)=((t+(1+r):Nat):Int):=by rw[wrap64 (by omega) (by omega)];omega
   have f5:IntKind.i64.wrap (((i+(1+(t+(1+r))):Nat):Int)+1)=((i+(1+(t+(1+(r+1)))):Nat):Int):=by rw[wrap64 (by omega) (by omega)];omega
   have f6:IntKind.i64.wrap (((i+(1+(t+(1+r))):Nat):Int)-((i+(1+t):Nat):Int))=((1+r:Nat):Int):=by rw[wrap64 (by omega) (by omega)];omega
   have f7:IntKind.i64.wrap (((1+r:Nat):Int)-1)=(r:Int):=by rw[wrap64 (by omega) (by omega)];omega
   simp only[Z3,seval,-ae,bB,cB,bD,e3,e4,f3,f4,f6,f7,jH,cw,np,kD,ov,iD,kQ,iB];refine Qj s (by omega) eW aJ (lb.mono (Nat.zero_le _)) (FI.mk lb.len) λv hv=>?_;have hz:=Qk s (i:=i) (m:=mu O P C q) (λa b ha hb=>M.cl ha hb) (cvec C (i+(1+t)) (i+(1+(t+(1+r)))));simp only[Z3,seval,-ae,bB,cB,bD,e3,e4,f3,f4,f6,f7,jH,cw,np,kD,ov,iD,kQ,iB];refine eW aJ gG bA (FI.mk gG.len) (FI.mk bA.len) λv2 bW=>?_;simp only[Z3,seval,-ae,bB];refine eW aJ bA hz (FI.mk bA.len) hv λv3 mS=>?_;obtain⟨Gs,sh,rfl⟩:=bW;obtain⟨Gr,Lu,rfl⟩:=mS;simp only[Z3,seval,-ae];refine Qg rfl rfl (by have:=(M.cl gG bA).len;omega) ?_;by_cases he:mu O P C q (cvec C i (i+(1+(t+(1+r))))) (cvec C i (i+(1+t)))=mu O P C q (cvec C i (i+(1+t))) (Grp.img O C (mu O P C q) i (cvec C (i+(1+t)) (i+(1+(t+(1+r))))))
   .simp only[Z3,seval,-ae,eq_true he,f5];refine⟨_,by omega,r+1,by omega,rfl,rfl,λr' h1 h2=>?_⟩;by_cases e:r'=r
    .subst e;exact he
    .exact gJ r' (by omega) h2
   .simp only[Z3,seval,-ae,he];exact fin (no (by decide) λL=>he (by have:=L.cj (i+(1+t)) (i+(1+(t+(1+r)))) (by omega) (by omega) mB;rwa[ed]at this)) (aq _)
  .simp only[Z3,seval,-ae,e5];refine⟨_,by omega,t+1,by omega,rfl,rfl,λt' r' h1 h2=>?_⟩;by_cases e:t'=t
   .subst e;exact gJ r' (by omega) h2
   .exact aR t' r' (by omega) h2
 -- third condition
 obtain⟨w6,a6,bw⟩:=pvRow s hP aH;have cQ:=s.pw i aH;simp only[Z3,seval,-ae,eA,bw];refine Qj s (by omega) eW aJ (cQ.mono (Nat.zero_le _)) (FI.mk cQ.len) λv hv=>?_;obtain⟨w7,a7,rfl⟩:=hv;simp only[Z3,seval,-ae];refine Qg rfl cQ.len.symm (by have:=(Qk s (i:=i) (m:=mu O P C q) (λa b ha hb=>M.cl ha hb) (pvec P i)).len;omega) ?_;by_cases nu:Grp.img O C (mu O P C q) i (pvec P i)=pvec P i;rotate_left
 .simp only[Z3,seval,-ae,nu];exact fin (no (by decide) λL=>nu (by have:=L.fix;rwa[ed]at this)) (aq _)
 simp only[Z3,seval,-ae,eq_true nu,bB]
 -- r9 condition
 refine zG (λm vs h'=>∃q':Nat,q'<=q/\m=q-q'/\vs=[.int .i64 i,.ptr σ.next 0,.ptr (σ.next+1) 0,.int .i64 O.length,.int .i64 i,.fz w6 a6 O.length (pis (pvec P i)),.int .i64 ((i+(1+q'):Nat):Int)]/\
  h'=(σ.new [.fz w0 a0 O.length (pis O),.fz w1 a1 P.length rP,.fz w3 a3 C.length rC]).new [.int .i64 0,.int .i64 0,.int .i64 0,.int .i64 0]/\
  ∀t,t<q'->mu O P C q (pvec P i) (iter (Grp.img O C (mu O P C q) i) (nx O i) (unitL O.length (i+(1+t))))=mu O P C q (unitL O.length (i+(1+t))) (pvec P i)) q ?_ ?_
 .exact⟨0,by omega,by omega,rfl,rfl,λt h=>by omega⟩
 rintro m vs h' ⟨t,ht,rfl,rfl,rfl,gI⟩
 simp only[Z3,seval,-ae];refine iteI (λah=>?_) λaG=>?_;rotate_left
 .exact fin ⟨λ_=>yes aj (λt' r' h=>aR t' r' (by omega) h) nu (λt' h=>gI t' (by omega)),λ_=>rfl⟩ (aq _)
 have dc:i+(1+t)<O.length:=by omega
 have hO:=s.pr i aH;have e5:IntKind.i64.wrap (((i+(1+t):Nat):Int)+1)=((i+(1+(t+1)):Nat):Int):=by rw[wrap64 (by omega) (by omega)];omega
 have yf:TT O (i+1) (unitL O.length (i+(1+t))):=s.unit dc (by omega);simp only[Z3,seval,-ae];refine zLg (by omega) dc λv hv=>?_;simp only[Z3,seval,-ae];refine zG (λm vs h'=>∃(k:Nat) (v2:PV) (A:V1),k<=nx O i/\m=nx O i-k/\vs=[.int .i64 i,.ptr σ.next 0,.ptr (σ.next+1) 0,.int .i64 O.length,.int .i64 i,.fz w6 a6 O.length (pis (pvec P i)),.int .i64 ((i+(1+t):Nat):Int),v,v2,.int .i64 k]/\
  h'=(σ.new [.fz w0 a0 O.length (pis O),.fz w1 a1 P.length rP,.fz w3 a3 C.length rC]).new [.int .i64 0,.int .i64 0,.int .i64 0,.int .i64 0]/\FI v2 A/\TT O (i+1) A/\iter (Grp.img O C (mu O P C q) i) (nx O i-k) A=iter (Grp.img O C (mu O P C q) i) (nx O i) (unitL O.length (i+(1+t)))) (nx O i) ?_ ?_
 .exact⟨0,v,_,by omega,by omega,rfl,rfl,hv,yf,rfl⟩
 rintro m vs h' ⟨k,v2,A,bF,rfl,rfl,rfl,bW,hA,be⟩
 have dk:((nx O i:Nat):Int)=at_ O i:=Int.toNat_of_nonneg (by omega);simp only[Z3,seval,-ae,pisAt aH,aH];refine iteI (λaD=>?_) λfO=>?_
 .have bn:k<nx O i:=by omega
  refine Qj s (by omega) eW aJ (hA.mono (Nat.zero_le _)) bW λv3 mS=>?_;simp only[Z3,seval,-ae,wrapS bn (by omega:nx O i<=4611686018427387904)];refine⟨_,by omega,k+1,v3,_,by omega,rfl,rfl,mS,Qk s (λa b ha hb=>M.cl ha hb) _,?_⟩;rw[show nx O i-k=(nx O i-(k+1))+1 by omega]at be;exact be
 have dJ:k=nx O i:=by omega
 subst dJ;rw[Nat.sub_self]at be;have wV:A=iter (Grp.img O C (mu O P C q) i) (nx O i) (unitL O.length (i+(1+t))):=be;subst wV;simp only[Z3,seval,-ae,bB];refine eW aJ cQ hA (FI.mk cQ.len) bW λv3 mS=>?_;simp only[Z3,seval,-ae,bB];refine eW aJ yf cQ hv (FI.mk cQ.len) λv4 pL=>?_;obtain⟨w8,a8,rfl⟩:=mS;obtain⟨w9,a9,rfl⟩:=pL;simp only[Z3,seval,-ae];refine Qg rfl rfl (by have:=(M.cl cQ hA).len;omega) ?_;by_cases he:mu O P C q (pvec P i) (iter (Grp.img O C (mu O P C q) i) (nx O i) (unitL O.length (i+(1+t))))=mu O P C q (unitL O.length (i+(1+t))) (pvec P i)
 .simp only[Z3,seval,-ae,eq_true he,e5];refine⟨_,by omega,t+1,by omega,rfl,rfl,λt' h=>?_⟩;by_cases e:t'=t
  .subst e;exact he
  .exact gI t' (by omega)
 .simp only[Z3,seval,-ae,he];exact fin (no (by decide) λL=>he (by have:=L.inn (i+(1+t)) (by omega) dc;rwa[ed]at this)) (aq _)
end Go.Proofs
namespace Go.Proofs
open Go.Ab Go.Lie Go.Grp
variable{σ:PHeap}{K:PV->PHeap->Prop}{O:V1}{P:V2}{C:V3}{vO vP vC:PV}{s:Nat}{x:V1}{rP rC:List PV}
theorem zJu(s:Shp O P C)(hR:IsPr vO vP vC O P C)
  (hk:∀f0 f1 f2 f3:Int,(f0=0↔Cons O P C)->K (.agg [.int .i64 f0,.int .i64 f1,.int .i64 f2,.int .i64 f3]) σ):zA Tryz.prog 289 [.agg [vO,vP,vC]] σ K:=by
 have aN:=s.le;have aJ:=hR;obtain⟨⟨w0,a0,rfl⟩,⟨w1,a1,rP,rfl,hP⟩,⟨w3,a3,rC,rfl,hC⟩⟩:=hR;refine zA.gh ?_;have fin:∀{f0 f1 f2 f3:Int} {σ':PHeap},(f0=0↔Cons O P C)->Keep σ σ'->Gh σ K (.agg [.int .i64 f0,.int .i64 f1,.int .i64 f2,.int .i64 f3]) σ':=λh k=>Gh.fin0 k ⟨trivial,trivial,trivial,trivial,trivial⟩ (hk _ _ _ _ h);have um:IntKind.i64.wrap ((O.length:Int)-1)=(O.length:Int)-1:=wrap64 (by omega) (by omega);refine zD mix Tryz.func289 ?_
 conv=>arg 2;cbv
 refine zF rfl ?_;simp only[Z3,seval,-ae,um];refine zG (λm vs h'=>∃k:Nat,k<=O.length/\m=k/\vs=[.ptr σ.next 0,.ptr (σ.next+1) 0,.int .i64 ((k:Int)-1)]/\Keep ((σ.new [.fz w0 a0 O.length (pis O),.fz w1 a1 P.length rP,.fz w3 a3 C.length rC]).new [.int .i64 0,.int .i64 0,.int .i64 0,.int .i64 0]) h'/\∀j,k<=j->j<O.length->Lv O P C j) O.length ?_ ?_
 .exact⟨O.length,vM _,rfl,rfl,Keep.refl _,λj h1 h2=>by omega⟩
 rintro m vs h' ⟨k,mB,rfl,rfl,fe,aj⟩
 have aq:Keep σ h':=((zC σ _).new _).trans fe;have dX:σ.next+2<=h'.next:=fe.next;have uW:h'.obj σ.next=some [.fz w0 a0 O.length (pis O),.fz w1 a1 P.length rP,.fz w3 a3 C.length rC]:=by rw[fe.obj _ (by simp[PHeap.new];omega)];simp[PHeap.new]
 have kH:h'.obj (σ.next+1)=some [.int .i64 0,.int .i64 0,.int .i64 0,.int .i64 0]:=by rw[fe.obj _ (by simp[PHeap.new])];simp[PHeap.new]
 have dG:h'.rd σ.next 0 3=some [.fz w0 a0 O.length (pis O),.fz w1 a1 P.length rP,.fz w3 a3 C.length rC]:=by simp[PHeap.rd,uW]
 have jc:∀f0 f1 f2 f3:Int,h'.wr (σ.next+1) 0 [.int .i64 f0,.int .i64 f1,.int .i64 f2,.int .i64 f3]=some (h'.set (σ.next+1) [.int .i64 f0,.int .i64 f1,.int .i64 f2,.int .i64 f3]):=λf0 f1 f2 f3=>by
  have:∀cs:List PV,cs.length=4->cs.all PV.one=true->h'.wr (σ.next+1) 0 cs=some (h'.set (σ.next+1) cs):=λcs hl ho=>by
   simp only[PHeap.wr,kH,Option.bind_some,ho,hl];simp[PHeap.set,List.drop_eq_nil_of_le,hl]
  exact this _ rfl rfl
 have ni:¬σ.next=h'.next:=by omega
 have jE:¬σ.next+1=h'.next:=by omega
 rcases Nat.eq_zero_or_pos m with rfl|oi
 .simp only[Z3,seval,-ae,show ¬((0:Int)<=((0:Nat):Int)-1) by omega,jc];exact fin ⟨λ_ j hj=>aj j (Nat.zero_le _) hj,λ_=>rfl⟩ (aq.set (by omega) _)
 obtain⟨i,rfl⟩:∃i,m=i+1:=⟨m-1,by omega⟩
 have e:((i+1:Nat):Int)-1=(i:Int):=by omega
 rw[e];have aH:i<O.length:=mB;have gP:IntKind.i64.wrap ((i:Int)-1)=(i:Int)-1:=wrap64 (by omega) (by omega);have B:Beh O P C (O.length-(i+1)):=zNl s (by omega) λj h1 h2=>aj j (by omega) h2;simp only[Z3,seval,-ae,dG];refine zJs s (d:=O.length-(i+1)) (by omega) B aJ λf0 f1 f2 f3 hf=>?_;simp only[Z3,seval,-ae];refine iteI (λh0=>?_) λh0=>?_
 .simp only[Z3,seval,-ae,gP];refine⟨i,by omega,i,by omega,rfl,rfl,fe.new _,λj h1 h2=>?_⟩;by_cases e:j=i
  .subst e;exact hf.1 h0
  .exact aj j (by omega) h2
 .simp only[Z3,seval,-ae,ni,jE,jc];exact fin ⟨λh=>absurd h h0,λh=>absurd (hf.2 (h i aH)) h0⟩ ((aq.set (by omega) _).new _)
theorem zEg(s:Shp O P C)(hR:IsPr vO vP vC O P C)(hk:∀t:Bool,(t=true↔Cons O P C)->K (.bool t) σ):zA Tryz.prog 217 [.agg [vO,vP,vC]] σ K:=by
 have h0:=hR.O.one;have h1:=hR.P.one;have h2:=hR.C.one;refine zA.gh ?_;refine zD mix Tryz.func217 ?_
 conv=>arg 2;cbv
 refine zF rfl ?_;simp only[Z3,seval,-ae,h0,h1,h2];refine zJu s hR λf0 f1 f2 f3 hf=>?_;simp only[Z3,seval,-ae];exact Gh.fin0 (zC σ _) trivial (hk _ (by rw[decide_eq_true_iff];exact hf))
theorem zJt(hR:IsPr vO vP vC O P C)(sz:SzP O P C)(hk:∀t:Bool,(t=true↔qx O P C/\Cons O P C)->K (.bool t) σ):zA Tryz.prog 128 [.agg [vO,vP,vC]] σ K:=by
 have h0:=hR.O.one;have h1:=hR.P.one;have h2:=hR.C.one;have fl:∀{A:Prop},¬A->((false=true)↔A):=λh=>⟨λx=>(by cases x),λx=>absurd x h⟩
 refine zA.gh ?_;refine zD mix Tryz.func128 ?_
 conv=>arg 2;cbv
 refine zF rfl ?_;simp only[Z3,seval,-ae,h0,h1,h2];refine zCf hR sz λt ht=>?_;cases t with
 |false=>
  simp only[Z3,seval,-ae];exact Gh.fin0 (zC σ _) trivial (hk _ (fl λh=>by cases ht.2 h.1))
 |true=>
  have hp:=ht.1 rfl;simp only[Z3,seval,-ae,h0,h1,h2];refine zEg hp.shp hR λt ht=>?_;simp only[Z3,seval,-ae];exact Gh.fin0 (zC σ _) trivial (hk _ ⟨λh=>⟨hp,ht.1 h⟩,λh=>ht.2 h.2⟩)
end Go.Proofs
namespace Go.Proofs
open Go.Ab Go.Lie Go.Grp
variable{σ:PHeap}{K:PV->PHeap->Prop}{O:V1}{P:V2}{C:V3}{vO vP vC:PV}{x a b:V1}{rP rC:List PV}{d j sp:Nat}
theorem zHA(s:Shp O P C)(F:Full O P C d){i:Nat}(hi:O.length=d+(i+1))(hs:PtrG σ sp vO vP vC)(hR:IsPr vO vP vC O P C)
  (hk:∀f0 f1 f2 f3:Int,((f0=0/\f1=0/\f2=0/\f3=0/\Lv O P C i)\/(f0≠0/\¬Lv O P C i))->K (.agg [.int .i64 f0,.int .i64 f1,.int .i64 f2,.int .i64 f3]) σ):zA Tryz.prog 213 [.ptr sp 0,.int .i64 i] σ K:=by
 have aN:=s.le;have aJ:=hR;have aH:i<O.length:=by omega
 have M:=F.gp.toMon;have G:=F.gp;have iV:O.length-d=i+1:=by omega
 have ed:O.length-1-i=d:=by omega
 have ar:¬sp=σ.next:=Nat.ne_of_lt hs.lt;have dF:∀cs,PtrG (σ.new cs) sp vO vP vC:=λcs=>hs.new cs;have yes:((∀q,q<d->pw (mu O P C d) (zv O) (cvec C i (i+(1+q))) (nx O (i+(1+q)))=Grp.img O C (mu O P C d) i (pvec P (i+(1+q))))->
   (∀q r,q+(1+r)<d->mu O P C d (cvec C i (i+(1+(q+(1+r))))) (cvec C i (i+(1+q)))=mu O P C d (cvec C i (i+(1+q))) (Grp.img O C (mu O P C d) i (cvec C (i+(1+q)) (i+(1+(q+(1+r)))))))->
   Grp.img O C (mu O P C d) i (pvec P i)=pvec P i->
   (∀q,q<d->mu O P C d (pvec P i) (iter (Grp.img O C (mu O P C d) i) (nx O i) (unitL O.length (i+(1+q))))=mu O P C d (unitL O.length (i+(1+q))) (pvec P i))->Lv O P C i):=λh1 h2 h3 h4=>by
  refine⟨λj g1 g2=>?_,λj k g1 g2 g3=>?_,?_,λj g1 g2=>?_⟩
  .have:=h1 (j-i-1) (by omega);rw[show i+(1+(j-i-1))=j by omega]at this;rw[ed];exact this
  .have:=h2 (j-i-1) (k-j-1) (by omega);rw[show i+(1+(j-i-1))=j by omega,show i+(1+(j-i-1+(1+(k-j-1))))=k by omega]at this;rw[ed];exact this
  .rw[ed];exact h3
  .have:=h4 (j-i-1) (by omega);rw[show i+(1+(j-i-1))=j by omega]at this;rw[ed];exact this
 have pD:∀x,TT O (O.length-d) (Grp.img O C (mu O P C d) i x):=λx=>by
  rw[iV];exact Qk s (λa b ha hb=>by have:=M.cl (a:=a) (b:=b) (by rw[iV];exact ha) (by rw[iV];exact hb);rwa[iV]at this) x
 obtain⟨⟨w0,a0,rfl⟩,⟨w1,a1,rP,rfl,hP⟩,⟨w3,a3,rC,rfl,hC⟩⟩:=hR;obtain⟨w5,a5,rs,bD,du⟩:=cvRow s hC aH;have cB:i<C.length:=by rw[s.cl];exact aH
 have eA:i<P.length:=by rw[s.pl];exact aH
 have e0:σ.rd1 sp 0=some (.fz w0 a0 O.length (pis O)):=by rw[zI hs.obj];rfl
 have e1:σ.rd1 sp 1=some (.fz w1 a1 P.length rP):=by rw[zI hs.obj];rfl
 have e2:σ.rd1 sp 2=some (.fz w3 a3 C.length rC):=by rw[zI hs.obj];rfl
 refine zA.gh ?_;have fin:∀{f0 f1 f2 f3:Int} {σ':PHeap},((f0=0/\f1=0/\f2=0/\f3=0/\Lv O P C i)\/(f0≠0/\¬Lv O P C i))->Keep σ σ'->Gh σ K (.agg [.int .i64 f0,.int .i64 f1,.int .i64 f2,.int .i64 f3]) σ':=λh k=>Gh.fin0 k ⟨trivial,trivial,trivial,trivial,trivial⟩ (hk _ _ _ _ h);have no:∀{f0 f1 f2 f3:Int},f0≠0->¬Lv O P C i->((f0=0/\f1=0/\f2=0/\f3=0/\Lv O P C i)\/(f0≠0/\¬Lv O P C i)):=λh g=>.inr ⟨h,g⟩;have aq:∀cs:List PV,Keep σ (σ.new cs):=λcs=>zC σ _;have bB:IntKind.i64.wrap ((i:Int)+1)=((i+1:Nat):Int):=wrapS aH (by omega);refine zN mix Tryz.func213 cf213 rfl ?_;dsimp only[if213,qI,eI,qD,eD,mI0,kI0,lI0,fI0,xI0,bI0,cI0,nI0,sI0,pI0,C2,C3,mD0,lD0,fD0,xD0,pD0,I0,vI0,R0,S0];simp only[Z3,seval,-ae,e0,ar]
 -- first condition
 simp only[Z3,seval,-ae,bB];refine zG (λm vs h'=>∃q:Nat,q<=d/\m=d-q/\vs=[.ptr sp 0,.int .i64 i,.ptr σ.next 0,.int .i64 O.length,.int .i64 i,.int .i64 ((i+(1+q):Nat):Int)]/\
  h'=σ.new [.int .i64 0,.int .i64 0,.int .i64 0,.int .i64 0]/\∀q',q'<q->pw (mu O P C d) (zv O) (cvec C i (i+(1+q'))) (nx O (i+(1+q')))=Grp.img O C (mu O P C d) i (pvec P (i+(1+q')))) d ?_ ?_
 .exact⟨0,by omega,by omega,rfl,rfl,λq h=>by omega⟩
 rintro m vs h' ⟨q,hq,rfl,rfl,rfl,aj⟩
 simp only[Z3,seval,-ae];refine iteI (λah=>?_) λaG=>?_
 .have dc:i+(1+q)<O.length:=by omega
  have qT:i+(1+q)<P.length:=by rw[s.pl];exact dc
  obtain⟨w6,a6,cw⟩:=du q (by omega);obtain⟨w7,a7,bw⟩:=pvRow s hP dc;have jH:q<O.length-1-i:=by omega
  have bA:=s.cj i (i+(1+q)) (by omega) (by omega);have lh:TT O (O.length-d) (cvec C i (i+(1+q))):=by rw[iV];exact bA
  have cQ:=s.pw (i+(1+q)) dc;have hO:=s.pr _ dc;have e3:IntKind.i64.wrap (((i+(1+q):Nat):Int)-(i:Int))=((1+q:Nat):Int):=by rw[wrap64 (by omega) (by omega)];omega
  have e4:IntKind.i64.wrap (((1+q:Nat):Int)-1)=(q:Int):=by rw[wrap64 (by omega) (by omega)];omega
  have e5:IntKind.i64.wrap (((i+(1+q):Nat):Int)+1)=((i+(1+(q+1)):Nat):Int):=by rw[wrap64 (by omega) (by omega)];omega
  simp only[Z3,seval,-ae,e0,e1,e2,ar,bB,cB,bD,e3,e4,jH,cw,dc,pisAt dc,qT,bw];refine zEY s F (dF _) aJ lh (FI.mk bA.len) (by omega) λv hv=>?_;simp only[Z3,seval,-ae,e0,e1,e2,ar,bB,cB,bD,e3,e4,jH,cw,dc,pisAt dc,qT,bw];refine zA5 s F hi (dF _) aJ (cQ.mono (Nat.zero_le _)) (FI.mk cQ.len) λv2 bW=>?_;obtain⟨w8,a8,rfl⟩:=hv;obtain⟨w9,a9,rfl⟩:=bW;simp only[Z3,seval,-ae];refine zAZ rfl rfl (by have:=(M.pw lh (at_ O (i+(1+q))).toNat).len;omega) ?_;by_cases he:pw (mu O P C d) (zv O) (cvec C i (i+(1+q))) (nx O (i+(1+q)))=Grp.img O C (mu O P C d) i (pvec P (i+(1+q)))
  .simp only[Z3,seval,-ae,eq_true he,e5];refine⟨_,by omega,q+1,by omega,rfl,rfl,λq' h=>?_⟩;by_cases e:q'=q
   .subst e;exact he
   .exact aj q' (by omega)
  .simp only[Z3,seval,-ae,he];exact fin (no (by decide) λL=>he (by have:=L.pow (i+(1+q)) (by omega) dc;rwa[ed]at this)) (aq _)
 have sJ:q=d:=by omega
 subst sJ
 -- second condition
 simp only[Z3,seval,-ae,bB];refine zG (λm vs h'=>∃q':Nat,q'<=q/\m=q-q'/\vs=[.ptr sp 0,.int .i64 i,.ptr σ.next 0,.int .i64 O.length,.int .i64 i,.int .i64 ((i+(1+q'):Nat):Int)]/\
  h'=σ.new [.int .i64 0,.int .i64 0,.int .i64 0,.int .i64 0]/\
  ∀t r,t<q'->t+(1+r)<q->mu O P C q (cvec C i (i+(1+(t+(1+r))))) (cvec C i (i+(1+t)))=mu O P C q (cvec C i (i+(1+t))) (Grp.img O C (mu O P C q) i (cvec C (i+(1+t)) (i+(1+(t+(1+r))))))) q ?_ ?_
 .exact⟨0,by omega,by omega,rfl,rfl,λt r h=>by omega⟩
 rintro m vs h' ⟨t,ht,rfl,rfl,rfl,aR⟩
 simp only[Z3,seval,-ae];refine iteI (λah=>?_) λaG=>?_
 .have dc:i+(1+t)<O.length:=by omega
  have ov:i+(1+t)<C.length:=by rw[s.cl];exact dc
  obtain⟨w6,a6,cw⟩:=du t (by omega);obtain⟨w7,a7,tq,iD,pT⟩:=cvRow s hC dc;have jH:t<O.length-1-i:=by omega
  have bA:=s.cj i (i+(1+t)) (by omega) (by omega);have lh:TT O (O.length-q) (cvec C i (i+(1+t))):=by rw[iV];exact bA
  have e3:IntKind.i64.wrap (((i+(1+t):Nat):Int)-(i:Int))=((1+t:Nat):Int):=by rw[wrap64 (by omega) (by omega)];omega
  have e4:IntKind.i64.wrap (((1+t:Nat):Int)-1)=(t:Int):=by rw[wrap64 (by omega) (by omega)];omega
  have e5:IntKind.i64.wrap (((i+(1+t):Nat):Int)+1)=((i+(1+(t+1)):Nat):Int):=by rw[wrap64 (by omega) (by omega)];omega
  simp only[Z3,seval,-ae,e5];refine zG (λm vs h'=>∃r:Nat,t+(1+r)<=q/\m=q-(t+(1+r))/\vs=[.ptr sp 0,.int .i64 i,.ptr σ.next 0,.int .i64 O.length,.int .i64 i,.int .i64 ((i+(1+t):Nat):Int),.int .i64 ((i+(1+(t+(1+r))):Nat):Int)]/\
   h'=σ.new [.int .i64 0,.int .i64 0,.int .i64 0,.int .i64 0]/\
   ∀r',r'<r->t+(1+r')<q->mu O P C q (cvec C i (i+(1+(t+(1+r'))))) (cvec C i (i+(1+t)))=mu O P C q (cvec C i (i+(1+t))) (Grp.img O C (mu O P C q) i (cvec C (i+(1+t)) (i+(1+(t+(1+r'))))))) (q-(t+1)) ?_ ?_
  .exact⟨0,by omega,by omega,rfl,rfl,λr' h=>by omega⟩
  rintro m vs h' ⟨r,hr,rfl,rfl,rfl,gJ⟩
  simp only[Z3,seval,-ae];refine iteI (λaD=>?_) λfO=>?_
  .have mB:i+(1+(t+(1+r)))<O.length:=by omega
   obtain⟨w8,a8,kD⟩:=du (t+(1+r)) (by omega);obtain⟨w9,a9,iB⟩:=pT r (by omega);rw[show i+(1+t)+(1+r)=i+(1+(t+(1+r))) by omega]at iB;have gG:=s.cj i (i+(1+(t+(1+r)))) (by omega) mB;have we:TT O (O.length-q) (cvec C i (i+(1+(t+(1+r))))):=by rw[iV];exact gG
   have lb:=s.cj (i+(1+t)) (i+(1+(t+(1+r)))) (by omega) mB;have np:t+(1+r)<O.length-1-i:=by omega
   have kQ:r<O.length-1-(i+(1+t)):=by omega
   have f3:IntKind.i64.wrap (((i+(1+(t+(1+r))):Nat):Int)-(i:Int))=((1+(t+(1+r)):Nat):Int):=by rw[wrap64 (by omega) (by omega)];omega
   have f4:IntKind.i64.wrap (((1+(t+(1+r)):Nat):Int)-1)=((t+(1+r):Nat):Int):=by rw[wrap64 (by omega) (by omega)];omega
   have f5:IntKind.i64.wrap (((i+(1+(t+(1+r))):Nat):Int)+1)=((i+(1+(t+(1+(r+1)))):Nat):Int):=by rw[wrap64 (by omega) (by omega)];omega
   have f6:IntKind.i64.wrap (((i+(1+(t+(1+r))):Nat):Int)-((i+(1+t):Nat):Int))=((1+r:Nat):Int):=by rw[wrap64 (by omega) (by omega)];omega
   have f7:IntKind.i64.wrap (((1+r:Nat):Int)-1)=(r:Int):=by rw[wrap64 (by omega) (by omega)];omega
   simp only[Z3,seval,-ae,e0,e1,e2,ar,bB,cB,bD,e3,e4,f3,f4,f6,f7,jH,cw,np,kD,ov,iD,kQ,iB];refine zAH s F (dF _) aJ we lh (FI.mk gG.len) (FI.mk bA.len) λv z cE cf hv=>?_;simp only[Z3,seval,-ae,e0,e1,e2,ar,bB,cB,bD,e3,e4,f3,f4,f6,f7,jH,cw,np,kD,ov,iD,kQ,iB];refine zA5 s F hi (dF _) aJ (lb.mono (Nat.zero_le _)) (FI.mk lb.len) λv2 bW=>?_;have hz:=pD (cvec C (i+(1+t)) (i+(1+(t+(1+r)))));obtain⟨Gs,sh,rfl⟩:=hv;obtain⟨Gr,Lu,rfl⟩:=bW;simp only[Z3,seval,-ae];refine zAZ rfl rfl (by have:=cE.len;omega) ?_;by_cases he:z=Grp.img O C (mu O P C q) i (cvec C (i+(1+t)) (i+(1+(t+(1+r)))))
   .simp only[Z3,seval,-ae,eq_true he,f5];refine⟨_,by omega,r+1,by omega,rfl,rfl,λr' h1 h2=>?_⟩;by_cases e:r'=r
    .subst e;rw[<-he];exact cf.symm
    .exact gJ r' (by omega) h2
   .simp only[Z3,seval,-ae,he];exact fin (no (by decide) λL=>he (by
     have:=L.cj (i+(1+t)) (i+(1+(t+(1+r)))) (by omega) (by omega) mB
     rw[ed]at this;exact G.cancel lh cE hz (cf.trans this))) (aq _)
  .simp only[Z3,seval,-ae,e5];refine⟨_,by omega,t+1,by omega,rfl,rfl,λt' r' h1 h2=>?_⟩;by_cases e:t'=t
   .subst e;exact gJ r' (by omega) h2
   .exact aR t' r' (by omega) h2
 -- third condition
 obtain⟨w6,a6,bw⟩:=pvRow s hP aH;have cQ:=s.pw i aH;have uS:TT O (O.length-q) (pvec P i):=by rw[iV];exact cQ
 simp only[Z3,seval,-ae,e1,ar,eA,bw];refine zA5 s F hi (dF _) aJ (cQ.mono (Nat.zero_le _)) (FI.mk cQ.len) λv hv=>?_;obtain⟨w7,a7,rfl⟩:=hv;simp only[Z3,seval,-ae];refine zAZ rfl cQ.len.symm (by have:=(pD (pvec P i)).len;omega) ?_;by_cases nu:Grp.img O C (mu O P C q) i (pvec P i)=pvec P i;rotate_left
 .simp only[Z3,seval,-ae,nu];exact fin (no (by decide) λL=>nu (by have:=L.fix;rwa[ed]at this)) (aq _)
 simp only[Z3,seval,-ae,eq_true nu,bB]
 -- r9 condition
 refine zG (λm vs h'=>∃q':Nat,q'<=q/\m=q-q'/\vs=[.ptr sp 0,.int .i64 i,.ptr σ.next 0,.int .i64 O.length,.int .i64 i,.fz w6 a6 O.length (pis (pvec P i)),.int .i64 ((i+(1+q'):Nat):Int)]/\
  h'=σ.new [.int .i64 0,.int .i64 0,.int .i64 0,.int .i64 0]/\
  ∀t,t<q'->mu O P C q (pvec P i) (iter (Grp.img O C (mu O P C q) i) (nx O i) (unitL O.length (i+(1+t))))=mu O P C q (unitL O.length (i+(1+t))) (pvec P i)) q ?_ ?_
 .exact⟨0,by omega,by omega,rfl,rfl,λt h=>by omega⟩
 rintro m vs h' ⟨t,ht,rfl,rfl,rfl,gI⟩
 simp only[Z3,seval,-ae];refine iteI (λah=>?_) λaG=>?_;rotate_left
 .exact fin (.inl ⟨rfl,rfl,rfl,rfl,yes aj (λt' r' h=>aR t' r' (by omega) h) nu (λt' h=>gI t' (by omega))⟩) (aq _)
 have dc:i+(1+t)<O.length:=by omega
 have hO:=s.pr i aH;have e5:IntKind.i64.wrap (((i+(1+t):Nat):Int)+1)=((i+(1+(t+1)):Nat):Int):=by rw[wrap64 (by omega) (by omega)];omega
 have yf:TT O (i+1) (unitL O.length (i+(1+t))):=s.unit dc (by omega);have uC:TT O (O.length-q) (unitL O.length (i+(1+t))):=by rw[iV];exact yf
 simp only[Z3,seval,-ae];refine qB (by omega) dc λav=>?_;simp only[Z3,seval,-ae,e0,ar,aH,pisAt aH];refine zG (λm vs h'=>∃(k:Nat) (v2:PV) (A:V1),k<=nx O i/\m=nx O i-k/\vs=[.ptr sp 0,.int .i64 i,.ptr σ.next 0,.int .i64 O.length,.int .i64 i,.fz w6 a6 O.length (pis (pvec P i)),.int .i64 ((i+(1+t):Nat):Int),v2,.int .i64 (at_ O i),.int .i64 k]/\
  h'=σ.new [.int .i64 0,.int .i64 0,.int .i64 0,.int .i64 0]/\FI v2 A/\TT O (O.length-q) A/\iter (Grp.img O C (mu O P C q) i) (nx O i-k) A=iter (Grp.img O C (mu O P C q) i) (nx O i) (unitL O.length (i+(1+t)))) (nx O i) ?_ ?_
 .exact⟨0,.fz true av O.length (pis (unitL O.length (i+(1+t)))),_,by omega,by omega,rfl,rfl,FI.mk (qH _ _),uC,rfl⟩
 rintro m vs h' ⟨k,v2,A,bF,rfl,rfl,rfl,bW,hA,be⟩
 have dk:((nx O i:Nat):Int)=at_ O i:=Int.toNat_of_nonneg (by omega);simp only[Z3,seval,-ae];refine iteI (λaD=>?_) λfO=>?_
 .have bn:k<nx O i:=by omega
  refine zA5 s F hi (dF _) aJ (hA.mono (Nat.zero_le _)) bW λv3 mS=>?_;simp only[Z3,seval,-ae,wrapS bn (by omega:nx O i<=4611686018427387904)];refine⟨_,by omega,k+1,v3,_,by omega,rfl,rfl,mS,pD _,?_⟩;rw[show nx O i-k=(nx O i-(k+1))+1 by omega]at be;exact be
 have dJ:k=nx O i:=by omega
 subst dJ;rw[Nat.sub_self]at be;have wV:A=iter (Grp.img O C (mu O P C q) i) (nx O i) (unitL O.length (i+(1+t))):=be;subst wV;simp only[Z3,seval,-ae];refine qB (by omega) dc λNh=>?_;simp only[Z3,seval,-ae];refine zAH s F (dF _) aJ uC uS (FI.mk (qH _ _)) (FI.mk cQ.len) λv z cE cf hv=>?_;obtain⟨w8,a8,rfl⟩:=bW;obtain⟨w9,a9,rfl⟩:=hv;simp only[Z3,seval,-ae];refine zAZ rfl rfl (by have:=hA.len;omega) ?_;by_cases he:iter (Grp.img O C (mu O P C q) i) (nx O i) (unitL O.length (i+(1+t)))=z
 .simp only[Z3,seval,-ae,eq_true he,e5];refine⟨_,by omega,t+1,by omega,rfl,rfl,λt' h=>?_⟩;by_cases e:t'=t
  .subst e;rw[he];exact cf
  .exact gI t' (by omega)
 .simp only[Z3,seval,-ae,he];exact fin (no (by decide) λL=>he (by
   have:=L.inn (i+(1+t)) (by omega) dc
   rw[ed]at this;exact G.cancel uS hA cE (this.trans cf.symm))) (aq _)
end Go.Proofs
namespace Go.Proofs
open Go.Ab Go.Lie Go.Grp
variable{σ:PHeap}{K:PV->PHeap->Prop}{O:V1}{P:V2}{C:V3}{vO vP vC:PV}{x:V1}{rP rC:List PV}{j sp:Nat}
theorem zD4(s:Shp O P C)(hs:PtrG σ sp vO vP vC)(hR:IsPr vO vP vC O P C)(hk:∀r:Int,(r=0↔Cons O P C)->K (.int .i64 r) σ):zA Tryz.prog 124 [.ptr sp 0] σ K:=by
 have aN:=s.le;have aJ:=hR;have pR:=hs;obtain⟨⟨w0,a0,rfl⟩,⟨w1,a1,rP,rfl,hP⟩,⟨w3,a3,rC,rfl,hC⟩⟩:=hR;have e0:σ.rd1 sp 0=some (.fz w0 a0 O.length (pis O)):=by rw[zI hs.obj];rfl
 refine zD mix Tryz.func124 ?_
 conv=>arg 2;cbv
 refine zF rfl ?_;simp only[Z3,seval,-ae,e0];refine zG (λm vs h'=>∃k:Nat,k<=O.length/\m=k/\vs=[.ptr sp 0,.int .i64 k]/\σ=h'/\∀j,k<=j->j<O.length->Lv O P C j) O.length ?_ ?_
 .exact⟨O.length,vM _,rfl,rfl,rfl,λj h1 h2=>by omega⟩
 rintro m vs h' ⟨k,mB,rfl,rfl,rfl,aj⟩
 rcases Nat.eq_zero_or_pos m with rfl|oi
 .have KC:¬((0:Int)<((0:Nat):Int)):=by omega
  simp only[Z3,seval,-ae,KC];exact hk _ ⟨λ_ j hj=>aj j (Nat.zero_le _) hj,λ_=>rfl⟩
 obtain⟨i,rfl⟩:∃i,m=i+1:=⟨m-1,by omega⟩
 have aF:(0:Int)<((i+1:Nat):Int):=by omega
 have hw:IntKind.i64.wrap (((i+1:Nat):Int)-1)=(i:Int):=by rw[wrap64 (by omega) (by omega)];omega
 have F:Full O P C (O.length-(i+1)):=full_of s (by omega) λj h1 h2=>aj j (by omega) h2;simp only[Z3,seval,-ae,aF,hw];refine zHA s F (i:=i) (by omega) pR aJ λf0 f1 f2 f3 hf=>?_;rcases hf with ⟨rfl,rfl,rfl,rfl,L⟩|⟨h0,hn⟩
 .simp only[Z3,seval,-ae,aF,hw];refine⟨i,by omega,i,by omega,rfl,rfl,λj h1 h2=>?_⟩;by_cases e:j=i
  .subst e;exact L
  .exact aj j (by omega) h2
 .simp only[Z3,seval,-ae,aF,hw,h0,Bool.false_and];exact hk _ ⟨λh=>absurd h (by omega),λh=>absurd (h i (by omega)) hn⟩
theorem zBr(hR:IsPr vO vP vC O P C)(sz:SzP O P C)(hk:∀t:Bool,(t=true↔qx O P C/\Cons O P C)->K (.bool t) σ):zA Tryz.prog 40 [.agg [vO,vP,vC]] σ K:=by
 have h0:=hR.O.one;have h1:=hR.P.one;have h2:=hR.C.one;have fl:∀{A:Prop},¬A->((false=true)↔A):=λh=>⟨λx=>(by cases x),λx=>absurd x h⟩
 have ji:PtrG (σ.new [vO,vP,vC]) σ.next vO vP vC:=⟨by simp only[Z3,seval,-ae],by simp only[Z3,seval,-ae]⟩
 refine zA.gh ?_;refine zD mix Tryz.func40 ?_
 conv=>arg 2;cbv
 refine zF rfl ?_;simp only[Z3,seval,-ae,h0,h1,h2];refine zD5 hR sz λt ht=>?_;cases t with
 |false=>
  simp only[Z3,seval,-ae];exact Gh.fin0 (zC σ _) trivial (hk _ (fl λh=>by cases ht.2 h.1))
 |true=>
  have hp:=ht.1 rfl;simp only[Z3,seval,-ae];refine zD4 hp.shp ji hR λr hr=>?_;simp only[Z3,seval,-ae];exact Gh.fin0 (zC σ _) trivial (hk _ (by rw[decide_eq_true_iff];exact⟨λh=>⟨hp,hr.1 h⟩,λh=>hr.2 h.2⟩))
def cenE(C:V3)(i q:Nat):Prop:=at_ (cvec C i (i+(1+q))) (i+(1+q))=1/\isZ ((cvec C i (i+(1+q))).take (i+(1+q)))
def isCen(O:V1)(C:V3):Prop:=∀i,i<O.length->at_ O i=at_ O 0/\∀q,i+(1+q)<O.length->cenE C i q
end Go.Proofs
set_option linter.unusedSectionVars false
namespace Go.Grp
open Go.Ab Go.Lie
variable{α:Type}{S:α->Prop}{m:α->α->α}{e:α}{a b x y z g:α}
noncomputable def ginv[Inhabited α](S:α->Prop)(m:α->α->α)(e a:α):α:=Classical.epsilon λb=>S b/\m a b=e
section
variable[Inhabited α]
theorem Gp.inv_in(G:Gp S m e)(ha:S a):S (ginv S m e a)/\m a (ginv S m e a)=e:=by
 obtain⟨b,h1,h2,h3⟩:=G.inv ha;exact Classical.epsilon_spec (p:=λb=>S b/\m a b=e) ⟨b,h1,h2⟩
theorem Gp.inv_eq(G:Gp S m e)(ha:S a)(hb:S b)(h:m a b=e):b=ginv S m e a:=G.cancel ha hb (G.inv_in ha).1 (h.trans (G.inv_in ha).2.symm)
theorem Gp.inv_l(G:Gp S m e)(ha:S a):m (ginv S m e a) a=e:=by
 obtain⟨b,h1,h2,h3⟩:=G.inv ha;rw[<-G.inv_eq ha h1 h2];exact h3
theorem Gp.inv_r(G:Gp S m e)(ha:S a):m a (ginv S m e a)=e:=(G.inv_in ha).2
noncomputable def com(S:α->Prop)(m:α->α->α)(e x y:α):α:=m (ginv S m e x) (m (ginv S m e y) (m x y))
noncomputable def cnj(S:α->Prop)(m:α->α->α)(e x g:α):α:=m (ginv S m e g) (m x g)
theorem Gp.com_in(G:Gp S m e)(hx:S x)(hy:S y):S (com S m e x y):=G.cl (G.inv_in hx).1 (G.cl (G.inv_in hy).1 (G.cl hx hy))
theorem Gp.cnj_in(G:Gp S m e)(hx:S x)(hg:S g):S (cnj S m e x g):=G.cl (G.inv_in hg).1 (G.cl hx hg)
theorem Gp.com_spec(G:Gp S m e)(hx:S x)(hy:S y):m (m y x) (com S m e x y)=m x y:=by
 have ix:=(G.inv_in hx).1;have iy:=(G.inv_in hy).1;have xy:=G.cl hx hy;unfold com;rw[G.as hy hx (G.cl ix (G.cl iy xy)),<-G.as hx ix (G.cl iy xy),G.inv_r hx,G.l1 (G.cl iy xy),<-G.as hy iy xy,G.inv_r hy,G.l1 xy]
theorem Gp.com_eq(G:Gp S m e)(hx:S x)(hy:S y)(hz:S z)(h:m (m y x) z=m x y):z=com S m e x y:=
 G.cancel (G.cl hy hx) hz (G.com_in hx hy) (h.trans (G.com_spec hx hy).symm)
theorem Gp.cnj_spec(G:Gp S m e)(hx:S x)(hg:S g):m g (cnj S m e x g)=m x g:=by
 unfold cnj;rw[<-G.as hg (G.inv_in hg).1 (G.cl hx hg),G.inv_r hg,G.l1 (G.cl hx hg)]
theorem Gp.cnj_eq(G:Gp S m e)(hx:S x)(hg:S g)(hz:S z)(h:m g z=m x g):z=cnj S m e x g:=
 G.cancel hg hz (G.cnj_in hx hg) (h.trans (G.cnj_spec hx hg).symm)
structure NSub(S:α->Prop)(m:α->α->α)(e:α)(N:α->Prop):Prop where
 inS:∀{x},N x->S x
 one:N e
 cl:∀{x y},N x->N y->N (m x y)
 inv:∀{x},N x->N (ginv S m e x)
 nor:∀{x g},N x->S g->N (cnj S m e x g)
theorem Gp.cnj_one(G:Gp S m e)(hg:S g):cnj S m e e g=e:=(G.cnj_eq G.one hg G.one (by rw[G.r1 hg,G.l1 hg])).symm
theorem Gp.cnj_com(G:Gp S m e)(hx:S x)(hy:S y):m x (com S m e x y)=cnj S m e x y:=by
 have c1:=G.com_in hx hy;exact G.cnj_eq hx hy (G.cl hx c1) (by rw[<-G.as hy hx c1];exact G.com_spec hx hy)
theorem NSub.com_in(G:Gp S m e){N:α->Prop}(hN:NSub S m e N)(hx:N x)(hy:S y):N (com S m e x y):=by
 have sx:=hN.inS hx;have h1:=G.cnj_com sx hy;have ix:=(G.inv_in sx).1
 have:com S m e x y=m (ginv S m e x) (cnj S m e x y):=by
  rw[<-h1,<-G.as ix sx (G.com_in sx hy),G.inv_l sx,G.l1 (G.com_in sx hy)]
 rw[this];exact hN.cl (hN.inv hx) (hN.nor hx hy)
end
end Go.Grp
namespace Go.Grp
open Go.Ab Go.Lie
variable{O:V1}{P:V2}{C:V3}{x y:V1}
abbrev gS(O:V1):V1->Prop:=TT O 0
abbrev gm(O:V1)(P:V2)(C:V3):V1->V1->V1:=mu O P C O.length
theorem Full.g(F:Full O P C O.length):Gp (gS O) (gm O P C) (zv O):=by
 have:=F.gp
 rwa[Nat.sub_self]at this
noncomputable abbrev gcom (O:V1) (P:V2) (C:V3) (x y:V1):V1:=com (gS O) (gm O P C) (zv O) x y
abbrev gN(O:V1)(P:V2)(C:V3)(N:V1->Prop):Prop:=NSub (gS O) (gm O P C) (zv O) N
theorem Full.nfx(F:Full O P C O.length)(hx:gS O x):ph (gm O P C) (zv O) (unit O) (nx x) 0 O.length=x:=by
 have:=F.nf (x:=x) (by rw[Nat.sub_self];exact hx)
 unfold Ph at this;rwa[Nat.sub_self]at this
end Go.Grp
namespace Go.Grp
open Go.Ab Go.Lie
variable{O:V1}{P:V2}{C:V3}{x y a b:V1}{d t i:Nat}
def Cent(O:V1)(C:V3):Prop:=∀i j,i<j->j<O.length->TT O j (cvec C i j)/\at_ (cvec C i j) j=1
def addm(o a b:Int):Int:=if a+b ≥ o then a+b-o else a+b
theorem zNo(o a b:Int):addm o a b=addm o b a:=by unfold addm;rw[Int.add_comm]
theorem zEy{o a b:Int}(ha:0<=a/\a<o)(hb:0<=b/\b<o)(h:addm o a b=a):b=0:=by
 unfold addm at h;split at h<;>omega
def Upto(O:V1)(t:Nat)(x y:V1):Prop:=∀j,j<t->at_ x j=at_ y j
theorem zP4(s:Shp O P C)(hd:d+1<=O.length)(hi:i=O.length-(d+1))(h0:at_ b i=0)(ha:TT O i a)(hb:TT O i b):mu O P C (d+1) a b=(mu O P C d (a.set i 0) (b.set i 0)).set i (at_ a i):=by
 have ba:=ha.bd i (by omega);subst hi;simp only[mu];rw[h0,if_neg (by omega),show nx b (O.length-(d+1))=0 by show(at_ b _).toNat=0;rw[h0];rfl,Int.add_zero];rfl
theorem Zf(s:Shp O P C):∀{d:Nat} {b:V1},d<=O.length->O.length-d<=t->t<O.length->TT O (O.length-d) b->TT O t a->Upto O t (mu O P C d b a) b/\at_ (mu O P C d b a) t=addm (at_ O t) (at_ b t) (at_ a t)
 |0,b,hd,h1,h2,hb,ha=>by omega
 |d+1,b,hd,h1,h2,hb,ha=>by
  have hi:O.length-(d+1)<O.length:=by omega
  have e:O.length-d=O.length-(d+1)+1:=by omega
  have aF:=s.pos hi;have bl:O.length-(d+1)<b.length:=by rw[hb.len];exact hi
  have jw:=hb.set0 hi aF;rw[<-e]at jw;by_cases ht:O.length-(d+1)=t
  .have hr:=mu_tt s hd hb (ha.mono (by omega):TT O (O.length-(d+1)) a);refine⟨λj hj=>by rw[hr.zero j (by omega),hb.zero j (by omega)],?_⟩;have hm:∀a b,TT O (O.length-d) a->TT O (O.length-d) b->TT O (O.length-d) (mu O P C d a b):=λa b h1 h2=>mu_tt s (by omega) h1 h2;have has:=(ha.mono (by omega):TT O (O.length-(d+1)) a).set0 hi aF;rw[<-e]at has;have ir:=hm _ _ (zBB (λx _=>by rw[e];exact Qk s (by rw[<-e];exact hm) x) (nx a (O.length-(d+1))) jw) has;have hw:TT O (O.length-d) (pvec P (O.length-(d+1))):=by rw[e];exact s.pw _ hi
   have nP:=hm _ _ hw ir;rw[<-ht];simp only[mu,addm];split
   .rw[at_set (by rw[nP.len];exact hi),if_pos rfl]
   .rw[at_set (by rw[ir.len];exact hi),if_pos rfl]
  .have rQ:at_ a (O.length-(d+1))=0:=ha.zero _ (by omega);rw[zP4 s hd rfl rQ hb (ha.mono (by omega)),qN rQ (by rw[ha.len];exact hi)];obtain⟨i1,i2⟩:=Zf s (d:=d) (by omega) (by omega) h2 jw ha;have gV:=(mu_tt s (by omega:d<=O.length) jw (ha.mono (by omega):TT O (O.length-d) a)).len;refine⟨λj hj=>?_,?_⟩
   .rw[at_set (by rw[gV];exact hi)];split
    .rename_i h;rw[h]
    .rename_i h;rw[i1 j hj,at_set bl,if_neg h]
   .rw[at_set (by rw[gV];exact hi),if_neg (by omega),i2,at_set bl,if_neg (by omega)]
theorem zOs(s:Shp O P C)(hC:Cent O C)(hi:O.length-d=i+1)(hd:d<=O.length)(be:i<t)(ht:t<O.length)(hx:TT O t x):TT O t (Grp.img O C (mu O P C d) i x)/\at_ (Grp.img O C (mu O P C d) i x) t=at_ x t:=by
 have bx:=hx.bd t ht;have hm:∀a b,TT O (i+1) a->TT O (i+1) b->TT O (i+1) (mu O P C d a b):=λa b h1 h2=>by
  have:=mu_tt s hd (a:=a) (b:=b) (by rw[hi];exact h1) (by rw[hi];exact h2)
  rwa[hi]at this
 have sk:Grp.img O C (mu O P C d) i x=fo (mu O P C d) (cvec C i) (nx x) t (O.length-t) (zv O):=by
  unfold img;have h:=Nat.add_sub_of_le (show i+1<=t by omega)
  have:∀(k u:Nat) (a:V1),u+k=t->(fo (mu O P C d) (cvec C i) (nx x) u (k+(O.length-t)) a=fo (mu O P C d) (cvec C i) (nx x) t (O.length-t) a):=by
   intro k
   induction k with
   |zero=>intro u a h;rw[Nat.zero_add,show u=t by omega]
   |succ k ih=>
    intro u a h;rw[show k+1+(O.length-t)=(k+(O.length-t))+1 by omega,fo,show nx x u=0 by show(at_ x u).toNat=0;rw[hx.zero u (by omega)];rfl];exact ih (u+1) a (by omega)
  have:=this (t-(i+1)) (i+1) (zv O) (by omega)
  rwa[show t-(i+1)+(O.length-t)=O.length-1-i by omega]at this
 rw[sk,show O.length-t=(O.length-(t+1))+1 by omega,fo];obtain⟨c1,c2⟩:=hC i t be ht;have st:∀k:Nat,(k:Int)<=at_ x t->∀{a:V1} {q:Int},TT O t a->at_ a t=q->0<=q->q+k<=at_ x t->TT O t (rep (mu O P C d) (cvec C i t) k a)/\at_ (rep (mu O P C d) (cvec C i t) k a) t=q+k:=by
  intro k
  induction k with
  |zero=>intro _ a q ha hq _ _;exact⟨ha,by rw[rep,hq];omega⟩
  |succ k ih=>
   intro hk a q ha hq kG Me;obtain⟨r1,r2⟩:=Zf s (d:=d) (t:=t) (a:=cvec C i t) (b:=a) hd (by omega) ht (ha.mono (by omega)) c1;have BD:TT O t (mu O P C d a (cvec C i t)):=by
    have h0:=hm a (cvec C i t) (ha.mono (by omega)) (c1.mono (by omega));exact⟨h0.len,h0.bd,λj hj=>by rw[r1 j hj];exact ha.zero j hj⟩
   rw[c2,hq,addm,if_neg (by omega)]at r2
   have:=ih (by omega) BD r2 (by omega) (by omega)
   rw[rep];exact⟨this.1,by rw[this.2];omega⟩
 have dk:((nx x t:Nat):Int)=at_ x t:=Int.toNat_of_nonneg bx.1;obtain⟨q1,q2⟩:=st (nx x t) (by omega) (a:=zv O) (q:=0) (s.zv _) (zn _ t) (Int.le_refl _) (by omega)
 -- pn later yP leave it
 have HL:=fo_in (S:=λa=>TT O t a/\at_ a t=at_ x t) (m:=mu O P C d) (h:=cvec C i) (x:=nx x) (d:=O.length-(t+1)) (t:=t+1) (a:=rep (mu O P C d) (cvec C i t) (nx x t) (zv O)) ?_ ⟨q1,by rw[q2];omega⟩
 .exact HL
 .rintro j h1 h2 a ⟨ha,fD⟩
  obtain⟨d1,d2⟩:=hC i j (by omega) (by omega);obtain⟨r1,r2⟩:=Zf s (d:=d) (t:=j) (a:=cvec C i j) (b:=a) hd (by omega) (by omega) (ha.mono (by omega)) d1;have h0:=hm a (cvec C i j) (ha.mono (by omega)) (d1.mono (by omega));exact⟨⟨h0.len,h0.bd,λk hk=>by rw[r1 k (by omega)];exact ha.zero k hk⟩,by rw[r1 t (by omega)];exact fD⟩
end Go.Grp
namespace Go.Grp
open Go.Ab Go.Lie
variable{O:V1}{P:V2}{C:V3}{x y z a b c g:V1}{t i:Nat}
theorem zKS(s:Shp O P C)(hC:Cent O C):∀{d:Nat} {a b:V1},d<=O.length->O.length-d<=t->t<O.length->TT O t a->TT O (O.length-d) b->Upto O t (mu O P C d a b) b/\at_ (mu O P C d a b) t=addm (at_ O t) (at_ a t) (at_ b t)
 |0,a,b,hd,h1,h2,ha,hb=>by omega
 |d+1,a,b,hd,h1,h2,ha,hb=>by
  have hi:O.length-(d+1)<O.length:=by omega
  have e:O.length-d=O.length-(d+1)+1:=by omega
  have aF:=s.pos hi;have bl:O.length-(d+1)<b.length:=by rw[hb.len];exact hi
  have jw:=hb.set0 hi aF;rw[<-e]at jw;have lH:TT O (O.length-(d+1)) a:=ha.mono (by omega);have has:=lH.set0 hi aF;rw[<-e]at has;have hm:∀a b,TT O (O.length-d) a->TT O (O.length-d) b->TT O (O.length-d) (mu O P C d a b):=λa b h1 h2=>mu_tt s (by omega) h1 h2;by_cases ht:O.length-(d+1)=t
  .have hr:=mu_tt s hd lH hb;refine⟨λj hj=>by rw[hr.zero j (by omega),hb.zero j (by omega)],?_⟩;have ir:=hm _ _ (zBB (λx _=>by rw[e];exact Qk s (by rw[<-e];exact hm) x) (nx b (O.length-(d+1))) has) jw;have hw:TT O (O.length-d) (pvec P (O.length-(d+1))):=by rw[e];exact s.pw _ hi
   have nP:=hm _ _ hw ir;rw[<-ht];simp only[mu,addm];split
   .rw[at_set (by rw[nP.len];exact hi),if_pos rfl]
   .rw[at_set (by rw[ir.len];exact hi),if_pos rfl]
  .have rQ:at_ a (O.length-(d+1))=0:=ha.zero _ (by omega);have JI:a.set (O.length-(d+1)) 0=a:=qN rQ (by rw[ha.len];exact hi);have bb:=hb.bd _ hi
   -- A6 of a
   have it:∀(k:Nat) {u:V1},TT O t u->at_ u t=at_ a t->TT O t (iter (Grp.img O C (mu O P C d) (O.length-(d+1))) k u)/\at_ (iter (Grp.img O C (mu O P C d) (O.length-(d+1))) k u) t=at_ a t:=by
    intro k
    induction k with
    |zero=>intro u h1 h2;exact⟨h1,h2⟩
    |succ k ih=>
     intro u h3 h4;obtain⟨k1,k2⟩:=zOs (P:=P) (t:=t) (d:=d) s hC (i:=O.length-(d+1)) e (by omega) (by omega) h2 h3;exact ih k1 (by rw[k2];exact h4)
   obtain⟨l1,l2⟩:=it (nx b (O.length-(d+1))) ha rfl;obtain⟨i1,i2⟩:=zKS s hC (d:=d) (by omega) (by omega) h2 l1 jw;have gV:=(hm _ _ (l1.mono (by omega)) jw).len;simp only[mu];rw[rQ,if_neg (by omega),JI,Int.zero_add];refine⟨λj hj=>?_,?_⟩
   .show at_ ((mu O P C d _ _).set _ _) j=_;rw[at_set (by rw[gV];exact hi)];split
    .rename_i h;rw[h]
    .rename_i h;rw[i1 j hj,at_set bl,if_neg h]
   .show at_ ((mu O P C d _ _).set _ _) t=_;rw[at_set (by rw[gV];exact hi),if_neg (by omega),i2,l2,at_set bl,if_neg (by omega)]
section
variable(s:Shp O P C)(F:Full O P C O.length)(hC:Cent O C)
include s F hC
theorem behind(hz:gS O z)(hc:gS O c)(h:Upto O t (gm O P C z c) z)(ht:t<=O.length):TT O t c:=by
 have:∀k,k<=t->TT O k c:=by
  intro k
  induction k with
  |zero=>intro _;exact hc
  |succ k ih=>
   intro hk;have E8:=ih (by omega);obtain⟨r1,r2⟩:=Zf s (d:=O.length) (t:=k) (a:=c) (b:=z) (vM _) (by omega) (by omega) (by rw[Nat.sub_self];exact hz) E8;have e:=h k (by omega);show TT O (k+1) c;have e2:addm (at_ O k) (at_ z k) (at_ c k)=at_ z k:=by rw[<-r2];exact e
   have:=zEy (hz.bd k (by omega)) (hc.bd k (by omega)) e2
   refine⟨hc.len,hc.bd,λj hj=>?_⟩;by_cases g:j=k
   .subst g;exact this
   .exact E8.zero j (by omega)
 exact this t (vM _)
theorem zF2(ht:t<=O.length)(hx:TT O t x)(hy:gS O y):Upto O t (gm O P C x y) y:=by
 rcases Nat.lt_or_ge t O.length with h|h
 .exact(zKS s hC (d:=O.length) (t:=t) (a:=x) (b:=y) (vM _) (by omega) h hx (by rw[Nat.sub_self];exact hy)).1
 .have fV:x=zv O:=hx.ext (s.zv _) λj h1 h2=>by omega
  rw[fV,F.g.l1 hy];exactλj _=>rfl
theorem zDj(ht:t<=O.length):gN O P C (TT O t):=by
 have G:=F.g;have pf:∀{x:V1},TT O t x->gS O x:=λh=>h.mono (Nat.zero_le _);refine⟨pf,s.zv _,λ{x y} hx hy=>?_,λ{x} hx=>?_,λ{x g} hx hg=>?_⟩
 .have h0:=G.cl (pf hx) (pf hy);exact⟨h0.len,h0.bd,λj hj=>by rw[zF2 s F hC ht hx (pf hy) j hj];exact hy.zero j hj⟩
 .obtain⟨i1,i2⟩:=G.inv_in (pf hx)
  have:=zF2 s F hC ht hx i1
  rw[show gm O P C x (ginv (gS O) (gm O P C) (zv O) x)=zv O from i2]at this;exact⟨i1.len,i1.bd,λj hj=>by rw[<-this j hj];exact zn _ j⟩
 .refine behind s F hC hg (G.cnj_in (pf hx) hg) (λj hj=>?_) ht;have e:gm O P C g (cnj (gS O) (gm O P C) (zv O) x g)=gm O P C x g:=G.cnj_spec (pf hx) hg;rw[e];exact zF2 s F hC ht hx hg j hj
end
end Go.Grp
namespace Go.Grp
open Go.Ab Go.Lie
variable{O:V1}{P:V2}{C:V3}{x g:V1}
def ql(O:V1):V2:=(List.range O.length).map (unit O)
section
variable(s:Shp O P C)(F:Full O P C O.length)
include s F
theorem triv:gN O P C (λx=>x=zv O):=by
 have G:=F.g;refine⟨λh=>by rw[h];exact G.one,rfl,λh1 h2=>by rw[h1,h2];exact G.l1 G.one,λh=>?_,λh hg=>by rw[h];exact G.cnj_one hg⟩;rw[h];exact(G.inv_eq G.one G.one (G.l1 G.one)).symm
end
end Go.Grp
namespace Go.Proofs
open Go.Ab Go.Lie Go.Grp
variable{O:V1}{P:V2}{C:V3}{x a b:V1}{d:Nat}
theorem zPT{i:Nat}(xl:i<x.length):(x.set i 0).set i (at_ x i)=x:=zMF xl
theorem zIN(s:Shp O P C){d i:Nat}(hi:O.length=(d+1)+i)(F:Full O P C d)(F1:Full O P C (d+1)){y1 y2:V1}(hx:TT O i x)(h1:TT O (i+1) y1)(h2:TT O (i+1) y2)(e1:mu O P C d (x.set i 0) y1=zv O)(e2:mu O P C d (pvec P i) y2=zv O):
  (at_ x i=0->mu O P C (d+1) x y1=zv O)/\(at_ x i≠0->mu O P C (d+1) x (mu O P C (d+1) (mu O P C (d+1) y1 ((zv O).set i (at_ O i-at_ x i))) y2)=zv O):=by
 have aH:i<O.length:=by omega
 have hn:O.length-d=i+1:=by omega
 have dX:O.length-(d+1)=i:=by omega
 have aF:=s.pos aH;have bx:=hx.bd i aH;have xl:i<x.length:=by rw[hx.len];exact aH
 have M:=F.gp.toMon;have G1:=F1.gp;rw[dX]at G1;have hr:TT O (O.length-d) (x.set i 0):=by rw[hn];exact hx.set0 aH aF
 have lO:TT O (O.length-d) y1:=by rw[hn];exact h1
 have lM:TT O (O.length-d) y2:=by rw[hn];exact h2
 have hz:TT O (O.length-d) (zv O):=s.zv _;have hw:TT O (O.length-d) (pvec P i):=by rw[hn];exact s.pw i aH
 have sub:∀{u v:V1},TT O (O.length-d) u->TT O (O.length-d) v->mu O P C (d+1) u v=mu O P C d u v:=λhu hv=>zGG s (by omega) hu hv;constructor
 .intro h0;rw[qN h0 xl]at e1 hr;rw[sub hr lO];exact e1
 .intro h0;have z0:(zv O).set i 0=zv O:=qN (zn _ i) (by simp;exact aH);have ia:∀k,iter (al O P C d i) k (zv O)=zv O:=λk=>zDI (al_zv s F.toBeh hn) k;have hg:TT O i ((zv O).set i (at_ x i)):=(s.zv i).set aH (vM _) bx;have ht:TT O i ((zv O).set i (at_ O i-at_ x i)):=(s.zv i).set aH (vM _) ⟨by omega,by omega⟩;have bp:i<(x.set i 0).length:=by rw[List.length_set];exact xl
  have r0:(x.set i 0).set i 0=x.set i 0:=by rw[List.set_set]
  have up:∀{u:V1},TT O (O.length-d) u->TT O i u:=λh=>h.mono (by omega);have ex:mu O P C (d+1) ((zv O).set i (at_ x i)) (x.set i 0)=x:=by
   have:=zDq s F.toBeh hn (a:=at_ x i) (b:=0) hz hr
   rw[r0,if_neg (by omega),ia,M.l1 hr,Int.add_zero,zPT xl]at this;exact this
  have et:mu O P C (d+1) ((zv O).set i (at_ x i)) ((zv O).set i (at_ O i-at_ x i))=pvec P i:=by
   have:=zDq s F.toBeh hn (a:=at_ x i) (b:=at_ O i-at_ x i) hz hz
   rw[if_pos (by omega),ia,M.l1 hz,M.r1 hw,show at_ x i+(at_ O i-at_ x i)-at_ O i=0 by omega,qN (hw.zero i (by omega)) (by rw[hw.len];exact aH)]at this;exact this
  have key:∀Y,mu O P C (d+1) x Y=mu O P C (d+1) (mu O P C (d+1) ((zv O).set i (at_ x i)) (x.set i 0)) Y:=λY=>by rw[ex]
  rw[key];have k1:=up lO;have k2:=up lM;have kr:=up hr;rw[G1.as hg kr (G1.cl (G1.cl k1 ht) k2),<-G1.as kr (G1.cl k1 ht) k2,<-G1.as kr k1 ht,sub hr lO,e1,G1.l1 ht,<-G1.as hg ht k2,et,sub hw lM,e2]
end Go.Proofs
namespace Go.Proofs
open Go.Ab Go.Lie Go.Grp
variable{σ:PHeap}{K:PV->PHeap->Prop}{O:V1}{P:V2}{C:V3}{vO vP vC vx:PV}{x y a:V1}{rP rC:List PV}{d j:Nat}
def zNu(O:V1)(P:V2)(C:V3)(d i:Nat):Prop:=
 ∀(σ:PHeap) (K:PV->PHeap->Prop) (x:V1) (vx vO vP vC:PV),IsPr vO vP vC O P C->TT O i x->FI vx x->(∀v y,FI v y->TT O i y->mu O P C d x y=zv O->K v σ)->zA Tryz.prog 302 [.agg [vO,vP,vC],.int .i64 i,vx] σ K
theorem zFb(s:Shp O P C)(hc:Cons O P C):∀{d i:Nat},O.length=d+i->zNu O P C d i
 |0,i,hi=>by
  intro σ K x vx vO vP vC hR hx aX hk;have aN:=s.le;obtain⟨⟨w0,a0,rfl⟩,⟨w1,a1,rP,rfl,hP⟩,⟨w3,a3,rC,rfl,hC⟩⟩:=hR;refine zA.gh ?_;have aG:(O.length:Int)<=(i:Int):=by omega
  refine zN mix Tryz.func302 cf302 rfl ?_;dsimp only[if302,eI,nI,qD,eD,mI0,lI0,LI0,fI0,xI0,bI0,cI0,sI0,C1,C3,mD0,lD0,fD0,xD0,I0,zI0,wD0,R0,S0];simp only[Z3,seval,-ae,aG,List.length_replicate,qA,mk8 (n:=O.length) (by omega),mkL (n:=O.length) (by omega)];exact Gh.finF (s:=σ.next+1) ((zC σ _).new _) (by simp only[Z3,seval,-ae]) (by omega) (zL _ _) (by simp[capOK]) λo1=>hk _ (zv O) (FI.mk (by simp)) (s.zv _) rfl
 |d+1,i,hi=>by
  intro σ K x vx vO vP vC hR hx aX hk;have Dg:zNu O P C d (i+1):=zFb s hc (by omega);have F:Full O P C d:=full_of s (by omega) λj h1 h2=>hc j h2;have F1:Full O P C (d+1):=full_of s (by omega) λj h1 h2=>hc j h2;have eW:AtOK O P C (d+1) i:=zAV s (by omega);have aN:=s.le;have aJ:=hR;have aH:i<O.length:=by omega
  have hO:=s.pr i aH;have aF:=s.pos aH;have aW:=hx.len;have bx:=hx.bd i aH;have dX:O.length-(d+1)=i:=by omega
  have G1:=F1.gp;rw[dX]at G1;obtain⟨⟨w0,a0,rfl⟩,⟨w1,a1,rP,rfl,hP⟩,⟨w3,a3,rC,rfl,hC⟩⟩:=hR;obtain⟨w5,a5,bw⟩:=pvRow s hP aH;have eA:i<P.length:=by rw[s.pl];exact aH
  have cQ:=s.pw i aH;obtain⟨wx,ax,rfl⟩:=aX;have iK:i<x.length:=by omega
  have aG:¬(O.length:Int)<=(i:Int):=by omega
  have sx:=hx.set0 aH aF;have bB:IntKind.i64.wrap ((i:Int)+1)=((i+1:Nat):Int):=wrapS aH (by omega);have vt:i+1<=x.length:=iK;refine zA.gh ?_;refine zN mix Tryz.func302 cf302 rfl ?_;dsimp only[if302,eI,nI,qD,eD,mI0,lI0,LI0,fI0,xI0,bI0,cI0,sI0,C1,C3,mD0,lD0,fD0,xD0,I0,zI0,wD0,R0,S0];simp only[Z3,seval,-ae,aG];refine Z7 rfl (by omega) λfS oE=>?_;simp only[Z3,seval,-ae,iK,vt,zJ,zX iK,bB];refine zA.frz (s:=σ.next+1) (cs:=pis (x.set i 0)) (by simp only[Z3,seval,-ae]) (zL _ _) λo1=>?_;have lj:=oE.ok;simp only[sbs,sb,lj,and_self,if_true,aJ.O.sb,aJ.P.sb,aJ.C.sb];refine Dg _ _ (x.set i 0) _ _ _ _ aJ sx (FI.mk (by simp)) λv1 y1 sG kj e1=>?_;have aq:Keep σ (((σ.new [.fz w0 a0 O.length (pis O),.fz w1 a1 P.length rP,.fz w3 a3 C.length rC]).new (pis (x.set i 0))).kill (σ.next+1)):=((zC σ _).new _).kill (by omega);simp only[Z3,seval,-ae,iK,pisAt iK];refine iteI (λh0=>?_) λh0=>?_
  .have hr:=Dg
   -- pn yc of pn nO is not asked for; any Gi do
   obtain⟨y2,Fo,Kx,_⟩:=F.gp.inv (a:=pvec P i) (by rw[show O.length-d=i+1 by omega];exact cQ);rw[show O.length-d=i+1 by omega]at Fo
   have:=(zIN s (by omega) F F1 hx kj Fo e1 Kx).1 h0
   exact Gh.fin0 aq (sG.bel _) (hk v1 y1 sG (kj.mono (by omega)) this)
  have fI:i<(zv O).length:=by simp;exact aH
  have B6:i+1<=O.length:=aH;have dg:IntKind.i64.wrap (at_ O i-at_ x i)=at_ O i-at_ x i:=wrap64 (by omega) (by omega);have bY:=zX fI (x:=at_ O i-at_ x i);have ht:TT O i ((zv O).set i (at_ O i-at_ x i)):=(s.zv i).set aH (vM _) ⟨by omega,by omega⟩;simp only[Z3,seval,-ae,List.length_replicate,qA,mk8 (n:=O.length) (by omega),mkL (n:=O.length) (by omega),iK,pisAt iK,aH,B6,pisAt aH,dg,zJ,bY,bB,eA,bw];refine zA.frz (s:=σ.next+2) (cs:=pis ((zv O).set i (at_ O i-at_ x i))) (by simp only[Z3,seval,-ae]) (zL _ _) λo2=>?_;simp only[sbs,sb,capOK,vM,decide_true,and_self,if_true,aJ.O.sb,aJ.P.sb,aJ.C.sb,sG.sb];have ua:TT O i y1:=kj.mono (by omega);refine eW aJ ua ht sG (FI.mk (by simp)) λv3 mS=>?_;simp only[Z3,seval,-ae,bB,eA,bw];refine Dg _ _ (pvec P i) _ _ _ _ aJ cQ (FI.mk cQ.len) λv2 y2 bW Bk e2=>?_;have tZ:TT O i y2:=Bk.mono (by omega);have s7:=G1.cl ua ht;simp only[Z3,seval,-ae,bB,eA,bw];refine eW aJ s7 tZ mS bW λv4 pL=>?_;simp only[Z3,seval,-ae]
  have:=(zIN s (by omega) F F1 hx kj Bk e1 e2).2 h0
  exact Gh.fin0 (((((zC σ _).new _).kill (by omega)).new _).kill (by omega)) (pL.bel _) (hk v4 _ pL (G1.cl s7 tZ) this)
theorem zGl(s:Shp O P C)(hc:Cons O P C)(hR:IsPr vO vP vC O P C)(hx:gS O x)(aX:FI vx x)(hk:∀v,FI v (ginv (gS O) (gm O P C) (zv O) x)->K v σ):zA Tryz.prog 244 [.agg [vO,vP,vC],vx] σ K:=by
 have h0:=hR.O.one;have h1:=hR.P.one;have h2:=hR.C.one;have G:=(full_of s (vM _) λj _ h=>hc j h).g;refine zA.gh ?_;refine zD mix Tryz.func244 ?_
 conv=>arg 2;cbv
 refine zF rfl ?_;simp only[Z3,seval,-ae,h0,h1,h2];refine zFb s hc (d:=O.length) (i:=0) (by omega) _ _ x _ _ _ _ hR hx aX λv y hv hy e=>?_;simp only[Z3,seval,-ae]
 have:=G.inv_eq hx hy e
 rw[<-this]at hk;exact Gh.fin0 (zC σ _) (hv.bel _) (hk v hv)
end Go.Proofs
namespace Go.Proofs
open Go.Ab Go.Lie Go.Grp
variable{σ:PHeap}{K:PV->PHeap->Prop}{O:V1}{P:V2}{C:V3}{vO vP vC vx vy va vb:PV}{x y a b:V1}{d j:Nat}
theorem zAn(s:Shp O P C)(hR:IsPr vO vP vC O P C)(ha:gS O a)(hb:gS O b)(dD:FI va a)(dM:FI vb b)(hk:∀v,FI v (gm O P C a b)->K v σ):zA Tryz.prog 130 [.agg [vO,vP,vC],va,vb] σ K:=by
 have h0:=hR.O.one;have h1:=hR.P.one;have h2:=hR.C.one;refine zA.gh ?_;refine zD mix Tryz.func130 ?_
 conv=>arg 2;cbv
 refine zF rfl ?_;simp only[Z3,seval,-ae,h0,h1,h2];refine zAV s (d:=O.length) (i:=0) (by omega) hR ha hb dD dM λv hv=>?_;simp only[Z3,seval,-ae];exact Gh.fin0 (zC σ _) (hv.bel _) (hk v hv)
theorem zFc(s:Shp O P C)(hc:Cons O P C)(hR:IsPr vO vP vC O P C)(hx:gS O x)(hy:gS O y)(aX:FI vx x)(fw:FI vy y)(hk:∀v,FI v (gcom O P C x y)->K v σ):zA Tryz.prog 184 [.agg [vO,vP,vC],vx,vy] σ K:=by
 have h0:=hR.O.one;have h1:=hR.P.one;have h2:=hR.C.one;have G:=(full_of s (vM _) λj _ h=>hc j h).g;have pF:=G.cl hy hx;have jb:=G.cl hx hy;have hi:=(G.inv_in pF).1;refine zA.gh ?_;refine zD mix Tryz.func184 ?_
 conv=>arg 2;cbv
 refine zF rfl ?_;simp only[Z3,seval,-ae,h0,h1,h2];refine zAn s hR hy hx fw aX λv1 f1=>?_;simp only[Z3,seval,-ae,h0,h1,h2];refine zGl s hc hR pF f1 λv2 f2=>?_;simp only[Z3,seval,-ae,h0,h1,h2];refine zAn s hR hx hy aX fw λv3 f3=>?_;simp only[Z3,seval,-ae,h0,h1,h2];refine zAn s hR hi jb f2 f3 λv4 f4=>?_;simp only[Z3,seval,-ae];have e:gm O P C (ginv (gS O) (gm O P C) (zv O) (gm O P C y x)) (gm O P C x y)=gcom O P C x y:=
  G.com_eq hx hy (G.cl hi jb) (by rw[<-G.as pF hi jb,G.inv_r pF,G.l1 jb])
 rw[e]at f4;exact Gh.fin0 (zC σ _) (f4.bel _) (hk v4 f4)
end Go.Proofs
namespace Go.Proofs
open Go.Ab Go.Lie Go.Grp
variable{O:V1}{x y:V1}{j:Nat}
theorem zIK(hx:x.length=O.length):isZ x↔x=zv O:=by
 constructor
 .intro h;refine Zl (by simp[hx]) λj hj=>?_;rw[at_eq hj,zn];exact h _ (List.getElem_mem hj)
 .rintro rfl y hy
  exact List.eq_of_mem_replicate hy
end Go.Proofs
namespace Go.Grp
open Go.Ab Go.Lie
variable{O:V1}{P:V2}{C:V3}{x y a b g:V1}{D:List (Option V1)}{t k d:Nat}{N:V1->Prop}
theorem zAg(hx:gS O x):TT O (dep x) x:=⟨hx.len,hx.bd,λj hj=>zY hj⟩
theorem dep_ge(hx:TT O t x)(ht:t<=O.length):t<=dep x:=by
 rcases Nat.lt_or_ge (dep x) t with h|h
 .have hl:=hx.len;exact absurd (hx.zero _ h) (qa (by omega))
 .exact h
theorem zDP(hx:gS O x)(h:O.length<=dep x):x=zv O:=by
 refine Zl (by rw[hx.len];simp) λj hj=>?_;rw[zn];exact zY (by have:=hx.len;omega)
theorem zHL(s:Shp O P C):dep (zv O)=O.length:=by
 have h1:=dep_ge (t:=O.length) (s.zv _) (vM _);have h2:=Zz (zv O);rw[(s.zv 0).len]at h2;omega
theorem zCo{o a b:Int}(ha:0<=a/\a<o)(hb:0<=b/\b<o):addm o a b=(a+b) % o:=by
 unfold addm;split
 .have:(a+b) % o=(a+b-o) % o:=by rw[Int.sub_emod_right]
  rw[this,Int.emod_eq_of_lt (by omega) (by omega)]
 .rw[Int.emod_eq_of_lt (by omega) (by omega)]
section
variable(s:Shp O P C)(F:Full O P C O.length)(hC:Cent O C)
include s F hC
theorem zAR(ht:t<O.length)(hx:TT O t x):∀k:Nat,TT O t (pw (gm O P C) (zv O) x k)/\at_ (pw (gm O P C) (zv O) x k) t=((k:Int)*at_ x t) % at_ O t
 |0=>⟨s.zv _,by show at_ (zv O) t=_;rw[zn];simp⟩
 |k+1=>by
  obtain⟨h1,h2⟩:=zAR ht hx k;have hN:=zDj s F hC (Nat.le_of_lt ht);have hO:=s.pr t ht;obtain⟨_,g2⟩:=Zf s (d:=O.length) (b:=pw (gm O P C) (zv O) x k) (a:=x) (t:=t) (vM _) (by omega) ht (by rw[Nat.sub_self];exact h1.mono (Nat.zero_le _)) hx;refine⟨hN.cl h1 hx,?_⟩;show at_ (mu O P C O.length (pw (gm O P C) (zv O) x k) x) t=_;rw[g2,zCo (h1.bd t ht) (hx.bd t ht),h2,Int.emod_add_emod];congr 1;grind
theorem zGa(ht:t<O.length)(hx:TT O t x)(hb:TT O t b)(eU:at_ b t=1):TT O (t+1) (gm O P C (pw (gm O P C) (zv O) b (at_ O t-at_ x t).toNat) x):=by
 obtain⟨h1,h2⟩:=zAR s F hC ht hb (at_ O t-at_ x t).toNat;have hN:=zDj s F hC (Nat.le_of_lt ht);have bx:=hx.bd t ht;obtain⟨_,g2⟩:=Zf s (d:=O.length) (b:=pw (gm O P C) (zv O) b (at_ O t-at_ x t).toNat) (a:=x) (t:=t) (vM _) (by omega) ht (by rw[Nat.sub_self];exact h1.mono (Nat.zero_le _)) hx;have h0:=hN.cl h1 hx;have hz:at_ (gm O P C (pw (gm O P C) (zv O) b (at_ O t-at_ x t).toNat) x) t=0:=by
  show at_ (mu O P C O.length _ _) t=0;rw[g2,zCo (h1.bd t ht) bx,h2,eU,Int.mul_one,Int.emod_add_emod,Int.toNat_of_nonneg (by omega),show at_ O t-at_ x t+at_ x t=at_ O t by omega,Int.emod_self]
 refine⟨h0.len,h0.bd,λj hj=>?_⟩;rcases Nat.lt_or_ge j t with h|h
 .exact h0.zero j h
 .rw[show j=t by omega];exact hz
theorem zN7(ht:t<O.length)(hx:gS O x)(hb:TT O t b)(eU:at_ b t=1):gS O (gm O P C x b)/\Upto O t (gm O P C x b) x/\at_ (gm O P C x b) t=(at_ x t+1) % at_ O t:=by
 obtain⟨g1,g2⟩:=Zf s (d:=O.length) (b:=x) (a:=b) (t:=t) (vM _) (by omega) ht (by rw[Nat.sub_self];exact hx) hb;refine⟨F.g.cl hx (hb.mono (Nat.zero_le _)),g1,?_⟩;show at_ (mu O P C O.length x b) t=_;rw[g2,zCo (hx.bd t ht) (hb.bd t ht),eU]
end
structure OkD(O:V1)(D:List (Option V1)):Prop where
 len:D.length=O.length
 row:∀(d:Nat) (y:V1),D[d]? = some (some y)->TT O d y/\at_ y d=1
def InD(N:V1->Prop)(D:List (Option V1)):Prop:=∀(d:Nat) (y:V1),D[d]? = some (some y)->N y
def free:List (Option V1)->Nat
 |[]=>0
 |none::D=>free D+1
 |some _::D=>free D
theorem zBC:∀D,free D<=D.length
 |[]=>vM _
 |none::D=>by have:=zBC D;simp only[free,List.length_cons];omega
 |some _::D=>by have:=zBC D;simp only[free,List.length_cons];omega
theorem zEl{y:V1}:∀{D:List (Option V1)} {d:Nat},D[d]? = some none->free (D.set d (some y))+1=free D
 |[],d,h=>by simp at h
 |v::D,0,h=>by
  simp only[List.getElem?_cons_zero,Option.some.injEq]at h;subst h;rfl
 |v::D,d+1,h=>by
  have:=zEl (y:=y) (D:=D) (d:=d) (by simpa using h)
  cases v<;>simp only[List.set_cons_succ,free]<;>omega
theorem OkD.put(h:OkD O D)(hd:d<O.length)(hy:TT O d y)(h1:at_ y d=1):OkD O (D.set d (some y)):=by
 refine⟨by rw[List.length_set];exact h.len,λe v hv=>?_⟩;rw[List.getElem?_set]at hv;split at hv
 .rename_i he;subst he;split at hv
  .cases hv;exact⟨hy,h1⟩
  .cases hv
 .exact h.row e v hv
theorem InD.put(hd:D[d]? = some none):InD N (D.set d (some y))↔InD N D/\N y:=by
  have hl:d<D.length:=by
    rcases Nat.lt_or_ge d D.length with h|h
    .exact h
    .rw[List.getElem?_eq_none h]at hd;cases hd
  constructor
  . intro h
    refine⟨λe v hv=>h e v ?_,h d y ?_⟩
    .rw[List.getElem?_set,if_neg λhe=>by subst he;rw[hd]at hv;cases hv];exact hv
    .rw[List.getElem?_set,if_pos rfl,if_pos hl]
  . rintro⟨h1,h2⟩ e v hv
    rw[List.getElem?_set]at hv;split at hv
    . rename_i he;subst he
      first
      |(cases hv;exact h2)
      | (split at hv
         .cases hv;exact h2
         .cases hv)
    .exact h1 e v hv
theorem OkD.start(n:Nat)(hn:n=O.length):OkD O (List.replicate n none):=⟨by simp[hn],λd y h=>by
 rw[List.getElem?_replicate]at h;split at h<;>cases h⟩
theorem InD.start(n:Nat):InD N (List.replicate n none):=λd y h=>by
 rw[List.getElem?_replicate]at h;split at h<;>cases h
end Go.Grp
namespace Go.Grp
open Go.Ab Go.Lie
variable{O:V1}{P:V2}{C:V3}{x a b:V1}{t k:Nat}
section
variable{α:Type}{S:α->Prop}{m:α->α->α}{e:α}
theorem Mon.pw_e(M:Mon S m e):∀k,Grp.pw m e e k=e
 |0=>rfl
 |k+1=>by
  show m (Grp.pw m e e k) e=e;rw[M.pw_e k];exact M.l1 M.one
theorem Mon.pw_mul(M:Mon S m e){x:α}(hx:S x)(a:Nat):∀b,Grp.pw m e x (a*b)=Grp.pw m e (Grp.pw m e x a) b
 |0=>rfl
 |b+1=>by
  rw[Nat.mul_succ,M.pw_add hx,M.pw_mul hx a b];rfl
end
section
variable(s:Shp O P C)(F:Full O P C O.length)(hC:Cent O C)
include s F hC
theorem zKK(ht:t<O.length)(hx:TT O t x):TT O (t+1) (Grp.pw (gm O P C) (zv O) x (at_ O t).toNat):=by
 obtain⟨h1,h2⟩:=zAR s F hC ht hx (at_ O t).toNat;refine⟨h1.len,h1.bd,λj hj=>?_⟩;rcases Nat.lt_or_ge j t with h|h
 .exact h1.zero j h
 .rw[show j=t by omega,h2,Int.toNat_of_nonneg (by have:=s.pr t ht;omega),Int.mul_emod_right]
omit hC in
end
end Go.Grp
namespace Go.Grp
open Go.Ab Go.Lie
section
variable{α:Type}[Inhabited α]{S:α->Prop}{m:α->α->α}{e:α}{x y a:α}{N:α->Prop}
structure GSub(S:α->Prop)(m:α->α->α)(e:α)(N:α->Prop):Prop where
 inS:∀{x},N x->S x
 one:N e
 cl:∀{x y},N x->N y->N (m x y)
 inv:∀{x},N x->N (ginv S m e x)
theorem Gp.wholeB(G:Gp S m e):GSub S m e S:=⟨id,G.one,λa b=>G.cl a b,λa=>(G.inv_in a).1⟩
theorem GSub.com_in(h:GSub S m e N)(hx:N x)(hy:N y):N (com S m e x y):=h.cl (h.inv hx) (h.cl (h.inv hy) (h.cl hx hy))
theorem GSub.quot(G:Gp S m e)(h:GSub S m e N)(ha:N a)(hx:S x)(hn:N (m a x)):N x:=by
 have h1:=h.cl (h.inv ha) hn;rwa[<-G.as (h.inS (h.inv ha)) (h.inS ha) hx,G.inv_l (h.inS ha),G.l1 hx]at h1
theorem GSub.quotR(G:Gp S m e)(h:GSub S m e N)(ha:N a)(hx:S x)(hn:N (m x a)):N x:=by
 have h1:=h.cl hn (h.inv ha);rwa[G.as hx (h.inS ha) (h.inS (h.inv ha)),G.inv_r (h.inS ha),G.r1 hx]at h1
theorem GSub.pw(h:GSub S m e N)(hx:N x):∀k,N (Grp.pw m e x k)
 |0=>h.one
 |k+1=>h.cl (h.pw hx k) hx
theorem Gp.com_swap'(G:Gp S m e)(hx:S x)(hy:S y):com S m e y x=ginv S m e (com S m e x y):=by
 have h1:=G.com_spec hx hy;have h2:=G.com_spec hy hx;have c1:=G.com_in hx hy;have c2:=G.com_in hy hx;refine G.inv_eq c1 c2 ?_;refine G.cancel (G.cl hy hx) (G.cl c1 c2) G.one ?_;rw[<-G.as (G.cl hy hx) c1 c2,h1,h2,G.r1 (G.cl hy hx)]
end
variable{O:V1}{P:V2}{C:V3}{x y z a b c g:V1}{D D':List (Option V1)}{t k d:Nat}{N H:V1->Prop}{L u u' Q:V2}
abbrev gB(O:V1)(P:V2)(C:V3)(N:V1->Prop):Prop:=GSub (gS O) (gm O P C) (zv O) N
inductive Rdu(O:V1)(P:V2)(C:V3)(D:List (Option V1)):V1->V1->Prop where
 |refl (x:V1):Rdu O P C D x x
 |left {d j:Nat} {b x x' z:V1} (hd:d<O.length) (hb:D[d]? = some (some b)) (hx:TT O d x) (h0:at_ x d≠0) (df:TT O (d+1) x') (e:x=gm O P C (pw (gm O P C) (zv O) b j) x') (r:Rdu O P C D x' z):Rdu O P C D x z
 |right {d j:Nat} {b x x' z:V1} (hd:d<O.length) (hb:D[d]? = some (some b)) (hx:TT O d x) (h0:at_ x d≠0) (df:TT O (d+1) x') (e:x=gm O P C x' (pw (gm O P C) (zv O) b j)) (r:Rdu O P C D x' z):Rdu O P C D x z
theorem Rdu.trans(h:Rdu O P C D x y)(g:Rdu O P C D y z):Rdu O P C D x z:=by
 induction h with
 |refl x=>exact g
 |left hd hb hx h0 df e r ih=>exact .left hd hb hx h0 df e (ih g)
 |right hd hb hx h0 df e r ih=>exact .right hd hb hx h0 df e (ih g)
def Sup(D D':List (Option V1)):Prop:=∀(d:Nat) (b:V1),D[d]? = some (some b)->D'[d]? = some (some b)
theorem Rdu.mono(h:Rdu O P C D x z)(s:Sup D D'):Rdu O P C D' x z:=by
 induction h with
 |refl x=>exact .refl x
 |left hd hb hx h0 df e r ih=>exact .left hd (s _ _ hb) hx h0 df e ih
 |right hd hb hx h0 df e r ih=>exact .right hd (s _ _ hb) hx h0 df e ih
theorem Rdu.iff(F:Full O P C O.length)(hN:gB O P C N)(hD:InD N D)(h:Rdu O P C D x z):N x↔N z:=by
 have G:=F.g
 induction h with
 |refl x=>exact Iff.rfl
 |left hd hb hx h0 df e r ih=>
  refine Iff.trans ?_ ih;rw[e];exact⟨λh=>hN.quot G (hN.pw (hD _ _ hb) _) (df.mono (Nat.zero_le _)) h,λh=>hN.cl (hN.pw (hD _ _ hb) _) h⟩
 |right hd hb hx h0 df e r ih=>
  refine Iff.trans ?_ ih;rw[e];exact⟨λh=>hN.quotR G (hN.pw (hD _ _ hb) _) (df.mono (Nat.zero_le _)) h,λh=>hN.cl h (hN.pw (hD _ _ hb) _)⟩
theorem Sup.put(hd:D[d]? = some none):Sup D (D.set d (some y)):=λe b hb=>by
 rw[List.getElem?_set];split
 .rename_i h;rw[<-h,hd]at hb;cases hb
 .exact hb
def RQ(O:V1)(P:V2)(C:V3)(D:List (Option V1))(Q:V2)(x:V1):Prop:=∃z,Rdu O P C D x z/\(z=zv O\/z∈Q)
structure QI(O:V1)(P:V2)(C:V3)(D:List (Option V1))(Q:V2):Prop where
 pow:∀(d:Nat) (b:V1),D[d]? = some (some b)->RQ O P C D Q (pw (gm O P C) (zv O) b (at_ O d).toNat)
 com:∀(d e:Nat) (b c:V1),d≠e->D[d]? = some (some b)->D[e]? = some (some c)->RQ O P C D Q (gcom O P C b c)\/RQ O P C D Q (gcom O P C c b)
theorem RQ.step{Q':V2}(h:RQ O P C D (x::Q) y)(s:Sup D D')(hx:Rdu O P C D x z)(hz:z=zv O\/z∈Q')(hQ:∀q∈Q,q∈Q'):RQ O P C D' Q' y:=by
 obtain⟨w,h1,h2⟩:=h;rcases h2 with rfl|h2
 .exact⟨_,h1.mono s,.inl rfl⟩
 .rcases List.mem_cons.1 h2 with rfl|h2
  .exact⟨z,(h1.trans hx).mono s,hz⟩
  .exact⟨w,h1.mono s,.inr (hQ w h2)⟩
theorem zH0{n d:Nat}{b:V1}(h:(List.replicate n (none:Option V1))[d]? = some (some b)):False:=by
 rw[List.getElem?_replicate]at h;split at h<;>cases h
theorem QI.start(n:Nat):QI O P C (List.replicate n none) Q:=⟨λd b h=>(zH0 h).elim,λd e b c _ h _=>(zH0 h).elim⟩
theorem QI.mem{Q':V2}(h:QI O P C D Q)(hQ:∀q∈Q,q∈Q'):QI O P C D Q':=
 have r:∀{x},RQ O P C D Q x->RQ O P C D Q' x:=λ⟨z,h1,h2⟩=>⟨z,h1,h2.imp id (hQ z)⟩
 ⟨λd b hb=>r (h.pow d b hb),λd e b c ar hb hc=>(h.com d e b c ar hb hc).imp r r⟩
theorem QI.drop(h:QI O P C D (x::Q))(hx:Rdu O P C D x (zv O)):QI O P C D Q:=
 have r:∀{y},RQ O P C D (x::Q) y->RQ O P C D Q y:=λh=>h.step (λd b hb=>hb) hx (.inl rfl) λq hq=>hq
 ⟨λd b hb=>r (h.pow d b hb),λd e b c ar hb hc=>(h.com d e b c ar hb hc).imp r r⟩
theorem QI.put{Q':V2}(h:QI O P C D (x::Q))(hx:Rdu O P C D x z)(hd:D[d]? = some none)(hz:z∈Q')(hQ:∀q∈Q,q∈Q')(hp:pw (gm O P C) (zv O) y (at_ O d).toNat∈Q')(hc:∀(e:Nat) (b:V1),D[e]? = some (some b)->gcom O P C b y∈Q'\/gcom O P C y b∈Q'):QI O P C (D.set d (some y)) Q':=by
  have hl:d<D.length:=by
    rcases Nat.lt_or_ge d D.length with h|h
    .exact h
    .rw[List.getElem?_eq_none h]at hd;cases hd
  have s:Sup D (D.set d (some y)):=Sup.put hd;have r:∀{w},RQ O P C D (x::Q) w->RQ O P C (D.set d (some y)) Q' w:=λh=>h.step s hx (.inr hz) hQ;have ge:∀(e:Nat) (b:V1),(D.set d (some y))[e]? = some (some b)->(e=d/\b=y)\/(e≠d/\D[e]? = some (some b)):=λe b hb=>by
    rw[List.getElem?_set]at hb;split at hb
    . rename_i he
      subst he
      first
      |(cases hb;exact .inl ⟨rfl,rfl⟩)
      | (split at hb
         .cases hb;exact .inl ⟨rfl,rfl⟩
         .cases hb)
    .rename_i he;exact .inr ⟨λh=>he h.symm,hb⟩
  refine⟨λe b hb=>?_,λe e' b c ar hb jL=>?_⟩
  . rcases ge e b hb with ⟨k1,k2⟩|⟨_,gd⟩
    .rw[k1,k2];exact⟨_,.refl _,.inr hp⟩
    .exact r (h.pow e b gd)
  . rcases ge e b hb with ⟨k1,k2⟩|⟨h1,gd⟩
    . rcases ge e' c jL with ⟨l1,l2⟩|⟨h2,gY⟩
      .omega
      . rw[k2]
        rcases hc e' c gY with h3|h3
        .exact .inr ⟨_,.refl _,.inr h3⟩
        .exact .inl ⟨_,.refl _,.inr h3⟩
    . rcases ge e' c jL with ⟨l1,l2⟩|⟨h2,gY⟩
      . rw[l2]
        rcases hc e b gd with h3|h3
        .exact .inl ⟨_,.refl _,.inr h3⟩
        .exact .inr ⟨_,.refl _,.inr h3⟩
      .exact(h.com e e' b c ar gd gY).imp r r
section
variable(s:Shp O P C)(F:Full O P C O.length)(hC:Cent O C)
include s F hC
theorem zKF(hx:gS O x):∃E:Nat,0<E/\pw (gm O P C) (zv O) x E=zv O:=by
 have M:=F.g.toMon
 have:∀t,t<=O.length->∃E:Nat,0<E/\TT O t (pw (gm O P C) (zv O) x E):=by
  intro t
  induction t with
  |zero=>intro _;exact⟨1,by omega,by rw[M.pw_one hx];exact hx⟩
  |succ t ih=>
   intro ht;obtain⟨E,h1,h2⟩:=ih (by omega);have hO:=s.pr t (by omega);refine⟨E*(at_ O t).toNat,Nat.mul_pos h1 (by omega),?_⟩;rw[M.pw_mul hx];exact zKK s F hC (by omega) h2
 obtain⟨E,h1,h2⟩:=this O.length (vM _);exact⟨E,h1,h2.ext (s.zv _) λj h1 h2=>by omega⟩
theorem QA(inS:∀x,N x->gS O x)(one:N (zv O))(cl:∀x y,N x->N y->N (gm O P C x y)):gB O P C N:=by
 have G:=F.g;have D0:∀{x},N x->∀k,N (pw (gm O P C) (zv O) x k):=λ{x} hx k=>by
  induction k with
  |zero=>exact one
  |succ k ih=>exact cl _ _ ih hx
 refine⟨λh=>inS _ h,one,λh g=>cl _ _ h g,λ{x} hx=>?_⟩;obtain⟨E,h1,h2⟩:=zKF s F hC (inS x hx);have e:pw (gm O P C) (zv O) x (E-1)=ginv (gS O) (gm O P C) (zv O) x:=by
  refine G.inv_eq (inS x hx) (inS _ (D0 hx _)) ?_
  have:=G.pw_comm (inS x hx) (E-1)
  rw[<-this];rw[show E=(E-1)+1 by omega]at h2;exact h2
 rw[<-e];exact D0 hx _
def HD(O:V1)(P:V2)(C:V3)(D:List (Option V1))(t:Nat)(x:V1):Prop:=TT O t x/\Rdu O P C D x (zv O)
omit hC in
theorem HD.row(ok:OkD O D)(hb:D[d]? = some (some b))(hd:d<O.length):HD O P C D d b:=by
 have M:=F.g.toMon;obtain⟨h1,h2⟩:=ok.row d b hb;have oF:gS O b:=h1.mono (Nat.zero_le _);refine⟨h1,.left (j:=1) hd hb h1 (by rw[h2];decide) (s.zv _) ?_ (.refl _)⟩;rw[M.pw_one oF];exact(M.r1 oF).symm
theorem HD.nn(hn:D[t]? = some none)(h:HD O P C D t x):HD O P C D (t+1) x:=by
 obtain⟨h1,h2⟩:=h;refine⟨?_,h2⟩;have key:∀{d:Nat} {b:V1},D[d]? = some (some b)->TT O d x->at_ x d≠0->TT O (t+1) x:=λ{d b} hb hx h0=>by
  rcases Nat.lt_trichotomy d t with h|h|h
  .exact absurd (h1.zero d h) h0
  .rw[h,hn]at hb;cases hb
  .exact hx.mono h
 cases h2 with
 |refl=>exact s.zv _
 |left hd hb hx h0 df e r=>exact key hb hx h0
 |right hd hb hx h0 df e r=>exact key hb hx h0
theorem HD.cnjb(ok:OkD O D)(q:QI O P C D [])(ht:t<O.length)(hb:D[t]? = some (some b))(hs:gB O P C (HD O P C D (t+1))):∀{x z:V1},Rdu O P C D x z->z=zv O->TT O (t+1) x->HD O P C D (t+1) (cnj (gS O) (gm O P C) (zv O) x b):=by
 have G:=F.g;have bS:gS O b:=(ok.row t b hb).1.mono (Nat.zero_le _);have cm:∀{x y:V1},gS O x->gS O y->cnj (gS O) (gm O P C) (zv O) (gm O P C x y) b=gm O P C (cnj (gS O) (gm O P C) (zv O) x b) (cnj (gS O) (gm O P C) (zv O) y b):=λ{x y} hx hy=>by
  have c1:=G.cnj_in hx bS;have c2:=G.cnj_in hy bS;refine(G.cnj_eq (G.cl hx hy) bS (G.cl c1 c2) ?_).symm;rw[<-G.as bS c1 c2,G.cnj_spec hx bS,G.as hx bS c2,G.cnj_spec hy bS,<-G.as hx hy bS]
 have xJ:cnj (gS O) (gm O P C) (zv O) (zv O) b=zv O:=G.cnj_one bS;have F6:∀{c:V1},gS O c->HD O P C D (t+1) (cnj (gS O) (gm O P C) (zv O) c b)->∀j,HD O P C D (t+1) (cnj (gS O) (gm O P C) (zv O) (pw (gm O P C) (zv O) c j) b):=λ{c} hc h j=>by
  induction j with
  |zero=>show HD O P C D (t+1) (cnj _ _ _ (zv O) b);rw[xJ];exact hs.one
  |succ j ih=>
   show HD O P C D (t+1) (cnj _ _ _ (gm O P C _ c) b);rw[cm (G.pw hc j) hc];exact hs.cl ih h
 have row:∀{d:Nat} {c:V1},t+1<=d->d<O.length->D[d]? = some (some c)->gS O c/\HD O P C D (t+1) (cnj (gS O) (gm O P C) (zv O) c b):=λ{d c} h1 h2 hc=>by
  have cT:=(ok.row d c hc).1;have cS:gS O c:=cT.mono (Nat.zero_le _);refine⟨cS,?_⟩;rw[<-G.cnj_com cS bS];have E7:=HD.row s F ok hc h2;have Fa:HD O P C D (t+1) c:=⟨E7.1.mono h1,E7.2⟩;refine hs.cl Fa ?_;have hN:=zDj s F hC (t:=t+1) (by omega);have T1:TT O (t+1) (gcom O P C c b):=NSub.com_in G hN Fa.1 bS;have e0:∀{w},RQ O P C D [] w->Rdu O P C D w (zv O):=λ⟨z,h1,h2⟩=>by
   rcases h2 with rfl|h2
   .exact h1
   .cases h2
  rcases q.com t d b c (by omega) hb hc with h3|h3
  .have GP:gcom O P C b c=ginv (gS O) (gm O P C) (zv O) (gcom O P C c b):=G.com_swap' cS bS;have GO:gcom O P C c b=ginv (gS O) (gm O P C) (zv O) (gcom O P C b c):=G.com_swap' bS cS;have T2:TT O (t+1) (gcom O P C b c):=by rw[GP];exact hN.inv T1
   have T3:HD O P C D (t+1) (gcom O P C c b):=by rw[GO];exact hs.inv ⟨T2,e0 h3⟩
   exact T3
  .exact⟨T1,e0 h3⟩
 intro x z h
 induction h with
 |refl x=>rintro rfl hx;rw[xJ];exact hs.one
 | @left d j c x x' z hd hc hx h0 df e r ih=>
  intro hz hT;have nv:t+1<=d:=by
   rcases Nat.lt_or_ge d (t+1)with h|h
   .exact absurd (hT.zero d h) h0
   .exact h
  obtain⟨r1,r2⟩:=row nv hd hc;have pI:gS O x':=df.mono (Nat.zero_le _);rw[e,cm (G.pw r1 j) pI];exact hs.cl (F6 r1 r2 j) (ih hz (df.mono (by omega)))
 | @right d j c x x' z hd hc hx h0 df e r ih=>
  intro hz hT;have nv:t+1<=d:=by
   rcases Nat.lt_or_ge d (t+1)with h|h
   .exact absurd (hT.zero d h) h0
   .exact h
  obtain⟨r1,r2⟩:=row nv hd hc;have pI:gS O x':=df.mono (Nat.zero_le _);rw[e,cm pI (G.pw r1 j)];exact hs.cl (ih hz (df.mono (by omega))) (F6 r1 r2 j)
theorem HD.sub(ok:OkD O D)(q:QI O P C D []):∀k t,t+k=O.length->gB O P C (HD O P C D t)
 |0,t,ht=>by
  have hz:∀x,HD O P C D t x->x=zv O:=λx hx=>hx.1.ext (s.zv _) λj h1 h2=>by omega
  have h0:HD O P C D t (zv O):=⟨s.zv _,.refl _⟩;refine QA s F hC (λx hx=>hx.1.mono (Nat.zero_le _)) h0 λx y hx hy=>?_;rw[hz x hx,hz y hy,F.g.l1 F.g.one];exact h0
 |k+1,t,ht=>by
  have ih:=HD.sub ok q k (t+1) (by omega);have G:=F.g;have gu:t<O.length:=by omega
  have Kn:t<D.length:=by rw[ok.len];exact gu
  rcases hD:D[t]? with _|_|b
  .rw[List.getElem?_eq_getElem Kn]at hD;cases hD
  .refine QA s F hC (λx hx=>hx.1.mono (Nat.zero_le _)) ⟨s.zv _,.refl _⟩ λx y hx hy=>?_
   have:=ih.cl (HD.nn s F hC hD hx) (HD.nn s F hC hD hy)
   exact⟨this.1.mono (by omega),this.2⟩
  .obtain⟨bT,b1⟩:=ok.row t b hD;have bS:gS O b:=bT.mono (Nat.zero_le _);have inS:∀{x},HD O P C D (t+1) x->gS O x:=λh=>h.1.mono (Nat.zero_le _)
   -- tD of a nO of b and a AS behind
   have mk:∀(j:Nat) {h:V1},HD O P C D (t+1) h->HD O P C D t (gm O P C (pw (gm O P C) (zv O) b j) h):=λj {h} hh=>by
    obtain⟨p1,p2⟩:=zAR s F hC gu bT j;have hN:=zDj s F hC (t:=t) (by omega);have MA:=inS hh;have T:=hN.cl p1 (hh.1.mono (Nat.le_succ _));refine⟨T,?_⟩;obtain⟨_,g2⟩:=Zf s (d:=O.length) (b:=pw (gm O P C) (zv O) b j) (a:=h) (t:=t) (vM _) (by omega) gu (by rw[Nat.sub_self];exact p1.mono (Nat.zero_le _)) (hh.1.mono (Nat.le_succ _));have hO:=s.pr t gu;have e2:at_ (gm O P C (pw (gm O P C) (zv O) b j) h) t=(j:Int) % at_ O t:=by
     show at_ (mu O P C O.length _ _) t=_;rw[g2,zCo (p1.bd t gu) (hh.1.bd t gu),hh.1.zero t (Nat.lt_succ_self _),p2,b1,Int.mul_one,Int.add_zero,Int.emod_emod_of_dvd _ (Int.dvd_refl _)]
    by_cases h0:(j:Int) % at_ O t=0
    .obtain⟨r,hr⟩:=Int.dvd_of_emod_eq_zero h0;have iF:0<=r:=by
      rcases Int.lt_or_le r 0 with h|h
      .have:=Int.mul_neg_of_pos_of_neg (show 0<at_ O t by omega) h;omega
      .exact h
     have ej:j=(at_ O t).toNat*r.toNat:=by
      have:((j:Nat):Int)=(((at_ O t).toNat*r.toNat:Nat):Int):=by rw[Int.natCast_mul,Int.toNat_of_nonneg iF,Int.toNat_of_nonneg (by omega),hr]
      omega
     have hp:HD O P C D (t+1) (pw (gm O P C) (zv O) b (at_ O t).toNat):=by
      refine⟨zKK s F hC gu bT,?_⟩;obtain⟨z,h1,h2⟩:=q.pow t b hD;rcases h2 with rfl|h2
      .exact h1
      .cases h2
     rw[ej,G.pw_mul bS];exact(ih.cl (ih.pw hp r.toNat) hh).2
    .exact .left gu hD T (by rw[e2];exact h0) hh.1 rfl hh.2
   have mv:∀(j:Nat) {h:V1},HD O P C D (t+1) h->∃h',HD O P C D (t+1) h'/\gm O P C h (pw (gm O P C) (zv O) b j)=gm O P C (pw (gm O P C) (zv O) b j) h':=λj=>by
    induction j with
    |zero=>exactλ{h} hh=>⟨h,hh,by show gm O P C h (zv O)=gm O P C (zv O) h;rw[G.r1 (inS hh),G.l1 (inS hh)]⟩
    |succ j ij=>
     intro h hh;obtain⟨h1,a1,a2⟩:=ij hh;have a3:=HD.cnjb s F hC ok q gu hD ih a1.2 rfl a1.1;refine⟨_,a3,?_⟩;have B3:=G.pw bS j;show gm O P C h (gm O P C (pw (gm O P C) (zv O) b j) b)=gm O P C (gm O P C (pw (gm O P C) (zv O) b j) b) _;rw[<-G.as (inS hh) B3 bS,a2,G.as B3 (inS a1) bS,G.as B3 bS (inS a3),G.cnj_spec (inS a1) bS]
   have split:∀{x},HD O P C D t x->∃j h,HD O P C D (t+1) h/\x=gm O P C (pw (gm O P C) (zv O) b j) h:=λ{x} hx=>by
    obtain⟨hT,hr⟩:=hx;have deep:∀{d},TT O d x->at_ x d≠0->d≠t->TT O (t+1) x:=λ{d} h1 h0 ar=>by
     rcases Nat.lt_trichotomy d t with h|h|h
     .exact absurd (hT.zero d h) h0
     .exact absurd h ar
     .exact h1.mono h
    have triv:TT O (t+1) x->Rdu O P C D x (zv O)->∃j h,HD O P C D (t+1) h/\x=gm O P C (pw (gm O P C) (zv O) b j) h:=λh1 h2=>⟨0,x,⟨h1,h2⟩,(G.l1 (h1.mono (Nat.zero_le _))).symm⟩
    have iF:=hr;cases hr with
    |refl=>exact triv (s.zv _) (.refl _)
    | @left d j c _ x' _ hd hc h1 h0 df e r=>
     by_cases nv:d=t
     .subst nv;rw[hD]at hc;cases hc;exact⟨j,x',⟨df,r⟩,e⟩
     .exact triv (deep h1 h0 nv) iF
    | @right d j c _ x' _ hd hc h1 h0 df e r=>
     by_cases nv:d=t
     .subst nv;rw[hD]at hc;cases hc;obtain⟨h',a1,a2⟩:=mv j (show HD O P C D (d+1) x' from⟨df,r⟩);exact⟨j,h',a1,by rw[e,a2]⟩
     .exact triv (deep h1 h0 nv) iF
   refine QA s F hC (λx hx=>hx.1.mono (Nat.zero_le _)) ⟨s.zv _,.refl _⟩ λx y hx hy=>?_;obtain⟨j,h,a1,rfl⟩:=split hx;obtain⟨j',h',a2,rfl⟩:=split hy;obtain⟨h2,a3,a4⟩:=mv j' a1;have p1:=G.pw bS j;have p2:=G.pw bS j';have e:gm O P C (gm O P C (pw (gm O P C) (zv O) b j) h) (gm O P C (pw (gm O P C) (zv O) b j') h')=gm O P C (pw (gm O P C) (zv O) b (j+j')) (gm O P C h2 h'):=by
    rw[G.as p1 (inS a1) (G.cl p2 (inS a2)),<-G.as (inS a1) p2 (inS a2),a4,G.as p2 (inS a3) (inS a2),<-G.as p1 p2 (G.cl (inS a3) (inS a2)),G.pw_add bS]
   rw[e];exact mk _ (ih.cl a3 a2)
omit hC in
theorem HD.fil(h:HD O P C D t x)(hd:dep x<O.length):∃b,D[dep x]? = some (some b):=by
 obtain⟨h1,h2⟩:=h;have key:∀{d:Nat} {b:V1},D[d]? = some (some b)->TT O d x->at_ x d≠0->∃b,D[dep x]? = some (some b):=λ{d b} hb hx h0=>by
  have:dep x=d:=zAr (λj hj=>hx.zero j hj) h0
  rw[this];exact⟨b,hb⟩
 cases h2 with
 |refl=>rw[zHL s]at hd;omega
 |left hd hb hx h0 df e r=>exact key hb hx h0
 |right hd hb hx h0 df e r=>exact key hb hx h0
end
def GC(O:V1)(P:V2)(C:V3)(L:V2)(x:V1):Prop:=∀N,gB O P C N->(∀l∈L,N l)->N x
theorem GC.sub(F:Full O P C O.length)(hL:∀l∈L,gS O l):gB O P C (GC O P C L):=
 ⟨λh=>h _ F.g.wholeB hL,λN hN _=>hN.one,λh g N hN hl=>hN.cl (h N hN hl) (g N hN hl),λh N hN hl=>hN.inv (h N hN hl)⟩
theorem GC.mem(h:x∈L):GC O P C L x:=λN _ hl=>hl x h
structure CanG(O:V1)(H:V1->Prop)(u:V2):Prop where
 asc:u.Pairwise λa b=>dep a<dep b
 mem:∀v∈u,H v
 one:∀v∈u,gS O v/\dep v<O.length/\at_ v (dep v)=1
 red:∀v∈u,∀w∈u,dep v≠dep w->at_ v (dep w)=0
 all:∀x,H x->dep x<O.length->∃v∈u,dep v=dep x
theorem zIq:∀{u u':V2},(u.Pairwise λa b=>dep a<dep b)->(u'.Pairwise λa b=>dep a<dep b)->(∀v,v∈u↔v∈u')->u=u'
 |[],[],_,_,_=>rfl
 |[],v::u',_,_,h=>by have:=(h v).2 (by simp);cases this
 |v::u,[],_,_,h=>by have:=(h v).1 (by simp);cases this
 |v::u,w::u',h1,h2,h=>by
  rw[List.pairwise_cons]at h1 h2;have e:v=w:=by
   rcases List.mem_cons.1 ((h v).1 (by simp))with e|e
   .exact e
   .rcases List.mem_cons.1 ((h w).2 (by simp))with e'|e'
    .exact e'.symm
    .have:=h2.1 v e;have:=h1.1 w e';omega
  subst e;rw[zIq h1.2 h2.2 λx=>?_];constructor
  .intro hx;rcases List.mem_cons.1 ((h x).1 (by simp[hx]))with e|e
   .subst e;have:=h1.1 x hx;omega
   .exact e
  .intro hx;rcases List.mem_cons.1 ((h x).2 (by simp[hx]))with e|e
   .subst e;have:=h2.1 x hx;omega
   .exact e
theorem CanG.row_eq(s:Shp O P C)(F:Full O P C O.length)(hH:gB O P C H)(h:CanG O H u)(h':CanG O H u'){v v':V1}(hv:v∈u)(eg:v'∈u')(hd:dep v=dep v'):v=v':=by
 have G:=F.g;obtain⟨a1,a2,a3⟩:=h.one v hv;obtain⟨b1,b2,b3⟩:=h'.one v' eg;have iv:=G.inv_in a1;have hz:H (gm O P C (ginv (gS O) (gm O P C) (zv O) v) v'):=hH.cl (hH.inv (h.mem v hv)) (h'.mem v' eg);have e:gm O P C v (gm O P C (ginv (gS O) (gm O P C) (zv O) v) v')=v':=by rw[<-G.as a1 iv.1 b1,iv.2,G.l1 b1]
 generalize gm O P C (ginv (gS O) (gm O P C) (zv O) v) v'=z at *
 have zS:=hH.inS hz;rcases Nat.lt_or_ge (dep z) O.length with hdz|hdz
 .exfalso;obtain⟨g1,g2⟩:=Zf s (d:=O.length) (b:=v) (a:=z) (t:=dep z) (vM _) (by omega) hdz (by rw[Nat.sub_self];exact a1) (zAg zS);have e':mu O P C O.length v z=v':=e;rw[e']at g1 g2;have ck:at_ z (dep z)≠0:=qa (by rw[zS.len];exact hdz);have nQ:at_ v' (dep z)=at_ v (dep z):=by
   rcases Nat.lt_trichotomy (dep z) (dep v)with h1|h1|h1
   .rw[zY h1,zY (by omega)]
   .rw[h1,a3,hd,b3]
   .obtain⟨w,hw,ew⟩:=h.all z hz hdz;obtain⟨w',mP,Ld⟩:=h'.all z hz hdz;rw[<-ew,h.red v hv w hw (by omega),ew,<-Ld,h'.red v' eg w' mP (by omega)]
  have:=zEy (a1.bd _ hdz) (zS.bd _ hdz) (g2.symm.trans nQ)
  exact ck this
 .rw[zDP zS hdz,G.r1 a1]at e;exact e
theorem CanG.unique(s:Shp O P C)(F:Full O P C O.length)(hH:gB O P C H)(h:CanG O H u)(h':CanG O H u'):u=u':=by
 refine zIq h.asc h'.asc λv=>⟨λhv=>?_,λhv=>?_⟩
 .obtain⟨w,hw,e⟩:=h'.all v (h.mem v hv) (h.one v hv).2.1;rw[h.row_eq s F hH h' hv hw e.symm];exact hw
 .obtain⟨w,hw,e⟩:=h.all v (h'.mem v hv) (h'.one v hv).2.1;rw[h'.row_eq s F hH h hv hw e.symm];exact hw
theorem CanG.len(h:CanG O H u):u.length<=O.length:=by
 have:(u.map dep).Pairwise (· < ·):=by rw[List.pairwise_map];exact h.asc
 have key:∀(l:List Nat) (m:Nat),l.Pairwise (· < ·)->(∀x∈l,m<=x/\x<O.length)->l.length+m<=O.length\/l=[]:=by
  intro l
  induction l with
  |nil=>intro m _ _;exact .inr rfl
  |cons a l ih=>
   intro m h1 h2;rw[List.pairwise_cons]at h1;have ha:=h2 a (by simp);rcases ih (a+1) h1.2 (λx hx=>⟨h1.1 x hx,(h2 x (by simp[hx])).2⟩)with h3|h3
   .left;simp only[List.length_cons];omega
   .subst h3;left;simp;omega
 rcases key _ 0 this (λx hx=>by
  obtain⟨v,hv,rfl⟩:=List.mem_map.1 hx;exact⟨Nat.zero_le _,(h.one v hv).2.1⟩)with h1|h1
 .simpa using h1
 .rw[List.map_eq_nil_iff]at h1;subst h1;simp
theorem GC.table(s:Shp O P C)(F:Full O P C O.length)(hC:Cent O C)(ok:OkD O D)(q:QI O P C D [])(h:∀N,gB O P C N->(InD N D↔∀l∈L,N l)):∀x,GC O P C L x↔HD O P C D 0 x:=by
 have hs:=HD.sub s F hC ok q O.length 0 (by omega);intro x;constructor
 .intro hx;refine hx _ hs ((h _ hs).1 λd b hb=>?_);have hd:d<O.length:=by
   rw[<-ok.len];rcases Nat.lt_or_ge d D.length with h|h
   .exact h
   .rw[List.getElem?_eq_none h]at hb;cases hb
  have:=HD.row s F ok hb hd
  exact⟨this.1.mono (Nat.zero_le _),this.2⟩
 .intro hx N hN hl;exact(hx.2.iff F hN ((h N hN).2 hl)).2 hN.one
structure CanD(O:V1)(P:V2)(C:V3)(D:List (Option V1))(u:V2):Prop where
 one:∀v∈u,gS O v/\dep v<O.length/\at_ v (dep v)=1
 asc:u.Pairwise λa b=>dep a<dep b
 red:∀v∈u,∀w∈u,dep v≠dep w->at_ v (dep w)=0
 all:∀(d:Nat) (y:V1),D[d]? = some (some y)->∃v∈u,dep v=d
 len:u.length<=O.length
 iff:∀N,gB O P C N->((∀x∈u,N x)↔InD N D)
theorem CanD.can(s:Shp O P C)(F:Full O P C O.length)(hC:Cent O C)(ok:OkD O D)(q:QI O P C D [])(cd:CanD O P C D u)(h:∀N,gB O P C N->(InD N D↔∀l∈L,N l)):CanG O (GC O P C L) u:=
 ⟨cd.asc,λv hv N hN hl=>(cd.iff N hN).2 ((h N hN).2 hl) v hv,cd.one,cd.red,λx hx hd=>by
  obtain⟨b,hb⟩:=HD.fil s F ((GC.table s F hC ok q h x).1 hx) hd;exact cd.all _ b hb⟩
section
variable(s:Shp O P C)(F:Full O P C O.length)(hC:Cent O C)
include s F hC
theorem zQu(hb:gS O b)(k:Nat):∃j,gm O P C (pw (gm O P C) (zv O) b j) (pw (gm O P C) (zv O) b k)=zv O/\gm O P C (pw (gm O P C) (zv O) b k) (pw (gm O P C) (zv O) b j)=zv O:=by
 have M:=F.g.toMon;obtain⟨E,h1,h2⟩:=zKF s F hC hb;have e:pw (gm O P C) (zv O) b (E*k)=zv O:=by rw[M.pw_mul hb,h2,M.pw_e]
 have hle:k<=E*k:=Nat.le_mul_of_pos_left k h1;refine⟨E*k-k,?_,?_⟩
 .rw[<-M.pw_add hb,show E*k-k+k=E*k by omega,e]
 .rw[<-M.pw_add hb,show k+(E*k-k)=E*k by omega,e]
theorem Rdu.stepL(ok:OkD O D)(hb:D[d]? = some (some b))(hd:d<O.length)(hz:TT O d z)(h0:at_ z d≠0)(cG:TT O (d+1) (gm O P C (pw (gm O P C) (zv O) b k) z)):Rdu O P C D z (gm O P C (pw (gm O P C) (zv O) b k) z):=by
 have G:=F.g;have bS:gS O b:=(ok.row d b hb).1.mono (Nat.zero_le _);have zS:gS O z:=hz.mono (Nat.zero_le _);obtain⟨j,h1,h2⟩:=zQu s F hC bS k;refine .left (j:=j) hd hb hz h0 cG ?_ (.refl _);rw[<-G.as (G.pw bS j) (G.pw bS k) zS,h1,G.l1 zS]
theorem Rdu.stepR(ok:OkD O D)(hb:D[d]? = some (some b))(hd:d<O.length)(hz:TT O d z)(h0:at_ z d≠0)(hw:gS O x)(hx:gm O P C x (pw (gm O P C) (zv O) b k)=z)(df:TT O (d+1) x):Rdu O P C D z x:=
 .right (j:=k) hd hb hz h0 df hx.symm (.refl _)
end
end Go.Grp
namespace Go.Proofs
open Go.Ab Go.Lie Go.Grp
variable{σ:PHeap}{K:PV->PHeap->Prop}{O:V1}{P:V2}{C:V3}{vO vP vC vx va:PV}{x y a:V1}{rb:List PV}{D:List (Option V1)}{d sp ss sb n:Nat}
structure SeqG(σ:PHeap)(ss sb sp:Nat)(n:Nat)(rb:List PV)(vO vP vC:PV):Prop where
 obj:σ.obj ss=some [.ptr sp 0,.sl sb 0 n (.known n)]
 lt:ss<σ.next
 bobj:σ.obj sb=some rb
 blt:sb<σ.next
 pg:PtrG σ sp vO vP vC
 ne1:ss≠sb
 ne2:sp≠sb
theorem SeqG.keep{h:PHeap}(q:SeqG σ ss sb sp n rb vO vP vC)(hk:Keep σ h):SeqG h ss sb sp n rb vO vP vC:=
 ⟨by rw[hk.obj _ q.lt];exact q.obj,Nat.lt_of_lt_of_le q.lt hk.next,by rw[hk.obj _ q.blt];exact q.bobj,Nat.lt_of_lt_of_le q.blt hk.next,q.pg.keep hk,q.ne1,q.ne2⟩
theorem SeqG.setB(q:SeqG σ ss sb sp n rb vO vP vC)(rb':List PV):SeqG (σ.set sb rb') ss sb sp n rb' vO vP vC:=
 ⟨by rw[zH,if_neg q.ne1];exact q.obj,q.lt,by rw[zH,if_pos rfl],q.blt,q.pg.set q.ne2 _,q.ne1,q.ne2⟩
def DRow(n:Nat)(c:PV)(r:Option V1):Prop:=(c=.fz true .nils 0 []/\r=none)\/∃o cap y,c=.fz true (.sl o 0 n cap) n (pis y)/\r=some y
theorem DRow.bel{c:PV}{r:Option V1}(h:DRow n c r):Bel 0 c:=by
 rcases h with ⟨rfl,_⟩|⟨_,_,_,rfl,_⟩<;>trivial
theorem DRow.bels{rb:List PV}{D:List (Option V1)}(h:All2 (DRow n) rb D)(m:Nat):Bels m rb:=by
 refine zE2.2 λc hc=>?_;obtain⟨k,hk,rfl⟩:=List.mem_iff_getElem.1 hc;exact(DRow.bel (h.2 k _ _ (List.getElem?_eq_getElem hk) (List.getElem?_eq_getElem (by rw[<-h.1];exact hk)))).up (Nat.zero_le _)
theorem DRow.get{rb:List PV}{D:List (Option V1)}(h:All2 (DRow n) rb D){d:Nat}(hd:d<D.length):(rb[d]? = some (.fz true .nils 0 [])/\D[d]? = some none)\/∃o cap y,rb[d]? = some (.fz true (.sl o 0 n cap) n (pis y))/\D[d]? = some (some y):=by
 have hb:d<rb.length:=by rw[h.1];exact hd
 rw[List.getElem?_eq_getElem hb,List.getElem?_eq_getElem hd];rcases h.2 d _ _ (List.getElem?_eq_getElem hb) (List.getElem?_eq_getElem hd)with ⟨e1,e2⟩|⟨o,cap,y,e1,e2⟩
 .exact .inl ⟨by rw[e1],by rw[e2]⟩
 .exact .inr ⟨o,cap,y,by rw[e1],by rw[e2]⟩
theorem DRow.put{rb:List PV}{D:List (Option V1)}(h:All2 (DRow n) rb D){o d:Nat}{cap:Cap}:All2 (DRow n) (rb.set d (.fz true (.sl o 0 n cap) n (pis y))) (D.set d (some y)):=by
 refine⟨by rw[List.length_set,List.length_set];exact h.1,λk c r hc hr=>?_⟩;rw[List.getElem?_set]at hc hr;by_cases e:d=k
 .rw[if_pos e]at hc hr;split at hc
  .split at hr
   .cases hc;cases hr;exact .inr ⟨o,cap,y,rfl,rfl⟩
   .cases hr
  .cases hc
 .rw[if_neg e]at hc hr;exact h.2 k c r hc hr
theorem zOG(s:Shp O P C)(F:Full O P C O.length)(hn:0<O.length)(hs:PtrG σ sp vO vP vC)(hR:IsPr vO vP vC O P C)(ha:gS O a)(dD:FI va a){k:Int}(eC:0<=k/\k<=1000000)(hk:∀o cap,K (.fz true (.sl o 0 O.length cap) O.length (pis (Grp.pw (gm O P C) (zv O) a k.toNat))) σ):
  zA Tryz.prog 158 [.ptr sp 0,va,.int .i64 k] σ K:=by
 have hlen:=(F.g.pw ha k.toNat).len;refine zA.gh (zHl s F hs hR (by rw[Nat.sub_self];exact ha) dD eC ⟨λh0=>?_,λcap hc=>?_⟩)
 .rw[h0]at hlen;simp at hlen;omega
 .rw[hlen]at hc ⊢;exact Gh.finF (zC σ _) (by simp[PHeap.new]) (vM _) (zL _ _) hc.ok λo=>hk o cap
theorem zPR(s:Shp O P C)(F:Full O P C O.length)(hC:Cent O C)(hq:SeqG σ ss sb sp O.length rb vO vP vC)(hR:IsPr vO vP vC O P C)(hD:OkD O D)(bD:All2 (DRow O.length) rb D)(hx:gS O x)(aX:FI vx x)
  (hk:∀v z,FI v z->gS O z->(dep z<O.length->D[dep z]? = some none)->Rdu O P C D x z->K v σ):zA Tryz.prog 279 [.ptr ss 0,vx] σ K:=by
 have aN:=s.le;obtain⟨wx,ax,rfl⟩:=aX;have aW:=hx.len;have r0:σ.rd1 ss 0=some (.ptr sp 0):=by rw[zI hq.obj];rfl
 have r1:σ.rd1 ss 1=some (.sl sb 0 O.length (.known O.length)):=by rw[zI hq.obj];rfl
 have aJ:=hR;obtain⟨⟨w0,a0,rfl⟩,_,_⟩:=hR;have e0:σ.rd1 sp 0=some (.fz w0 a0 O.length (pis O)):=by rw[zI hq.pg.obj];rfl
 refine zN mix Tryz.func279 cf279 rfl ?_;dsimp only[if279,qD,eD,mI0,lI0,xI0,bI0,cI0,sI0,C1,mD0,lD0,fD0,xD0,pD0,G0,gm0,aI0,zI0,R0,S0];simp only[Z3,seval,-ae];refine zAG rfl (by omega) ?_;simp only[Z3,seval,-ae];refine zG (λm vs h'=>∃z w a,m=O.length-dep z/\vs=[.ptr ss 0,.fz w a O.length (pis z),.int .i64 (dep z)]/\σ=h'/\gS O z/\Rdu O P C D x z) _ ⟨x,wx,ax,rfl,by rw[aW];rfl,rfl,hx,.refl _⟩ ?_
 rintro m vs h' ⟨z,w,a,rfl,rfl,rfl,hz,hN⟩
 have dQ:=hz.len;by_cases hd:dep z<O.length
 .have bM:=zI hq.bobj (dep z);have hdz:dep z<z.length:=by omega
  have bz:=hz.bd _ hd;have bO:=s.pr _ hd;rw[at_eq hdz]at bz;rw[at_eq hd]at bz bO;rcases DRow.get bD (d:=dep z) (by rw[hD.len];exact hd)with ⟨e1,e2⟩|⟨o,cap,y,e1,e2⟩
  .rw[e1]at bM;simp only[Z3,seval,-ae,hd,r1,bM];exact hk _ z ⟨w,a,by rw[dQ]⟩ hz (λ_=>e2) hN
  .rw[e1]at bM;obtain⟨y1,y2⟩:=hD.row _ _ e2;have ew:IntKind.i64.wrap (O[dep z] - z[dep z])=O[dep z] - z[dep z]:=wrap64 (by omega) (by omega);simp only[Z3,seval,-ae,hd,r0,r1,bM,e0,zU,gi hd,gi hdz,ew];refine zEY s F hq.pg aJ (by rw[Nat.sub_self];exact y1.mono (Nat.zero_le _)) ⟨true,_,by rw[y1.len]⟩ (by omega) λv1 f1=>?_;simp only[Z3,seval,-ae,hd,r0,r1,bM,e0];have g1:gS O (Grp.pw (gm O P C) (zv O) y (O[dep z] - z[dep z]).toNat):=F.g.pw (y1.mono (Nat.zero_le _)) _;refine zBy s F hq.pg aJ (by rw[Nat.sub_self];exact g1) (by rw[Nat.sub_self];exact hz) f1 ⟨w,a,by rw[dQ]⟩ λv2 f2=>?_;have cW:=zGa s F hC hd (zAg hz) y1 y2;rw[at_eq hd,at_eq hdz]at cW;have cf:gS O (mu O P C O.length (Grp.pw (mu O P C O.length) (zv O) y (O[dep z] - z[dep z]).toNat) z):=F.g.cl g1 hz;have ck:at_ z (dep z)≠0:=qa (by omega);have yI:Rdu O P C D x (mu O P C O.length (Grp.pw (mu O P C O.length) (zv O) y (O[dep z] - z[dep z]).toNat) z):=hN.trans (Rdu.stepL s F hC hD e2 hd (zAg hz) ck cW);have uF:TT O (dep z+1) (mu O P C O.length (Grp.pw (mu O P C O.length) (zv O) y (O[dep z] - z[dep z]).toNat) z):=cW;generalize mu O P C O.length (Grp.pw (mu O P C O.length) (zv O) y (O[dep z] - z[dep z]).toNat) z=z' at *
   have aG:=dep_ge uF (by omega);have bu:=cf.len;have h0:z'[dep z]'(by omega)=0:=by
    have:=uF.zero (dep z) (Nat.lt_succ_self _)
    rwa[at_eq (by omega)]at this
   obtain⟨w2,a2,rfl⟩:=f2;simp only[Z3,seval,-ae,bu,hd,zU,gi (show dep z<z'.length by omega),h0];refine zAG bu.symm (by omega) ?_;simp only[Z3,seval,-ae];exact⟨_,by omega,z',w2,a2,rfl,rfl,cf,yI⟩
 .have dY:dep z=O.length:=by have:=Zz z;omega
  simp only[Z3,seval,-ae,dY,Nat.lt_irrefl];exact hk _ z ⟨w,a,by rw[dQ]⟩ hz (λh=>by omega) hN
end Go.Proofs
