/- . -/
import Derived.Test.YtnfnaniemocleaaGreatQP6
import Derived.Test.YtnfnaniemocleaaGreatQAbPa
import Derived.Test.YtnfnaniemocleaaGreatRows
import Derived.Lib.SmallJoins
import Derived.WalkKit
import Derived.ProofKit
set_option linter.all false
set_option linter.defProp false
open Go.IntKind renaming wrap->Lp
open List renaming length->Lu
open Go.Proofs.Tryz renaming prog->Li
open Bool renaming false_eq_true->EB,true->DF
open Int renaming add_mul_emod_self_right->KE,dvd_of_emod_eq_zero->Iq,emod_add_emod->IP,emod_add_mul_ediv->I2,mul_ediv_add_emod->IQ,mul_le_mul->HI,pow_pos->Ht,pow_succ->HN,toNat_natCast->Fs,zero_emod->IL
open List renaming all_cons->Ej,all_eq_true->D2,all_nil->Em,getElem_cons_zero->Kd,length->F6,mem_filter->F8,nodup_append->FQ,nodup_nil->FK,range->DO,range_succ->Ia,replicate->Ep,zipWith->FD
open Nat renaming eq_zero_or_pos->F4,min_eq_left->Hl,mul_le_mul->Kq,mul_one->Fe,ne_of_lt->Ev,sub_zero->Ed
open Option renaming map_some->EF,some->Dc
open True renaming intro->DJ
open Int renaming reduceNatCast'->ae
set_option maxRecDepth 100000
namespace Go.Proofs
open Go.Ab Go.Lie Go.Grp
variable{rC rP:List PV}{d j n sp:Nat}{σ:cg}{vC vL vO vP vU vV vx vy vz:PV}{K:PV->cg->Prop}{O a w' x y z:V1}{L P u v xs z':V2}{C:V3}
section
variable{g:V1}{sb:Nat}
def vF.cent(s:jl O P C)(h:vF O C):sc O C:=λi j E I=>by
 obtain⟨_,H⟩:=h i af;have D:=s.cj i j E I;have l:=H (j-i-1) af;unfold cenE at l;rw[show i+(1+(j-i-1))=j by omega]at l;refine⟨⟨D.len,D.bd,λt M=>?_⟩,l.1⟩;have J:t<(du C i j).length:=by rw[D.len];omega
 rw[dp J];exact l.2 _ (by rw[UB];exact⟨t,af,rfl⟩)
def zFQ(i:Nat):((DO (i+1)).map (Grp.unit O))=((DO i).map (Grp.unit O))++[Grp.unit O i]:=by
 rw[Ia,Yx];rfl
def zIp(s:jl O P C)(hs:jh σ sp vO vP vC)(R:dU vO vP vC O P C)(S:∀v,jj v (ZP O)->K v σ):zA Li 191 [.ptr sp 0] σ K:=by
 have Y:=s.le;obtain⟨⟨V,J,rfl⟩,_,_⟩:=R;have H:∀{h:cg},cT σ h->h.dR sp 0=Dc (.fz V J (Lu O) (cS O)):=λk=>by rw[zH (hs.cf k).bt];rfl
 refine Lh Tryz.func191 ?_;simp only[Z3,seval,-ae,H (cT.refl σ)];refine zF (λm vs h'=>∃(i:Nat) (v:PV) (rows:List PV),i<=Lu O/\m=Lu O-i/\vs=[.ptr sp 0,v,.int .i64 (Lu O),.int .i64 i]/\cT σ h'/\ei σ.aM 1 h' v i rows/\dd FI rows ((DO i).map (Grp.unit O))) (Lu O) ?_ ?_
 .exact⟨0,_,[],af,af,rfl,cT.refl σ,ei.nil _ _ _,dd.nil _⟩
 rintro m vs h' ⟨i,v,rows,hi,rfl,rfl,D,I,l⟩
 refine Lk ?_;refine Ll (λX=>?_) λZ=>?_
 .have aU:i=Lu O:=af
  subst aU;exact I.fin D (l.bI 0) λa=>S _ ⟨DF,a,rows,by unfold ZP;rw[YF,U0],l⟩
 have E:i<Lu O:=af
 simp only[Z3,seval,-ae,H D];refine zm af E λM=>?_;refine Lk ?_;refine ei.push (bytes:=24) D I af af λU h2 T Q=>?_;simp only[Z3,seval,-ae,WX E];refine⟨_,af,i+1,U,_,af,rfl,rfl,T,Q.acc,?_⟩;rw[zFQ];exact l.snoc ⟨DF,M,by simp;rfl⟩
def zIx(s:jl O P C)(hs:jh σ sp vO vP vC)(l:dU vO vP vC O P C)(D:∀v,jj v (ZP O)->K v σ):zA Li 127 [.ptr sp 0] σ K:=by
 refine Lg Tryz.func127 ?_;refine Lk ?_;refine zIp s hs l λv E=>?_;refine Lk ?_;exact D v E
def zDN(s:jl O P C)(F:Full O P C (Lu O))(hC:sc O C)(hp:∀o∈O,jF o)(hs:jh σ sp vO vP vC)(hR:dU vO vP vC O P C)(hU:jj vU u)(hu:∀x∈u,gS O x)(dT:(Lu u)<=100)(hV:jj vV v)(hv:∀x∈v,gS O x)(iq:(Lu v)<=100)
  (hk:∀w z,jj w z->Ones O z->(Lu z)<=Lu O->(∀N,gN O P C N->((∀x∈z,N x)↔∀x∈u,∀y∈v,N (dM O P C x y)))->K w σ):zA Li 129 [.ptr sp 0,vU,vV] σ K:=by
 have aX:=s.le;have G:=F.g;have xw:=hU;have pS:=hV;obtain⟨X,U,D,rfl,jb⟩:=hU;obtain⟨wv,av,H,rfl,fA⟩:=hV;refine Lh Tryz.func129 ?_;refine Lk ?_;refine zF (λm vs h'=>∃(i:Nat) (Q:PV) (rows:List PV) (E:V2),i<=Lu u/\m=Lu u-i/\vs=[.ptr sp 0,.fz X U (Lu u) D,.fz wv av (Lu v) H,Q,.fz X U (Lu u) D,.int .i64 (Lu u),.int .i64 i]/\cT σ h'/\ei σ.aM 1 h' Q (Lu E) rows/\dd FI rows E/\(∀x∈E,gS O x)/\Lu E<=i*Lu v/\∀N,gN O P C N->((∀e∈E,N e)↔∀x∈u.take i,∀y∈v,N (dM O P C x y))) (Lu u) ?_ ?_
 .exact⟨0,_,[],[],af,af,rfl,cT.refl σ,ei.nil _ _ _,dd.nil _,aK,aK,λN l=>aK⟩
 rintro m vs h' ⟨i,Q,rows,E,hi,rfl,rfl,T,Y,S,V,A7,R⟩
 have aR:i*Lu v<=100*100:=Kq af iq;refine Lk ?_;refine Ll (λaG=>?_) λah=>?_
 .have aU:i=Lu u:=af
  subst aU;rw[Yf]at R;have bM:=T.aM;refine Lk ?_;refine zA.frz (s:=h'.aM) (cs:=[.fz X U (Lu u) D,.fz wv av (Lu v) H]) (by simp only[Z3,seval,-ae]) ⟨DJ,DJ,DJ⟩ λo1=>?_;refine Lk ?_;simp only[kq,Go.Ab.sb,gk,decide_true,na,and_self,if_true];refine zNx (M:=[D,H]) ⟨rfl,λk c r Z hr=>?_⟩ ?_ aK (by simp[jb.1,fA.1];omega) λac=>?_
  .match k with
   |0=>cases Z;cases hr;exact⟨X,U,by rw[jb.1]⟩
   |1=>cases Z;cases hr;exact⟨wv,av,by rw[fA.1]⟩
   |k+2=>simp at Z
  .intro c Z;simp only[YH,Ym,or_false]at Z;rcases Z with rfl|rfl
   .exact jb.bI 0
   .exact fA.bI 0
  have AA:[D,H].flatten=D++H:=aK
  have HV:dd FI (D++H) (u++v):=jb.append fA;have fP:cT σ ((h'.bf [.fz X U (Lu u) D,.fz wv av (Lu v) H]).kill h'.aM):=(T.bf _).kill bM;have hB:jj (.fz DF ac (D++H).length (D++H)) (u++v):=⟨DF,ac,_,by rw[HV.1],HV⟩
  have sJ:∀x∈u++v,gS O x:=λx hx=>(YY.1 hx).elim (hu x) (hv x);rw[AA];refine Lk ?_;rcases Y with ⟨rfl,h0,rfl⟩|⟨t,cap,rfl,fT,q2,q3,q4,q5⟩
  .obtain rfl:E=[]:=YU h0;refine zHM s F hC hp (hs.cf fP) hR ⟨DF,.b8,[],rfl,S⟩ V aK hB sJ (by rw[YB];omega) λw z f1 f2 f3 f4=>?_;refine Lk ?_;exact Gh.fin0 fP (f1.bel _) (hk w z f1 f2 f3 λN l=>(f4 N l).trans (R N l))
  .have an:¬t=h'.aM:=af
   refine zA.frz (s:=t) (cs:=rows) (by simp only[Z3,seval,-ae,an];exact q2) (S.bI 0) λo2=>?_;simp only[kq,Go.Ab.sb,fT.ok,and_self,if_true];refine zHM s F hC hp (hs.cf (fP.kill q4)) hR (L:=E) ⟨DF,_,rows,rfl,S⟩ V af hB sJ (by rw[YB];omega) λw z f1 f2 f3 f4=>?_;refine Lk ?_;exact Gh.fin0 (fP.kill q4) (f1.bel _) (hk w z f1 f2 f3 λN l=>(f4 N l).trans (R N l))
 obtain⟨w4,a4,hr⟩:=jb.rowI ah;have cY:=hu _ (YZ ah);simp only[Z3,seval,-ae,ah,hr];refine zF (λm vs I=>∃(q:Nat) (Q:PV) (rows:List PV) (E:V2),q<=Lu v/\m=Lu v-q/\vs=[.ptr sp 0,.fz X U (Lu u) D,.fz wv av (Lu v) H,Q,.fz w4 a4 u[i].length (cS u[i]),.fz X U (Lu u) D,.int .i64 (Lu u),.int .i64 i,.fz wv av (Lu v) H,.int .i64 (Lu v),.int .i64 q]/\cT σ I/\ei σ.aM 1 I Q (Lu E) rows/\dd FI rows E/\(∀x∈E,gS O x)/\Lu E<=i*Lu v+q/\∀N,gN O P C N->((∀e∈E,N e)↔((∀x∈u.take i,∀y∈v,N (dM O P C x y))/\∀y∈v.take q,N (dM O P C u[i] y)))) (Lu v) ?_ ?_
 .exact⟨0,Q,rows,E,af,af,rfl,T,Y,S,V,A7,λN l=>(R N l).trans aK⟩
 clear T Y S V A7 R rows E Q
 rintro m vs I ⟨q,Q,rows,E,hq,rfl,rfl,T,Y,S,V,A7,R⟩
 refine Lk ?_;refine Ll (λpM=>?_) λiO=>?_
 .have jr:q=Lu v:=af
  subst jr;rw[Yf]at R;simp only[Z3,seval,-ae,WX ah];refine⟨_,af,i+1,Q,rows,E,af,rfl,rfl,T,Y,S,V,by rw[Nat.succ_mul];exact A7,λN l=>(R N l).trans ?_⟩;rw[YN ah];simp only[YY,YT];exact⟨λ⟨h1,I⟩ x hx y J=>hx.elim (λh=>h1 x h y J) (λh=>by rw[h];exact I y J),λh=>⟨λx hx y J=>h x (.inl hx) y J,λy J=>h _ (.inr rfl) y J⟩⟩
 obtain⟨w5,a5,py⟩:=fA.rowI iO;have lR:=hv _ (YZ iO);simp only[Z3,seval,-ae,iO,py];refine ZI s F (hs.cf T) hR cY lR ⟨w4,a4,rfl⟩ ⟨w5,a5,rfl⟩ λvc fc=>?_;have GO:=fc;obtain⟨wc,ac,rfl⟩:=fc;refine Lk ?_;refine ei.push (bytes:=24) T Y af af λv' h3 k3 a3=>?_;simp only[Z3,seval,-ae,WX iO];refine⟨_,af,q+1,v',rows++[.fz wc ac (dM O P C u[i] v[q]).length (cS (dM O P C u[i] v[q]))],E++[dM O P C u[i] v[q]],af,rfl,rfl,k3,by rw[YB];exact a3.acc,S.snoc GO,λx hx=>?_,by rw[YB,Yb];omega,λN l=>?_⟩
 .rcases YY.1 hx with hx|hx
  .exact V x hx
  .rw[YT.1 hx];exact G.com_in cY lR
 .rw[YN iO];simp only[YY,YT]
  have:=R N l
  constructor
  .intro h;obtain⟨h1,I⟩:=this.1 λe he=>h e (.inl he);exact⟨h1,λy J=>J.elim (I y) (λe=>by rw[e];exact h _ (.inr rfl))⟩
  .rintro⟨h1,I⟩ e he
   rcases he with he|he
   .exact this.2 ⟨h1,λy J=>I y (.inl J)⟩ e he
   .rw[he];exact I _ (.inr rfl)
def zO3(J:Ones O z')(s:jl O P C)(M:∀N,gN O P C N->((∀x∈z',N x)↔∀x∈u,∀y∈ZP O,N (dM O P C x y))):SStep O P C u z':=by
 refine⟨λx E=>⟨(J x E).1,zPg s (J x E).2.1⟩,λx=>?_⟩;have e:∀N,gN O P C N->((∀l,sG z' l->N l)↔∀l,cs O P C (sG u) l->N l):=λN h=>(M N h).trans ⟨λD l Q=>by
  obtain⟨x,i,E,I,rfl⟩:=Q;exact D x E _ (YI.2 ⟨i,UC.2 I,rfl⟩),λD x E y R=>by
  obtain⟨i,I,rfl⟩:=YI.1 R;exact D _ ⟨x,i,E,UC.1 I,rfl⟩⟩
 exact⟨λh N D H=>h N D ((e N D).2 H),λh N D H=>h N D ((e N D).1 H)⟩
end
section
variable{b:V1}
def okFlc:okF Li 128=DF:=by kernel_rfl
def zQp{b:Nat}(s:jl O P C)(F:Full O P C (Lu O))(T:sc O C)(V:∀o∈O,jF o)(H:σ.dR b 0=Dc (.ptr sp 0))(hs:jh σ sp vO vP vC)(l:dU vO vP vC O P C)(D:jj vU u)(X:∀x∈u,gS O x)(J:(Lu u)<=100)
  (U:∀w z,jj w z->(Lu z)<=Lu O->SStep O P C u z->K w σ):zA Li 128 [vU,.ptr b 0] σ K:=by
 have aX:=s.le;have Z:=D;obtain⟨wu,au,ru,rfl,jb⟩:=D;refine Lg Tryz.func128 ?_;simp only[Z3,seval,-ae,H];refine zIx s hs l λvW E=>?_;have I:=E;obtain⟨ww,aw,xT,rfl,fy⟩:=E;simp only[Z3,seval,-ae,H];refine zDN s F T V hs l Z X J I (λx Y=>(zCR s F x Y).1) (by unfold ZP;simp;omega) λw z M Q R S=>?_;refine Lk ?_;exact U w z M R (zO3 Q s S)
def zP7{b:Nat}(s:jl O P C)(F:Full O P C (Lu O))(M:sc O C)(hp:∀o∈O,jF o)(hb:σ.bt b=Dc [.ptr sp 0])(jH:b<σ.aM)(hs:jh σ sp vO vP vC)(hR:dU vO vP vC O P C)(Q:jj vU (ZP O))
  (hk:∀c a rows,(Lc O P C c=[]/\c<=Lu O/\∀j,j<c->Lc O P C j≠[])->(∃w,rows[c]? = Dc w/\jj w [])->K (.fz DF a (c+1) rows) σ):zA Li 121 [vU,.clo 128 [] [.ptr b 0]] σ K:=by
 have aX:=s.le;have h1:=Q.one;have GH:=Q.cells;refine Lh Tryz.func121 ?_;simp only[Z3,seval,-ae,h1,GH];refine zF (λm vs h'=>∃k u l rows v,m=Lu O+1-k/\k<=Lu O/\vs=[.clo 128 [] [.ptr b 0],v]/\cT σ h'/\eA σ.aM 1 h' v (k+1) rows/\dd jj rows l/\Lu l=k+1/\l[k]? = Dc u/\xR O P C u (Lc O P C k)/\Lu u<=6/\∀j,j<k->Lc O P C j≠[]) (Lu O+1) ?_ ?_
 .exact⟨0,ZP O,[ZP O],[vU],_,af,af,rfl,zC σ _,eA.bf _ 1 rfl (na _),dd.nil _ |>.snoc Q,rfl,rfl,xR.start s F,by unfold ZP;simp;omega,λj hj=>af⟩
 rintro m vs h' ⟨k,u,l,rows,v,rfl,Z,rfl,E,ha,I,dT,yI,D,Ra,jy⟩
 obtain⟨s',cap,rfl,hc,T,q3,q4,q5⟩:=ha;have gP:k<Lu l:=af
 obtain⟨vk,X,S⟩:=I.get gP;have tU:l[k]=u:=by rw[YQ gP]at yI;exact Option.some.inj yI
 rw[tU]at S;have cM:h'.dR s' k=Dc vk:=by rw[zH T];exact X
 have hw:Lp .i64 (((k+1:Nat):Int)-1)=(k:Int):=WQ
 have fP:k<k+1:=YM k;have jI:h'.dR b 0=Dc (.ptr sp 0):=by rw[zH (by rw[E.bt b jH];exact hb)];rfl
 have U:=S;obtain⟨wk,ak,rk,rfl,cE⟩:=S;simp only[Z3,seval,-ae,hw,fP,cM];refine⟨okFlc,zQp s F M hp jI (hs.cf E) hR U (λx R=>(D.ou x R).1) af λvo out V lh J=>?_⟩;have nV:=V;obtain⟨wo,ao,ro,rfl,jc⟩:=V;have cb:=xR.step s F D J;simp only[Z3,seval,-ae,hw,fP,cM];refine zFT nV U af (λx R=>by rw[(J.ok x R).1.len];omega) λt ht=>?_;cases t
 .have an:out≠u:=λe=>by have:=ht.2 e;cases this
  have Y:Lc O P C k≠[]:=λe=>by
   have H:=(xR.nil s F D).2 e
   have:out=[]:=(xR.nil s F cb).2 (by rw[e];rfl)
   exact an (by rw[this,H])
  have gQ:=Lc_lt s F M Y Z;refine Lk ?_;refine eA.push (bytes:=24) (σb:=σ) E ⟨s',cap,rfl,hc,T,q3,q4,q5⟩ af af λv2 h2 k2 a2=>?_;refine Lk ?_;refine⟨_,?_,k+1,out,l++[out],_,v2,rfl,af,rfl,k2,a2,I.snoc nV,by rw[YB,dT];rfl,?_,cb,af,λj hj=>?_⟩
  .omega
  .rw[Yz af,dT,Yk];rfl
  .by_cases x:j=k
   .subst x;exact Y
   .exact jy j af
 .obtain rfl:out=u:=ht.1 rfl;have H:=xR.stop s F M D J;refine Lk ?_;exact Gh.finF E T q4 (I.bL 0) hc.ok λo1=>hk k _ _ ⟨(xR.nil s F D).1 H,Z,jy⟩ ⟨_,X,H ▸ U⟩
def zCb(s:jl O P C)(F:Full O P C (Lu O))(H:sc O C)(Q:∀o∈O,jF o)(hs:jh σ sp vO vP vC)(D:dU vO vP vC O P C)(J:∀c a rows,(Lc O P C c=[]/\c<=Lu O/\∀j,j<c->Lc O P C j≠[])->(∃w,rows[c]? = Dc w/\jj w [])->K (.fz DF a (c+1) rows) σ):zA Li 66 [.ptr sp 0] σ K:=by
 refine Lh Tryz.func66 ?_;refine Lk ?_;have l:=hs.bf [.ptr sp 0];refine zIx s l D λvV E=>?_;have R:=E;obtain⟨U,av,T,rfl,S⟩:=E;refine Lk ?_;refine zP7 (b:=σ.aM) s F H Q (by simp only[Z3,seval,-ae]) (by simp only[Z3,seval,-ae]) l D R λc a rows I M=>?_;refine Lk ?_;exact Gh.fin0 (zC σ _) trivial (J c a rows I M)
def jq(O:V1)(P:V2)(C:V3):Prop:=O=[]\/∃k:Nat,(k:Int)<at_ O 0/\Lc O P C k=[]
def isLG(O:V1)(P:V2)(C:V3):Prop:=((qG O P C/\Cons O P C)/\vF O C)/\jq O P C
def Cons.full(s:jl O P C)(l:Cons O P C):Full O P C (Lu O):=sY s (na _) λj _ h=>l j h
def qG.isp(h:qG O P C):∀o∈O,jF o:=h.2.2.2.1
def zF5(h:qG O P C)(Y:Cons O P C)(hs:jh σ sp vO vP vC)(M:dU vO vP vC O P C)(D:∀t:Bool,(t=DF↔vF O C/\jq O P C)->K (.bool t) σ):zA Li 84 [.ptr sp 0] σ K:=by
 have U:=@Lm
 have s:=h.shp;have aX:=s.le;have F:=Cons.full s Y;have H:=M;obtain⟨⟨w0,S,rfl⟩,_,_⟩:=M;have I:σ.dR sp 0=Dc (.fz w0 S (Lu O) (cS O)):=by rw[zH hs.bt];rfl
 refine Lg Tryz.func84 ?_;refine Lk ?_;refine zJ0 s hs H λt Q=>?_;cases t with
 |false=>
  refine Lk ?_;exact D _ (U λh=>by cases Q.2 h.1)
 |true=>
 have E:=Q.1 rfl;refine Lk ?_;refine zCb s F (E.cent s) h.isp hs H λc a rows ⟨V,h2,X⟩ _=>?_;by_cases J:(Lu O)=0
 .have xB:O=[]:=YU J;have R:((Lu O:Int)=0)=True:=eq_true af;simp only[Z3,seval,-ae,I,R];exact D _ ⟨λ_=>⟨E,.inl xB⟩,λ_=>rfl⟩
 .have hw:Lp .i64 (((c+1:Nat):Int)-1)=(c:Int):=WQ
  have l:0<Lu O:=af
  have lF:(0:Int)<(Lu O:Int):=af
  have Z:¬(Lu O:Int)=0:=af
  simp only[Z3,seval,-ae,I,J,Z,hw,l,lF,gd l];refine D _ ?_;rw[decide_eq_true_iff];constructor
  .intro h;exact⟨E,.inr ⟨c,h,V⟩⟩
  .rintro⟨_,h|⟨k,bU,T⟩⟩
   .rw[h]at l;simp at l
   .rcases YG k c with x|x
    .exact absurd T (X k x)
    .omega
end
section
variable{sb:Nat}
def zPw(s:jl O P C):∀k,(Lc O P C k).length<=6 ^ (k+1)
 |0=>by
  have:=s.le
  show(ZP O).length<=_
  unfold ZP;simp;omega
 |k+1=>by
  have l:=zGF s (Lc O P C k);have D:=zPw s k
  show(td O P C (Lc O P C k)).length<=_
  rw[Nat.pow_succ];omega
def zLN(h:qG O P C)(hc:Cons O P C)(nK:vF O C)(hR:dU vO vP vC O P C)(Y:∀t:Bool,(t=DF↔jq O P C)->K (.bool t) σ):zA Li 169 [.agg [vO,vP,vC]] σ K:=by
 have s:=h.shp;have aX:=s.le;have F:=Cons.full s hc;have hC:=nK.cent s;have aJ:=hR;obtain⟨⟨E,l,rfl⟩,⟨w1,H,rP,rfl,hP⟩,⟨M,I,rC,rfl,Gy⟩⟩:=hR;refine zA.gh ?_;have uJ:cT σ (σ.bf [.fz E l (Lu O) (cS O),.fz w1 H (Lu P) rP,.fz M I (Lu C) rC]):=zC σ _;have fg:∀{h':cg},cT (σ.bf [.fz E l (Lu O) (cS O),.fz w1 H (Lu P) rP,.fz M I (Lu C) rC]) h'->h'.bt σ.aM=Dc [.fz E l (Lu O) (cS O),.fz w1 H (Lu P) rP,.fz M I (Lu C) rC]:=λ{h'} S=>by
  rw[S.bt _ (by simp[cg.bf])];simp[cg.bf]
 have iI:∀{h':cg},cT (σ.bf [.fz E l (Lu O) (cS O),.fz w1 H (Lu P) rP,.fz M I (Lu C) rC]) h'->h'.rd σ.aM 0 3=Dc [.fz E l (Lu O) (cS O),.fz w1 H (Lu P) rP,.fz M I (Lu C) rC]:=λ{h'} S=>by
  simp[cg.rd,fg S]
 have uf:∀{h':cg},cT (σ.bf [.fz E l (Lu O) (cS O),.fz w1 H (Lu P) rP,.fz M I (Lu C) rC]) h'->h'.dR σ.aM 0=Dc (.fz E l (Lu O) (cS O)):=λ{h'} S=>by
  rw[zH (fg S)];rfl
 refine Lg Tryz.func169 ?_;refine Lk ?_;refine zF (λm vs h'=>∃(i:Nat) (v:PV) (rows:List PV),i<=Lu O/\m=Lu O-i/\vs=[.ptr σ.aM 0,.int .i64 (Lu O),v,.int .i64 i]/\cT (σ.bf [.fz E l (Lu O) (cS O),.fz w1 H (Lu P) rP,.fz M I (Lu C) rC]) h'/\eA (σ.aM+1) 1 h' v i rows/\dd FI rows ((DO i).map (Grp.unit O))) (Lu O) ?_ ?_
 .exact⟨0,_,[],af,af,rfl,zC _ _,eA.bf (σ.aM+1) 1 rfl (na _),dd.nil _⟩
 rintro m vs h' ⟨i,v,rows,hi,rfl,rfl,D,ha,T⟩
 refine Lk ?_;refine de (λR=>?_) λaG=>?_
 .have aq:i<Lu O:=af
  refine Lk ?_;refine QQ af aq λvu fu=>?_;have N5:FI vu (Grp.unit O i):=fu;obtain⟨wu,au,rfl⟩:=fu;refine Lk ?_;refine eA.push (bytes:=24) (σb:=σ.bf [.fz E l (Lu O) (cS O),.fz w1 H (Lu P) rP,.fz M I (Lu C) rC]) D ha af af λv' h2 k2 a2=>?_;simp only[Z3,seval,-ae,WX aq];refine⟨_,af,i+1,v',_,af,rfl,rfl,k2,a2,?_⟩;rw[zFQ];exact T.snoc N5
 have aU:i=Lu O:=af
 subst aU;obtain⟨t,cap,rfl,fT,q2,q3,q4,q5⟩:=ha;refine Lk ?_;refine Zg (λm vs h'=>∃(k:Nat) (v:PV),m=7-k/\k<7/\(O≠[]->(k:Int)<at_ O 0)/\vs=[.ptr σ.aM 0,.int .i64 (Lu O),v,.int .i64 ((k+1:Nat):Int)]/\cT (σ.bf [.fz E l (Lu O) (cS O),.fz w1 H (Lu P) rP,.fz M I (Lu C) rC]) h'/\jj v (Lc O P C k)/\(O=[]->k=0)) 7 ?_ ?_
 .refine .fz t rows q2 (T.bI 0) λo1=>.here ⟨0,.fz DF (.sl o1 0 (Lu O) cap) (Lu O) rows,rfl,af,λJ=>?_,?_,D.kill q4,⟨DF,_,rows,by rw[show(Lc O P C 0).length=(Lu O) by simp[Lc,ZP]],T⟩,λ_=>rfl⟩
  .have:=(s.pr 0 (List.length_pos_iff.2 J)).1;omega
  .refine Lk ?_;simp[kq,Go.Ab.sb,fT.ok]
 clear D T q2 q3 q4 q5 aG hi
 rintro m vs h' ⟨k,v,rfl,sD,lX,rfl,D,hv,ez⟩
 have CV:=zPw (O:=O) (P:=P) (C:=C) s k;have Gm:(Lc O P C k).length<=600000:=by
  have:6 ^ (k+1)<=6 ^ 7:=Nat.pow_le_pow_right af af
  omega
 have kU:=hv;obtain⟨wv,av,rv,rfl,fA⟩:=hv;have X:=uJ.trans D;by_cases J:O=[]
 .have dC:((Lu O:Int)=0)=True:=eq_true (by rw[J];rfl);have Ny:¬(0:Int)<(Lu O:Int):=by rw[J];simp
  simp only[Z3,seval,-ae,dC,Ny];exact Gh.fin0 X trivial (Y _ ⟨λ_=>.inl J,λ_=>rfl⟩)
 have Q:0<Lu O:=List.length_pos_iff.2 J;have lF:(0:Int)<(Lu O:Int):=af
 have Z:¬(Lu O:Int)=0:=af
 have bO:=s.pr 0 Q;have Ar:=lX J;by_cases R:((k+1:Nat):Int)<at_ O 0;rotate_left
 .simp only[Z3,seval,-ae,lF,Z,uf D,Q,gd Q,R];refine Gh.fin0 X trivial (Y _ ?_);rw[decide_eq_true_iff];constructor
  .intro h;exact .inr ⟨k,Ar,YU af⟩
  .rintro(h|⟨j,Ie,uQ⟩)
   .exact absurd h J
   .rw[zKi s F uQ k af];rfl
 by_cases V:Lc O P C k=[]
 .have hz:((Lc O P C k).length:Int)=0:=by rw[V];rfl
  have U:¬(0:Int)<((Lc O P C k).length:Int):=af
  have dh:(((Lc O P C k).length:Int)=0)=True:=eq_true hz;simp only[Z3,seval,-ae,lF,Z,uf D,Q,gd Q,R,U,dh];exact Gh.fin0 X trivial (Y _ ⟨λ_=>.inr ⟨k,Ar,V⟩,λ_=>rfl⟩)
 have U:(0:Int)<((Lc O P C k).length:Int):=by have:=List.length_pos_iff.2 V;omega
 simp only[Z3,seval,-ae,lF,Z,uf D,iI D,Q,gd Q,R,U];refine zLM s hc aJ kU (λx hx=>(uB s F k x hx).1) Gm λv2 cA=>?_;have ew:Lp .i64 (((k+1:Nat):Int)+1)=((k+1+1:Nat):Int):=WQ
 simp only[Z3,seval,-ae,ew];refine⟨7-(k+1),af,.here ⟨k+1,v2,rfl,af,λ_=>R,rfl,D,cA,λh=>absurd h J⟩⟩
def zHt(l:dU vO vP vC O P C)(sz:SzP O P C)(J:∀t:Bool,(t=DF↔isLG O P C)->K (.bool t) σ):zA Li 90 [.agg [vO,vP,vC]] σ K:=by
 have E:=l.O.one;have H:=l.P.one;have I:=l.C.one;have R:∀{A:Prop},¬A->((false=DF)↔A):=λh=>⟨λx=>(by cases x),λx=>absurd x h⟩
 refine Lh Tryz.func90 ?_;simp only[Z3,seval,-ae,E,H,I];refine zIk l sz λt Q=>?_;cases t with
 |false=>
  refine Lk ?_;exact Gh.fin0 (zC σ _) trivial (J _ (R λh=>by cases Q.2 h.1))
 |true=>
 have D:=Q.1 rfl;simp only[Z3,seval,-ae,E,H,I];refine zLN D.1.1 D.1.2 D.2 l λr M=>?_;refine Lk ?_;exact Gh.fin0 (zC σ _) trivial (J _ ⟨λh=>⟨D,M.1 h⟩,λh=>M.2 h.2⟩)
end
structure LG(O:V1)(P:V2)(C:V3):Prop where
 pr:qG O P C
 co:Cons O P C
 ce:vF O C
def LG.s(g:LG O P C):jl O P C:=g.pr.shp
def LG.F(g:LG O P C):Full O P C (Lu O):=Cons.full g.s g.co
def LG.cent(g:LG O P C):sc O C:=g.ce.cent g.s
def LG.eq(g:LG O P C){i:Nat}(l:i<Lu O):at_ O i=at_ O 0:=(g.ce i l).1
def LG.isp(g:LG O P C)(h:0<Lu O):jF (at_ O 0):=by rw[dp h];exact g.pr.isp _ (YZ h)
def zED{p:Int}:∀{O:V1},(∀o∈O,o=p)->gO O=p ^ (Lu O)
 |[],_=>by simp[gO]
 |o::O,h=>by
  rw[gO,zED λo l=>h o (Yt _ l),h o aK,Yu,HN,UN]
def LG.bound(g:LG O P C){i:Nat}(D:0<Lu O)(S:i<=Lu O):1<=at_ O 0 ^ i/\at_ O 0 ^ i<=729:=by
 have T:=(g.isp D).bd;have E:gO O=at_ O 0 ^ (Lu O):=zED λo M=>by
  obtain⟨k,l,rfl⟩:=YR.1 M
  have:=g.eq l
  rwa[dp l]at this
 have H:=g.pr.2.2.2.2.1;rw[E]at H;have I:(1:Int)<=at_ O 0 ^ i:=Ht af;have J:(1:Int)<=at_ O 0 ^ (Lu O-i):=Ht af;have Q:at_ O 0 ^ (Lu O)=at_ O 0 ^ i*at_ O 0 ^ (Lu O-i):=by rw[<-Int.pow_add];congr 1;omega
 have R:at_ O 0 ^ i*1<=at_ O 0 ^ i*at_ O 0 ^ (Lu O-i):=Yy J af;exact⟨I,af⟩
def zCc(g:LG O P C)(l:dU vO vP vC O P C)(T:gS O x)(H:FI vx x){k:Int}(I:0<=k/\k<=1000)(S:∀v,FI v (Grp.pw (gm O P C) (zv O) x k.toNat)->K v σ):
  zA Li 172 [.agg [vO,vP,vC],vx,.int .i64 k] σ K:=by
 have J:=l.O.one;have Q:=l.P.one;have R:=l.C.one;have M:=g.F.g.toMon;have E:¬k<0:=af
 refine Lh Tryz.func172 ?_;simp only[Z3,seval,-ae,J,Q,R,E];refine zEP g.s (d:=(Lu O)) (i:=0) af (zCG g.s af) M l T H I λv D=>?_;refine Lk ?_;exact Gh.fin0 (zC σ _) (D.bel _) (S v D)
def zFG(g:LG O P C)(hs:jh σ sp vO vP vC)(X:dU vO vP vC O P C)(I:gS O x)(bm:FI vx x)(V:0<Lu O)
  (hk:∀m:Nat,(∃i,(m:Int)=at_ O 0 ^ i)->(m:Int)<=729->Grp.pw (gm O P C) (zv O) x m=zv O->K (.int .i64 m) σ):zA Li 163 [.ptr sp 0,vx] σ K:=by
 have s:=g.s;have F:=g.F;have M:=F.g.toMon;have aX:=s.le;have up:∀{z:V1},gS O z->TT O (Lu O-Lu O) z:=λh=>by rw[Yk];exact h
 have aJ:=X;obtain⟨⟨w0,a0,rfl⟩,_,_⟩:=X;have T:σ.dR sp 0=Dc (.fz w0 a0 (Lu O) (cS O)):=by rw[zH hs.bt];rfl
 obtain⟨wx,ax,rfl⟩:=bm;have bj:=I.len;refine Lg Tryz.func163 ?_;refine Lk ?_;refine zF (λm Z h'=>∃(d k i:Nat) (w:Bool) (a:AV) (now:V1),m=Lu O-d/\Z=[.ptr sp 0,.int .i64 k,.int .i64 d,.fz w a (Lu O) (cS now)]/\σ=h'/\d<=Lu O/\i<=d/\(k:Int)=at_ O 0 ^ i/\TT O d now/\now=Grp.pw (gm O P C) (zv O) x k) (Lu O) ⟨0,1,0,wx,ax,x,af,by rw[bj];rfl,rfl,af,af,aK,I,(M.pw_one I).symm⟩ ?_
 rintro m Z h' ⟨d,k,i,w,a,now,rfl,rfl,rfl,hd,j4,R,D,J⟩
 have Q:=D.len;have Y:=zEW Q;have CQ:=g.bound V (i:=i) af;refine Lk ?_;refine QJ Q.symm af ?_;by_cases H:now=zv O
 .have E:=Y.2 H;simp only[Z3,seval,-ae,E];exact hk k ⟨i,R⟩ af (by rw[<-J,H])
 have E:¬mw now:=λh=>H (Y.1 h);have l:d<Lu O:=by
  rcases YG d (Lu O) with h|h
  .exact h
  .exact absurd (D.ext (s.zv _) λj h1 h2=>af) H
 have U:d<Lu now:=af
 have bO:=s.pr d l;have eO:=g.eq l;have FU:=l;by_cases o9:at_ now d=0
 .simp only[Z3,seval,-ae,E,l,gd U,o9,WX l];refine⟨_,af,d+1,k,i,w,a,now,rfl,rfl,af,af,R,⟨D.len,D.bd,λj hj=>?_⟩,J⟩;rcases YG j d with h|h
  .exact D.zero j h
  .rw[show j=d by omega];exact o9
 .simp only[Z3,seval,-ae,E,l,gd U,o9,gd l,T];have nS:gS O now:=D.mono (YV _);refine zAN s F hs aJ (up nS) ⟨w,a,by rw[Q]⟩ (k:=at_ O d) af λv1 f1=>?_;have S:=zAR s F g.cent l D;have hlen:=S.len;obtain⟨w1,a1,rfl⟩:=f1;have gF:=g.bound V (i:=i+1) af;have df:((k*(at_ O d).toNat:Nat):Int)=at_ O 0 ^ (i+1):=by
   rw[Uj,YD af,R,eO,HN]
  have ew:Lp .i64 ((k:Int)*at_ O d)=((k*(at_ O d).toNat:Nat):Int):=by
   rw[show(k:Int)*at_ O d=((k*(at_ O d).toNat:Nat):Int) by rw[Uj,YD af]];exact fl af af
  simp only[Z3,seval,-ae,E,l,gd l,T,ew,WX FU];refine⟨_,af,d+1,k*(at_ O d).toNat,i+1,w1,a1,Grp.pw (gm O P C) (zv O) now (at_ O d).toNat,rfl,by rw[show(Grp.pw (mu O P C (Lu O)) (zv O) now (at_ O d).toNat).length=(Lu O) from hlen],af,af,df,S,by rw[M.pw_mul I,<-J]⟩
def OkC(p c:Int):Prop:=p=5\/p=7\/(p=3/\(c=2\/c=-2))
def zSF{n:Int}{j:Nat}(l:n=3 ^ j)(D:n<=729):∃y:Int,(2*y) % n=1 % n:=by
 have hd:n∣729:=by
  rcases YG 6 j with h|h
  .exfalso;obtain⟨k,rfl⟩:∃k,j=7+k:=⟨j-7,af⟩
   rw[Int.pow_add]at l
   have:(1:Int)<=3 ^ k:=Ht LB
   omega
  .rw[l,show(729:Int)=3 ^ 6 by decide];exact zAf h
 exact⟨365,Za hd LB⟩
def zDG{p n:Int}{j:Nat}{c:Int}(H:OkC p c)(l:n=p ^ j)(D:n<=729)(J:c=2\/c=12\/c=-2\/c=-12):∃y:Int,(c*y) % n=1 % n:=by
 have key:∃y:Int,((if 0<c then c else -c)*y) % n=1 % n:=by
  rcases H with h|h|⟨h,I⟩
  .exact zEY (.inl h) l D (by split<;>omega)
  .exact zEY (.inr h) l D (by split<;>omega)
  .rw[h]at l;rw[show(if 0<c then c else -c)=2 by split<;>omega];exact zSF l D
 obtain⟨y,E⟩:=key;split at E
 .exact⟨y,E⟩
 .exact⟨-y,by rw[show c * -y=-c*y by grind];exact E⟩
def zSz{c y m:Int}(h:(c*y) % m=1 % m):∃w,(c % m)*y=1+w*m:=by
 obtain⟨q,D⟩:m∣c*y-1:=Iq (by rw[Ui,h];simp);refine⟨q-c / m*y,?_⟩;have l:=I2 c m;generalize c % m=r at *
 generalize c / m=t at *
 grind
def zS0{c y m t:Int}(h:(c % m)*y=1+t*m):(c*y) % m=1 % m:=by
 have D:=I2 c m;have l:c*y=1+(t+c / m*y)*m:=by
  generalize c % m=r at *
  generalize c / m=t at *
  grind
 rw[l,KE]
def zJb(g:LG O P C)(E:0<Lu O)(I:gS O z)(D:z≠zv O){m i:Nat}(l:(m:Int)=at_ O 0 ^ i)(h:Grp.pw (gm O P C) (zv O) z m=zv O):2<=m:=by
 have M:=(g.isp E).bd;cases i with
 |zero=>
  have:m=1:=by simp at l;omega
  rw[this,g.F.g.toMon.pw_one I]at h;exact absurd h D
 |succ i=>
  have H:(1:Int)<=at_ O 0 ^ i:=Ht af;rw[HN]at l;have J:1*at_ O 0<=at_ O 0 ^ i*at_ O 0:=YO H af;omega
def ZQ(l:gS O z)(D:z≠zv O):0<Lu O:=by
 rcases F4 (Lu O) with h|h
 .exact absurd (Zz (by rw[l.len];simp) λj E=>by have:=l.len;omega) D
 .exact h
def zC5(g:LG O P C)(hs:jh σ sp vO vP vC)(Q:dU vO vP vC O P C)(D:gS O z)(T:FI vz z){c:Int}(pP:z≠zv O->OkC (at_ O 0) c)(hc:c=2\/c=12\/c=-2\/c=-12)
  (R:∀v w,FI v w->Rt O P C z c w->K v σ):zA Li 87 [.ptr sp 0,vz,.int .i64 c] σ K:=by
 have s:=g.s;have aX:=s.le;have up:∀{z:V1},gS O z->TT O (Lu O-Lu O) z:=λh=>by rw[Yk];exact h
 have S:=T;obtain⟨wz,az,rfl⟩:=T;have Z:=D.len;have I:=zEW Z;refine Lg Tryz.func87 ?_;refine Lk ?_;refine QJ rfl af ?_;by_cases l:z=zv O
 .have E:=I.2 l;simp only[Z3,seval,-ae,E];refine zA.fzN (n:=(Lu z)) rfl (λK'=>Z9 rfl af) λv0=>?_;refine Lk ?_;exact R _ z ⟨DF,v0,rfl⟩ (.inl ⟨l,l⟩)
 have E:¬mw z:=λh=>l (I.1 h);have M:=ZQ D l;simp only[Z3,seval,-ae,E];refine zFG g hs Q D S M λm ⟨i,H⟩ U J=>?_;have uG:=zJb g M D l H J;obtain⟨Y,hY⟩:=zDG (pP l) H U hc;obtain⟨wY,V⟩:=zSz hY;have b1:=Y3 c (show(m:Int)≠0 by omega);have X:=Y6 c (show 0<(m:Int) by omega);refine Lk ?_;refine zBc af af ?_;refine Lk ?_;refine zFg b1 X af λq qb q1 q2 q3=>?_;obtain⟨t,ht⟩:=q3 ⟨Y,wY,V⟩;refine Lk ?_;refine zAN s g.F hs Q (up D) S (k:=q) af λv1 f1=>?_;refine Lk ?_;refine R _ _ f1 (.inr ⟨l,i,q.toNat,m,H,J,?_,rfl⟩);rw[YD q1];exact zS0 ht
def zAh(g:LG O P C)(hR:dU vO vP vC O P C)(H:gS O z)(pd:FI vz z){c:Int}(pP:z≠zv O->OkC (at_ O 0) c)(hc:c=2\/c=12)
  (hk:∀v w,FI v w->Rt O P C z c w->K v σ):zA Li 94 [.agg [vO,vP,vC],vz,.int .i64 c] σ K:=by
 have s:=g.s;have aX:=s.le;have F:=g.F;have M:=F.g.toMon;have jP:=pd;obtain⟨wz,az,rfl⟩:=pd;have dG:=H.len;have dQ:=zEW dG;have aJ:=hR;obtain⟨⟨I,E,rfl⟩,⟨w1,J,rP,rfl,hP⟩,⟨R,Q,rC,rfl,Gy⟩⟩:=hR;refine zA.gh ?_;have ar:cT σ (σ.bf [.fz I E (Lu O) (cS O),.fz w1 J (Lu P) rP,.fz R Q (Lu C) rC]):=zC σ _;have r3:(σ.bf [.fz I E (Lu O) (cS O),.fz w1 J (Lu P) rP,.fz R Q (Lu C) rC]).rd σ.aM 0 3=Dc [.fz I E (Lu O) (cS O),.fz w1 J (Lu P) rP,.fz R Q (Lu C) rC]:=by simp only[Z3,seval,-ae]
 have r0:(σ.bf [.fz I E (Lu O) (cS O),.fz w1 J (Lu P) rP,.fz R Q (Lu C) rC]).dR σ.aM 0=Dc (.fz I E (Lu O) (cS O)):=by simp only[Z3,seval,-ae]
 refine Lg Tryz.func94 ?_;refine Lk ?_;refine Zb rfl af ?_;by_cases D:z=zv O
 .have h1:=dQ.2 D;simp only[Z3,seval,-ae,h1];exact Gh.fin0 ar (jP.bel _) (hk _ z jP (.inl ⟨D,D⟩))
 have h1:¬mw z:=λh=>D (dQ.1 h);have l:=ZQ H D;have lF:(0:Int)<(Lu O:Int):=af
 have gA:=(g.isp l).bd;simp only[Z3,seval,-ae,h1,l,lF,gd l,r3,r0];refine zCc g aJ H jP (k:=at_ O 0) af λv1 f1=>?_;obtain⟨w5,a5,rfl⟩:=f1;have KQ:=zAR s F g.cent l H;refine Lk ?_;refine zF (λm U h'=>∃(i k:Nat) (w:Bool) (a:AV) (now:V1),m=Lu O-i/\U=[.fz wz az (Lu z) (cS z),.int .i64 c,.ptr σ.aM 0,.int .i64 k,.fz w a (Lu now) (cS now)]/\σ.bf [.fz I E (Lu O) (cS O),.fz w1 J (Lu P) rP,.fz R Q (Lu C) rC]=h'/\i<=Lu O/\(k:Int)=at_ O 0 ^ i/\TT O i now/\now=Grp.pw (gm O P C) (zv O) z k) (Lu O-1) ?_ ?_
 .refine⟨1,(at_ O 0).toNat,w5,a5,_,rfl,?_,rfl,af,by rw[YD af,HN,Int.pow_zero,Ub],KQ,rfl⟩;simp only[Z3,seval,-ae,YD (show 0<=at_ O 0 by omega)]
 rintro m U h' ⟨i,k,w,a,now,rfl,rfl,rfl,hi,pH,Z,V⟩
 have iB:=Z.len;have CQ:=g.bound l (i:=i) hi;have HJ:=zEW iB;refine Lk ?_;refine Zb rfl af ?_;by_cases gg:now=zv O;rotate_left
 .have T:¬mw now:=λh=>gg (HJ.1 h);have aR:i<Lu O:=by
   rcases YG i (Lu O) with h|h
   .exact h
   .exact absurd (Z.ext (s.zv _) λj h1 T=>af) gg
  have gF:=g.bound l (i:=i+1) af;have df:((k*(at_ O 0).toNat:Nat):Int)=at_ O 0 ^ (i+1):=by
   rw[Uj,YD af,pH,HN]
  have X:Lp .i64 ((k:Int)*at_ O 0)=((k*(at_ O 0).toNat:Nat):Int):=by
   rw[show(k:Int)*at_ O 0=((k*(at_ O 0).toNat:Nat):Int) by rw[Uj,YD af]];exact fl af af
  have nS:gS O now:=Z.mono (YV _);simp only[Z3,seval,-ae,T,l,lF,gd l,r3,r0,X];refine zCc g aJ nS ⟨w,a,rfl⟩ (k:=at_ O 0) af λv2 f2=>?_;obtain⟨w6,a6,rfl⟩:=f2;have Hr:=zAR s F g.cent aR Z;rw[g.eq aR]at Hr;simp only[Z3,seval,-ae,T,l,lF,gd l,r3,r0];exact⟨_,af,i+1,k*(at_ O 0).toNat,w6,a6,_,rfl,rfl,af,df,Hr,by rw[M.pw_mul H,<-V]⟩
 have T:=HJ.2 gg;rw[gg]at V;have uG:=zJb g l H D pH V.symm;obtain⟨Y,hY⟩:=zDG (pP D) pH af (c:=c) af;have b1:=Y3 c (show(k:Int)≠0 by omega);have b2:=Y6 c (show 0<(k:Int) by omega);have CT:(c % k*(Y % k)) % (k:Int)=1:=by
  rw[<-Uw,hY];exact Ys af af
 have RD:=Y3 Y (show(k:Int)≠0 by omega);have RC:=Y6 Y (show 0<(k:Int) by omega);have RE:Y % (k:Int)≠0:=λh=>by rw[h,Y9,IL]at CT;omega
 simp only[Z3,seval,-ae,T];refine zF (λm U h'=>∃(q:Nat),m=k-q/\U=[.fz wz az (Lu z) (cS z),.int .i64 c,.ptr σ.aM 0,.int .i64 k,.int .i64 q]/\σ.bf [.fz I E (Lu O) (cS O),.fz w1 J (Lu P) rP,.fz R Q (Lu C) rC]=h'/\1<=q/\(q:Int)<=Y % (k:Int)) (k-1) ⟨1,rfl,rfl,rfl,af,af⟩ ?_
 rintro m U h' ⟨q,rfl,rfl,rfl,uq,Rd⟩
 have LK:(q:Int)<(k:Int):=af
 have uo:q<k:=af
 have hmul:=UG b1 (show 0<=(q:Int) by omega);have H7:c % (k:Int)*q<=729*729:=HI af af af af;have X:Lp .i64 (c % (k:Int)*q)=c % (k:Int)*q:=WE;have et:(c % (k:Int)*q).tmod k=c % (k:Int)*q % k:=Yd hmul;have ez:¬(k:Int)=0:=af
 have Sf:=Y3 (c % (k:Int)*q) ez;have Se:=Y6 (c % (k:Int)*q) (show 0<(k:Int) by omega);have lI:Lp .i64 (c % (k:Int)*q % k)=c % (k:Int)*q % k:=WE;simp only[Z3,seval,-ae,uo];refine zEU af af ?_;by_cases S:c % (k:Int)*q % k=1
 .simp only[Z3,seval,-ae,uo,X,et,ez,lI,S,r3];refine zCc g aJ H jP (k:=q) af λv3 f3=>?_;refine Lk ?_;refine Gh.fin0 ar (f3.bel _) (hk _ _ f3 (.inr ⟨D,i,q,k,pH,V.symm,?_,by rw[Fs]⟩));rw[Uw,UK _ (Uk _)]at S;rw[Uw,S];exact(Ys af af).symm
 .have an:(q:Int)≠Y % (k:Int):=λe=>S (by rw[e];exact CT);have OA:Lp .i64 ((q:Int)+1)=((q+1:Nat):Int):=WQ
  simp only[Z3,seval,-ae,uo,X,et,ez,lI,S,OA];exact⟨_,af,q+1,rfl,rfl,af,af⟩
def Af.gS(h:Af O x):gS O x:=⟨h.1,λj l=>by have:=h.2 j (by rw[h.1];exact l);omega,λj l=>af⟩
def zG2:Zy O 0 x↔Af O x:=⟨λh=>h.1,λh=>⟨h,by simp[mw]⟩⟩
def zH3(hs:jh σ sp vO vP vC)(M:dU vO vP vC O P C)(sz:SzP O P C)(V:jj vL xs)(Q:SzL xs)(H:∀t:Bool,(t=DF↔(qG O P C/\Cons O P C)/\∀x∈xs,Af O x)->K (.bool t) σ):zA Li 83 [.ptr sp 0,vL] σ K:=by
 have J:=@Lm
 have r3:σ.rd sp 0 3=Dc [vO,vP,vC]:=by rw[zV hs.bt];rfl
 have bj:=Q.l;obtain⟨wl,al,Z,rfl,T⟩:=V;refine Lg Tryz.func83 ?_;simp only[Z3,seval,-ae,r3];refine zCn M sz λt D=>?_;cases t with
 |false=>
  refine Lk ?_;exact H _ (J λh=>by cases D.2 h.1)
 |true=>
 have I:=D.1 rfl;refine Lk ?_;refine zF (λm R h'=>∃i:Nat,i<=Lu xs/\m=Lu xs-i/\R=[.ptr sp 0,.fz wl al (Lu xs) Z,.int .i64 (Lu xs),.int .i64 i]/\σ=h'/\∀x∈xs.take i,Af O x) (Lu xs) ⟨0,af,af,rfl,rfl,aK⟩ ?_
 rintro m R h' ⟨i,hi,rfl,rfl,rfl,E⟩
 refine Lk ?_;refine Ll (λaG=>?_) λl=>?_
 .have aU:i=Lu xs:=af
  subst aU;rw[Yf]at E;exact H _ ⟨λ_=>⟨I,E⟩,λ_=>rfl⟩
 obtain⟨w4,S,X⟩:=T.rowI l;have Y:=Q.r _ (YZ l);simp only[Z3,seval,-ae,l,X];refine zDE hs M.O (by have:=I.1.1;omega) I.1.isp ⟨w4,S,rfl⟩ Y λt D=>?_;cases t with
 |false=>
  refine Lk ?_;exact H _ (J λh=>by cases D.2 (h.2 _ (YZ l)))
 |true=>
 have U:=D.1 rfl;simp only[Z3,seval,-ae,WX l];refine⟨_,af,i+1,af,rfl,rfl,λx hx=>?_⟩;rw[YN l,YY,YT]at hx;rcases hx with hx|hx
 .exact E x hx
 .rw[hx];exact U
open Classical in
noncomputable def ra(O:V1)(P:V2)(C:V3)(xs:V2):Int:=
 if (qG O P C/\Cons O P C)/\∀x∈xs,Af O x then(if vF O C/\jq O P C then 0 else 5)else 1
def zFE(h:ra O P C xs=0):LG O P C/\jq O P C/\∀x∈xs,gS O x:=by
 unfold ra at h;split at h
 .rename_i l;split at h
  .rename_i D;exact⟨⟨l.1.1,l.1.2,D.1⟩,D.2,λx E=>(l.2 x E).gS⟩
  .omega
 .omega
def zEL(hs:jh σ sp vO vP vC)(H:dU vO vP vC O P C)(sz:SzP O P C)(E:jj vL xs)(R:SzL xs)(l:K (.int .i64 (ra O P C xs)) σ):zA Li 40 [.ptr sp 0,vL] σ K:=by
 unfold ra at l;have M:=E;obtain⟨U,al,T,rfl,S⟩:=E;refine Lg Tryz.func40 ?_;refine Lk ?_;refine zH3 hs H sz M R λt I=>?_;cases t with
 |false=>
  rw[DL λh=>by cases I.2 h]at l;refine Lk ?_;exact l
 |true=>
 have D:=I.1 rfl;rw[DK D]at l;refine Lk ?_;refine zF5 D.1.1 D.1.2 hs H λQ J=>?_;cases Q with
 |false=>
  rw[DL λh=>by cases J.2 h]at l;refine Lk ?_;exact l
 |true=>
  rw[DK (J.1 rfl)]at l;refine Lk ?_;exact l
def zNI(X:dU vO vP vC O P C)(sz:SzP O P C)(hL:jj vL xs)(Z:SzL xs)(l:K (.int .i64 (ra O P C xs)) σ):zA Li 42 [.agg [vO,vP,vC],vL] σ K:=by
 unfold ra at l;have T:=X;have bj:=Z.l;obtain⟨⟨H,D,rfl⟩,⟨w1,I,rP,rfl,hP⟩,⟨Q,J,rC,rfl,Gy⟩⟩:=X;obtain⟨wl,al,rl,rfl,bp⟩:=hL;refine zA.gh ?_;have R:cT σ (σ.bf [.fz H D (Lu O) (cS O),.fz w1 I (Lu P) rP,.fz Q J (Lu C) rC]):=zC σ _;have r3:(σ.bf [.fz H D (Lu O) (cS O),.fz w1 I (Lu P) rP,.fz Q J (Lu C) rC]).rd σ.aM 0 3=Dc [.fz H D (Lu O) (cS O),.fz w1 I (Lu P) rP,.fz Q J (Lu C) rC]:=by simp only[Z3,seval,-ae]
 have r0:(σ.bf [.fz H D (Lu O) (cS O),.fz w1 I (Lu P) rP,.fz Q J (Lu C) rC]).dR σ.aM 0=Dc (.fz H D (Lu O) (cS O)):=by simp only[Z3,seval,-ae]
 refine Lg Tryz.func42 ?_;simp only[Z3,seval,-ae,r3];refine zFd T sz λt M=>?_;cases t with
 |false=>
  rw[DL λh=>by cases M.2 h.1]at l;refine Lk ?_;exact Gh.fin0 R trivial l
 |true=>
 have S:=M.1 rfl;refine Lk ?_;refine zF (λm us h'=>∃i:Nat,i<=Lu xs/\m=Lu xs-i/\us=[.fz wl al (Lu xs) rl,.ptr σ.aM 0,.int .i64 i]/\σ.bf [.fz H D (Lu O) (cS O),.fz w1 I (Lu P) rP,.fz Q J (Lu C) rC]=h'/\∀x∈xs.take i,Af O x) (Lu xs) ⟨0,af,af,rfl,rfl,aK⟩ ?_
 rintro m us h' ⟨i,hi,rfl,rfl,rfl,U⟩
 refine Lk ?_;refine Ll (λaG=>?_) λE=>?_
 .have aU:i=Lu xs:=af
  subst aU;rw[Yf]at U;rw[DK ⟨S,U⟩]at l;simp only[Z3,seval,-ae,r3];refine zHt T sz λt2 Y=>?_;cases t2 with
  |false=>
   rw[DL λh=>by cases Y.2 ⟨⟨S,h.1⟩,h.2⟩]at l;refine Lk ?_;exact Gh.fin0 R trivial l
  |true=>
   have V:=Y.1 rfl;rw[DK ⟨V.1.2,V.2⟩]at l;refine Lk ?_;exact Gh.fin0 R trivial l
 obtain⟨w4,a4,hr⟩:=bp.rowI E;have ks:=Z.r _ (YZ E);simp only[Z3,seval,-ae,E,hr,r0];refine zAj (t:=0) af af T.O (by have:=S.1.1;omega) S.1.isp ⟨w4,a4,rfl⟩ ks λt M=>?_;cases t with
 |false=>
  rw[DL λh=>by cases M.2 (zG2.2 (h.2 _ (YZ E)))]at l;refine Lk ?_;exact Gh.fin0 R trivial l
 |true=>
 have h1:=zG2.1 (M.1 rfl);simp only[Z3,seval,-ae,WX E];refine⟨_,af,i+1,af,rfl,rfl,λx hx=>?_⟩;rw[YN E,YY,YT]at hx;rcases hx with hx|hx
 .exact U x hx
 .rw[hx];exact h1
section
variable{w:V1}
noncomputable def rt(O:V1)(P:V2)(C:V3)(z:V1)(c:Int):V1:=Classical.epsilon λw=>Rt O P C z c w
noncomputable abbrev yJ (O:V1) (P:V2) (C:V3) (x:V1):V1:=la (gS O) (gm O P C) (zv O) x
def zC4{c:Int}(h:Rt O P C z c w):Rt O P C z c (rt O P C z c):=Uu ⟨w,h⟩
def rt_eq(g:LG O P C)(l:gS O z){c:Int}(h:Rt O P C z c w):w=rt O P C z c:=Rt.unique g.F l h (zC4 h)
def Rt.flip(g:LG O P C)(I:gS O z){c:Int}(h:Rt O P C z (-c) w'):∃w,Rt O P C z c w:=by
 rcases h with ⟨l,rfl⟩|⟨l,j,y,n,D,E,H,rfl⟩
 .exact⟨zv O,.inl ⟨l,rfl⟩⟩
 .refine⟨_,.inr ⟨l,j,(n-1)*y,n,D,E,?_,rfl⟩⟩;have M:1<=n:=by
   have Q:=(g.isp (ZQ I l)).bd;have J:(1:Int)<=at_ O 0 ^ j:=Ht af;omega
  have e:c*(((n-1)*y:Nat):Int)=-c*y+(c*y)*n:=by
   rw[Uj,show((n-1:Nat):Int)=(n:Int)-1 by omega];grind
  rw[e,KE];exact H
def zGb(g:LG O P C)(l:gS O z){c:Int}(h:Rt O P C z (-c) w'):w'=yJ O P C (rt O P C z c):=by
 obtain⟨w,hw⟩:=Rt.flip g l h
 have:=Rt.neg g.F g.s l hw h
 rw[this,rt_eq g l hw]
def ok2(g:LG O P C)(k:jq O P C)(D:gS O x)(E:gS O y){c:Int}(H:c=2\/c=-2)(h:dM O P C x y≠zv O):OkC (at_ O 0) c:=by
 have l:=ZQ (g.F.g.com_in D E) h;rcases k with k|⟨k,J,I⟩
 .rw[k]at l;simp at l
 .rcases g.isp l with e|e|e|e
  .exact absurd (Z6 g.s g.F I af D E) h
  .exact .inr (.inr ⟨e,H⟩)
  .exact .inl e
  .exact .inr (.inl e)
def sn(g:LG O P C)(k:jq O P C)(E:gS O x)(H:gS O y)(D:gS O z){c:Int}(h:dM O P C (dM O P C x y) z≠zv O):OkC (at_ O 0) c:=by
 have I:=g.F.g.com_in E H;have l:=ZQ (g.F.g.com_in I D) h;rcases k with k|⟨k,M,J⟩
 .rw[k]at l;simp at l
 .rcases g.isp l with e|e|e|e
  .exact absurd (Z6 g.s g.F J af I D) h
  .exact absurd (zCi g.s g.F J af E H D) h
  .exact .inl e
  .exact .inr (.inl e)
noncomputable def tu(O:V1)(P:V2)(C:V3)(x y:V1):V1:=
 gm O P C (gm O P C (gm O P C (gm O P C x y) (yJ O P C (rt O P C (dM O P C x y) 2))) (rt O P C (dM O P C (dM O P C x y) x) 12)) (yJ O P C (rt O P C (dM O P C (dM O P C x y) y) 12))
noncomputable def gbr(O:V1)(P:V2)(C:V3)(x y:V1):V1:=
 gm O P C (gm O P C (dM O P C x y) (yJ O P C (rt O P C (dM O P C (dM O P C x y) x) 2))) (yJ O P C (rt O P C (dM O P C (dM O P C x y) y) 2))
def up_(h:gS O z):TT O (Lu O-Lu O) z:=by rw[Yk];exact h
def zLg(g:LG O P C)(k:jq O P C)(hs:jh σ sp vO vP vC)(l:dU vO vP vC O P C)(D:gS O x)(E:gS O y)(M:FI vx x)(Q:FI vy y)(hk:gS O (tu O P C x y)->tb σ K (tu O P C x y)):
  zA Li 41 [.ptr sp 0,vx,vy] σ K:=by
 have s:=g.s;have F:=g.F;have G:=F.g;have H:=G.com_in D E;have I:=G.com_in H D;have J:=G.com_in H E;have xJ:=G.cl D E;refine Lh Tryz.func41 ?_;refine Lk ?_;refine ZI s F hs l D E M Q λv1 R=>?_;refine Lk ?_;refine Z7 s F hs l (up_ D) (up_ E) M Q λv2 f2=>?_;refine Lk ?_;refine zC5 g hs l H R (c:=-2) (ok2 g k D E (.inr rfl)) af λv3 w3 f3 r3=>?_;have e3:=zGb g H (c:=2) r3;have T:gS O w3:=r3.gS F s H;refine Lk ?_;refine Z7 s F hs l (up_ xJ) (up_ T) f2 f3 λv4 f4=>?_;have U:=G.cl xJ T;refine Lk ?_;refine ZI s F hs l H D R M λv5 f5=>?_;refine Lk ?_;refine zC5 g hs l I f5 (c:=12) (sn g k D E D) af λv6 w6 f6 Z=>?_;have e6:=rt_eq g I Z;have V:gS O w6:=Z.gS F s I;refine Lk ?_;refine Z7 s F hs l (up_ U) (up_ V) f4 f6 λv7 f7=>?_;have X:=G.cl U V;refine Lk ?_;refine ZI s F hs l H E R Q λv8 f8=>?_;refine Lk ?_;refine zC5 g hs l J f8 (c:=-12) (sn g k D E E) af λv9 w9 f9 r9=>?_;have e9:=zGb g J (c:=12) r9;have Y:gS O w9:=r9.gS F s J;have Hc:=G.cl X Y;have e:mu O P C (Lu O) (gm O P C (gm O P C (gm O P C x y) w3) w6) w9=tu O P C x y:=by unfold tu;rw[<-e3,<-e6,<-e9]
 have S:=hk (by rw[<-e];exact Hc);rw[<-e]at S;refine Lk ?_;refine zBF s F hs l (up_ X) (up_ Y) f7 f9 ⟨λh0=>?_,λcap hc=>?_⟩
 .refine Lk ?_;exact Gh.ret (S.1 h0)
 .refine Lk ?_;exact Gh.ret (S.2 cap hc)
def zG5(g:LG O P C)(k:jq O P C)(hs:jh σ sp vO vP vC)(l:dU vO vP vC O P C)(D:gS O x)(E:gS O y)(U:FI vx x)(V:FI vy y)(hk:gS O (gbr O P C x y)->tb σ K (gbr O P C x y)):
  zA Li 44 [.ptr sp 0,vx,vy] σ K:=by
 have s:=g.s;have F:=g.F;have G:=F.g;have H:=G.com_in D E;have I:=G.com_in H D;have J:=G.com_in H E;refine Lh Tryz.func44 ?_;refine Lk ?_;refine ZI s F hs l D E U V λv1 M=>?_;refine Lk ?_;refine ZI s F hs l H D M U λv5 f5=>?_;refine Lk ?_;refine zC5 g hs l I f5 (c:=-2) (sn g k D E D) af λv6 Z f6 X=>?_;have e6:=zGb g I (c:=2) X;have R:gS O Z:=X.gS F s I;refine Lk ?_;refine Z7 s F hs l (up_ H) (up_ R) M f6 λv7 f7=>?_;have S:=G.cl H R;refine Lk ?_;refine ZI s F hs l H E M V λv8 f8=>?_;refine Lk ?_;refine zC5 g hs l J f8 (c:=-2) (sn g k D E E) af λv9 w9 f9 Y=>?_;have e9:=zGb g J (c:=2) Y;have T:gS O w9:=Y.gS F s J;have Hc:=G.cl S T;have e:mu O P C (Lu O) (gm O P C (dM O P C x y) Z) w9=gbr O P C x y:=by unfold gbr;rw[<-e6,<-e9]
 have Q:=hk (by rw[<-e];exact Hc);rw[<-e]at Q;refine Lk ?_;refine zBF s F hs l (up_ S) (up_ T) f7 f9 ⟨λh0=>?_,λcap hc=>?_⟩
 .refine Lk ?_;exact Gh.ret (Q.1 h0)
 .refine Lk ?_;exact Gh.ret (Q.2 cap hc)
def zDu(g:LG O P C)(R:dU vO vP vC O P C)(hL:jj vL xs)(hx:∀x∈xs,gS O x)(bj:(Lu xs)<=1000)(hk:∀v,FI v (xs.foldl (gm O P C) (zv O))->K v σ):zA Li 92 [.agg [vO,vP,vC],vL] σ K:=by
 have s:=g.s;have aX:=s.le;have G:=g.F.g;have Z:=R;obtain⟨⟨I,l,rfl⟩,⟨w1,D,rP,rfl,hP⟩,⟨J,E,rC,rfl,Gy⟩⟩:=R;obtain⟨wl,al,rl,rfl,bp⟩:=hL;refine zA.gh ?_;have ar:cT σ (σ.bf [.fz I l (Lu O) (cS O),.fz w1 D (Lu P) rP,.fz J E (Lu C) rC]):=zC σ _;have r3:∀{h:cg},cT (σ.bf [.fz I l (Lu O) (cS O),.fz w1 D (Lu P) rP,.fz J E (Lu C) rC]) h->h.rd σ.aM 0 3=Dc [.fz I l (Lu O) (cS O),.fz w1 D (Lu P) rP,.fz J E (Lu C) rC]:=λ{h} k=>by
  have:h.bt σ.aM=Dc [.fz I l (Lu O) (cS O),.fz w1 D (Lu P) rP,.fz J E (Lu C) rC]:=by rw[k.bt _ (by simp[cg.bf])];simp[cg.bf]
  rw[zV this];rfl
 refine Lg Tryz.func92 ?_;simp only[Z3,seval,-ae,uK (n:=(Lu O)) af,tn (n:=(Lu O)) af,YL,zh];refine Zg (λm X h'=>∃(i:Nat) (v:PV),i<=Lu xs/\m=Lu xs-i/\X=[.fz wl al (Lu xs) rl,.ptr σ.aM 0,v,.int .i64 i]/\cT (σ.bf [.fz I l (Lu O) (cS O),.fz w1 D (Lu P) rP,.fz J E (Lu C) rC]) h'/\FI v ((xs.take i).foldl (gm O P C) (zv O))/\gS O ((xs.take i).foldl (gm O P C) (zv O))) (Lu xs) ?_ ?_
 .refine .fz (σ.aM+1) (cS (zv O)) (by simp only[Z3,seval,-ae]) (zL _ _) λV=>.here ⟨0,.fz DF (.sl V 0 (Lu O) (.b6 (Lu O))) (Lu O) (cS (zv O)),af,af,?_,((cT.refl _).bf _).kill (by simp only[Z3,seval,-ae]),⟨DF,.sl V 0 (Lu O) (.b6 (Lu O)),aK⟩,s.zv _⟩;refine Lk ?_;simp[kq,Go.Ab.sb,gk]
 rintro m X h' ⟨i,v,hi,rfl,rfl,Q,T,S⟩
 have M:=T;obtain⟨wv,av,rfl⟩:=T;refine Lk ?_;refine Ll (λaG=>?_) λH=>?_
 .have aU:i=Lu xs:=af
  subst aU;rw[Yf]at M ⊢;exact Gh.fin0 (ar.trans Q) (M.bel _) (hk _ M)
 obtain⟨w4,Y,hr⟩:=bp.rowI H;have U:=hx _ (YZ H);simp only[Z3,seval,-ae,H,hr,r3 Q];refine zCd s Z S U M ⟨w4,Y,rfl⟩ λv2 f2=>?_;simp only[Z3,seval,-ae,WX H];have e:(xs.take (i+1)).foldl (gm O P C) (zv O)=gm O P C ((xs.take i).foldl (gm O P C) (zv O)) xs[i]:=by
  rw[YN H,U1];rfl
 exact⟨_,af,.here ⟨i+1,v2,af,rfl,rfl,Q,by rw[e];exact f2,by rw[e];exact G.cl S U⟩⟩
def zPH(g:LG O P C)(k:jq O P C)(l:dU vO vP vC O P C)(D:gS O x)(E:gS O y)(I:FI vx x)(J:FI vy y)(hk:∀v,FI v (tu O P C x y)->K v σ):zA Li 43 [.agg [vO,vP,vC],vx,vy] σ K:=by
 have s:=g.s;have F:=g.F;have G:=F.g;have H:=G.com_in D E;have M:=G.com_in H D;have Q:=G.com_in H E;have h0:=l.O.one;have h1:=l.P.one;have h2:=l.C.one;refine zA.gh ?_;have ar:cT σ (σ.bf [vO,vP,vC]):=zC σ _;refine qH mix Tryz.func43 ?_;simp only[Z3,seval,-ae,h0,h1,h2];refine QP s g.co l D E I J λv1 R=>?_;refine Lk ?_;refine QP s g.co l H D R I λv2 f2=>?_;refine Lk ?_;refine QP s g.co l H E R J λv3 f3=>?_;refine Lk ?_;refine zAh g l H R (c:=2) (ok2 g k D E (.inl rfl)) af λv4 X f4 r4=>?_;have e4:=rt_eq g H r4;have S4:gS O X:=r4.gS F s H;refine Lk ?_;refine zAV s g.co l S4 f4 λv5 S=>?_;have S5:=(G.inv_in S4).1;refine Lk ?_;refine zAh g l M f2 (c:=12) (sn g k D E D) af λv6 Y T r6=>?_;have e6:=rt_eq g M r6;have S6:gS O Y:=r6.gS F s M;refine Lk ?_;refine zAh g l Q f3 (c:=12) (sn g k D E E) af λv7 Z f7 r7=>?_;have e7:=rt_eq g Q r7;have S7:gS O Z:=r7.gS F s Q;refine Lk ?_;refine zAV s g.co l S7 f7 λv8 U=>?_;have S8:=(G.inv_in S7).1;simp only[Z3,seval,-ae,I.one,I.cells,J.one,J.cells,S.one,S.cells,T.one,T.cells,U.one,U.cells];have aN:dd FI [vx,vy,v5,v6,v8] [x,y,yJ O P C X,Y,yJ O P C Z]:=(((((dd.nil _).snoc I).snoc J).snoc S).snoc T).snoc U;refine zA.frz (s:=σ.aM+1) (cs:=[vx,vy,v5,v6,v8]) (by simp only[Z3,seval,-ae]) (aN.bI 0) λo1=>?_;simp only[kq,Go.Ab.sb,gk,and_self,if_true,decide_true,na,l.O.sb,l.P.sb,l.C.sb];refine zDu g l ⟨DF,_,_,rfl,aN⟩ (λu hu=>?_) aK λv9 V=>?_
 .simp only[YH,Ym,or_false]at hu;rcases hu with rfl|rfl|rfl|rfl|rfl<;>assumption
 have e:[x,y,yJ O P C X,Y,yJ O P C Z].foldl (gm O P C) (zv O)=tu O P C x y:=by
  simp only[List.foldl_cons,List.foldl_nil];rw[G.l1 D,e4,e6,e7];rfl
 rw[e]at V;refine Lk ?_;exact Gh.fin0 ((ar.bf _).kill af) (V.bel _) (hk _ V)
def zIl(g:LG O P C)(k:jq O P C)(l:dU vO vP vC O P C)(D:gS O x)(E:gS O y)(Z:FI vx x)(cI:FI vy y)(hk:∀v,FI v (gbr O P C x y)->K v σ):zA Li 45 [.agg [vO,vP,vC],vx,vy] σ K:=by
 have s:=g.s;have F:=g.F;have G:=F.g;have H:=G.com_in D E;have J:=G.com_in H D;have M:=G.com_in H E;have h0:=l.O.one;have h1:=l.P.one;have h2:=l.C.one;refine zA.gh ?_;have ar:cT σ (σ.bf [vO,vP,vC]):=zC σ _;refine Lg Tryz.func45 ?_;simp only[Z3,seval,-ae,h0,h1,h2];refine QP s g.co l D E Z cI λv1 I=>?_;refine Lk ?_;refine QP s g.co l H D I Z λv2 f2=>?_;refine Lk ?_;refine QP s g.co l H E I cI λv3 f3=>?_;refine Lk ?_;refine zAh g l J f2 (c:=2) (sn g k D E D) af λv6 T f6 r6=>?_;have e6:=rt_eq g J r6;have V:gS O T:=r6.gS F s J;refine Lk ?_;refine zAV s g.co l V f6 λv5 Q=>?_;have S5:=(G.inv_in V).1;refine Lk ?_;refine zAh g l M f3 (c:=2) (sn g k D E E) af λv7 U f7 r7=>?_;have e7:=rt_eq g M r7;have X:gS O U:=r7.gS F s M;refine Lk ?_;refine zAV s g.co l X f7 λv8 R=>?_;have S8:=(G.inv_in X).1;simp only[Z3,seval,-ae,I.one,I.cells,Q.one,Q.cells,R.one,R.cells];have Y:dd FI [v1,v5,v8] [dM O P C x y,yJ O P C T,yJ O P C U]:=(((dd.nil _).snoc I).snoc Q).snoc R;refine zA.frz (s:=σ.aM+1) (cs:=[v1,v5,v8]) (by simp only[Z3,seval,-ae]) (Y.bI 0) λo1=>?_;simp only[kq,Go.Ab.sb,gk,and_self,if_true,decide_true,na,l.O.sb,l.P.sb,l.C.sb];refine zDu g l ⟨DF,_,_,rfl,Y⟩ (λu hu=>?_) aK λv9 S=>?_
 .simp only[YH,Ym,or_false]at hu;rcases hu with rfl|rfl|rfl<;>assumption
 have e:[dM O P C x y,yJ O P C T,yJ O P C U].foldl (gm O P C) (zv O)=gbr O P C x y:=by
  simp only[List.foldl_cons,List.foldl_nil];rw[G.l1 H,e6,e7];rfl
 rw[e]at S;refine Lk ?_;exact Gh.fin0 ((ar.bf _).kill af) (S.bel _) (hk _ S)
end
end Go.Proofs
namespace Go.Mx
open Go.Ab Go.Lie Go.Grp
variable{p:Int}{n:Nat}{v:V1}{A B:V2}
structure Ve(p:Int)(n:Nat)(v:V1):Prop where
 len:(Lu v)=n
 bd:∀j,0<=at_ v j/\at_ v j<p
def Ma(p:Int)(n:Nat)(A:V2):Prop:=∀r∈A,Ve p n r
def row(A:V2)(i:Nat):V1:=A.getD i []
def tm(p:Int)(x:Int)(r out:V1):V1:=FD (λo b=>(o+x*b) % p) out r
def AL(p:Int)(n:Nat)(v:V1)(A:V2):Nat->V1
 |0=>Ep n 0
 |i+1=>tm p (at_ v i) (row A i) (AL p n v A i)
abbrev vt(p:Int)(n:Nat)(v:V1)(A:V2):V1:=AL p n v A (Lu v)
def mm(p:Int)(n:Nat)(A B:V2):V2:=A.map λr=>vt p n r B
def Ma.row(h:Ma p n A){i:Nat}(l:i<Lu A):Ve p n (Mx.row A i):=by
 have:Mx.row A i=A[i]:=by simp[Mx.row,YW,YQ l]
 rw[this];exact h _ (YZ l)
def zOC{i:Nat}(l:i<Lu A):Mx.row A i=A[i]:=by simp[Mx.row,YW,YQ l]
def zAa{x:Int}{r out:V1}(h:(Lu r)=Lu out):(tm p x r out).length=Lu out:=by simp[tm,h]
def zP0{x:Int}{r out:V1}(h:(Lu r)=Lu out){j:Nat}(l:j<Lu out):at_ (tm p x r out) j=(at_ out j+x*at_ r j) % p:=by
 have D:j<(tm p x r out).length:=by rw[zAa h];exact l
 rw[dp D,dp l,dp (af:j<Lu r)];simp[tm]
def Qh(l:Ma p n A):∀{i:Nat},i<=Lu A->(AL p n v A i).length=n
 |0,_=>by simp[AL]
 |i+1,hi=>by
  rw[AL,zAa]
  .exact Qh l af
  .rw[Qh l af];exact(l.row af).len
def zLt(H:0<p)(l:Ma p n A){j:Nat}(D:j<n):∀{i:Nat},i<=Lu A->at_ (AL p n v A i) j=(jn i λk=>at_ v k*at_ (Mx.row A k) j) % p
 |0,_=>by rw[AL,zb,jn,IL]
 |i+1,hi=>by
  have E:=Qh (v:=v) l (i:=i) af;rw[AL,zP0 (by rw[E];exact(l.row af).len) (by rw[E];exact D),zLt H l D af,jn,IP]
def zLs(E:0<p)(l:Ma p n A){i:Nat}(D:i<=Lu A):Ve p n (AL p n v A i):=by
 refine⟨Qh l D,λj=>?_⟩;rcases YG j n with h|h
 .rw[zLt E l h D];exact⟨Y3 _ af,Y6 _ E⟩
 .rw[nX (by rw[Qh l D];exact h)];omega
def vt_ve(D:0<p)(l:Ma p n A)(E:(Lu v)=Lu A):Ve p n (vt p n v A):=zLs D l af
def zCa:(mm p n A B).length=Lu A:=by simp[mm]
def mm_ma(I:0<p)(D:Ma p (Lu B) A)(E:Ma p n B):Ma p n (mm p n A B):=by
 intro r l;simp only[mm,YI]at l;obtain⟨a,H,rfl⟩:=l;exact vt_ve I E (D a H).len
end Go.Mx
namespace Go.Nl
open Go.Im
structure Nil3(G A:Type)[lM A] where
 mul:G->G->G
 one:G
 inv:G->G
 i:A->G
 H:G->G->A
 E:G->A->A
 ac_:∀x y z,mul (mul x y) z=mul x (mul y z)
 l1:∀x,mul one x=x
 r1:∀x,mul x one=x
 il:∀x,mul (inv x) x=one
 ir:∀x,mul x (inv x)=one
 i_add:∀a b,i (a+b)=mul (i a) (i b)
 E_add:∀x a b,E x (a+b)=E x a+E x b
 E_mul:∀x y a,E (mul x y) a=E x a+E y a
 E_E:∀x y a,E x (E y a)=0
 E_i:∀a b,E (i a) b=0
 H_l:∀x y z,H (mul x y) z=H x z+(12:Int) • E y (H x z)+H y z
 H_swap:∀x y,H y x=- H x y
 H_i:∀a y,H (i a) y=(6:Int) • E y a
 cm:∀x y,mul x y=mul (mul y x) (i ((2:Int) • H x y))
 past:∀a x,mul (i a) x=mul x (i (a+(12:Int) • E x a))
 t2:∀a:A,(2:Int) • a=0->a=0
 t3:(∀a:A,(3:Int) • a=0->a=0)\/∀x a,E x a=0
namespace Nil3
variable{G A:Type}[lM A](N:Nil3 G A)
def sub0{a b:A}(h:a-b=0):a=b:=by exact mq [a,b] h
def can{x y z:G}(h:N.mul x y=N.mul x z):y=z:=by
 have:=congrArg (N.mul (N.inv x)) h
 rwa[<-N.ac_,<-N.ac_,N.il,N.l1,N.l1]at this
def Bb:N.i 0=N.one:=by
 have h:=N.i_add 0 0;rw[show(0:A)+0=0 by exact gr []]at h;exact(N.can (x:=N.i 0) (y:=N.one) (by rw[N.r1];exact h)).symm
def tI(x:G):N.E x 0=0:=by
 have h:=N.E_add x 0 0;rw[show(0:A)+0=0 by exact gr []]at h;exact mq [N.E x 0] h.symm
def wL(x:G)(a:A):N.E x (-a)=- N.E x a:=by
 have h:=N.E_add x a (-a);rw[show a + -a=0 by exact gr [a],N.tI]at h;exact mq [N.E x (-a),N.E x a] h.symm
def we(x:G)(a:A):N.E x ((2:Int) • a)=(2:Int) • N.E x a:=by
 have h:=N.E_add x a a;rw[show a+a=(2:Int) • a by exact gr [a]]at h;exact mq [N.E x ((2:Int) • a),N.E x a] h
def AE(x:G)(a:A):N.E x ((6:Int) • a)=(6:Int) • N.E x a:=by
 have D:=N.we x a;have E:=N.E_add x ((2:Int) • a) ((2:Int) • a);have l:=N.E_add x ((2:Int) • a+(2:Int) • a) ((2:Int) • a);rw[show(2:Int) • a+(2:Int) • a+(2:Int) • a=(6:Int) • a by exact gr [a]]at l;exact mq [N.E x ((6:Int) • a),N.E x a,N.E x ((2:Int) • a),N.E x ((2:Int) • a+(2:Int) • a)] (mad (mad (mms 3 D) E) l)
def E_12(x:G)(a:A):N.E x ((12:Int) • a)=(12:Int) • N.E x a:=by
 have D:=N.AE x a;have l:=N.we x ((6:Int) • a);rw[show(2:Int) • (6:Int) • a=(12:Int) • a by exact gr [a]]at l;exact mq [N.E x ((12:Int) • a),N.E x a,N.E x ((6:Int) • a)] (mad (mms 2 D) l)
def Cb(x:G)(a b:A):N.E x (a-b)=N.E x a-N.E x b:=by
 have h:=N.E_add x a (-b);rw[N.wL,show a + -b=a-b by exact gr [a,b]]at h;exact mq [N.E x (a-b),N.E x a,N.E x b] h
def H_self(x:G):N.H x x=0:=by
 have h:=N.H_swap x x;exact N.t2 _ (by exact mq [N.H x x] h)
def H_r(x y z:G):N.H x (N.mul y z)=N.H x z+N.H x y+(12:Int) • N.E z (N.H x y):=by
 have l:=N.H_swap (N.mul y z) x;have D:=N.H_l y z x;have E:=N.H_swap x y;have H:=N.H_swap x z;rw[l,D,E,H,N.wL];exact gr [N.H x y,N.E z (N.H x y),N.H x z]
def H_one(x:G):N.H N.one x=0:=by
 rw[<-N.Bb,N.H_i,N.tI];exact gr []
def H_ir(x:G)(a:A):N.H x (N.i a)=- ((6:Int) • N.E x a):=by
 rw[N.H_swap (N.i a) x,N.H_i]
def H_inv(x:G):N.H x (N.inv x)=0:=by
 have h:=N.H_r x x (N.inv x);have l:=N.H_swap N.one x;rw[N.ir,l,N.H_one,N.H_self,N.tI]at h;exact mq [N.H x (N.inv x)] h.symm
def hw(x y z:G):N.E y (N.H x z)-N.E x (N.H y z)-N.E z (N.H x y)=0:=by
 have D:=N.H_l x y z;have l:=N.H_l (N.mul y x) (N.i ((2:Int) • N.H x y)) z;rw[<-N.cm,N.H_l y x z,N.E_i,N.H_i,N.we]at l;have E:(12:Int) • (N.E y (N.H x z)-N.E x (N.H y z)-N.E z (N.H x y))=0:=by exact mq [N.E y (N.H x z),N.E x (N.H y z),N.E z (N.H x y),N.H (N.mul x y) z,N.H x z,N.H y z] (mad D.symm l)
 rcases N.t3 with t|t
 .exact N.t2 _ (N.t2 _ (t _ (by exact mq [N.E y (N.H x z),N.E x (N.H y z),N.E z (N.H x y)] E)))
 .rw[t,t,t];exact gr []
def f(x y:G):A:=- N.H x y+(2:Int) • N.E x (N.H x y)-(2:Int) • N.E y (N.H x y)
def add(x y:G):G:=N.mul (N.mul x y) (N.i (N.f x y))
def br(x y:G):A:=(2:Int) • N.H x y-(12:Int) • N.E x (N.H x y)-(12:Int) • N.E y (N.H x y)
def E_addG(x y:G)(a:A):N.E (N.add x y) a=N.E x a+N.E y a:=by
 unfold add;rw[N.E_mul,N.E_mul,N.E_i];exact gr [N.E x a,N.E y a]
def Ef(x y z:G):N.E z (N.f x y)=- N.E z (N.H x y):=by
 unfold f;rw[N.Cb,N.E_add,N.wL,N.we,N.we,N.E_E,N.E_E];exact gr [N.E z (N.H x y)]
def Ebr(x y z:G):N.E z (N.br x y)=(2:Int) • N.E z (N.H x y):=by
 unfold br;rw[N.Cb,N.Cb,N.we,N.E_12,N.E_12,N.E_E,N.E_E];exact gr [N.E z (N.H x y)]
def mul_i(x:G)(a b:A):N.mul (N.mul x (N.i a)) (N.i b)=N.mul x (N.i (a+b)):=by rw[N.ac_,<-N.i_add]
def i_mul(x y:G)(a:A):N.mul (N.mul x (N.i a)) y=N.mul (N.mul x y) (N.i (a+(12:Int) • N.E y a)):=by rw[N.ac_,N.past,<-N.ac_]
def add_comm(x y:G):N.add x y=N.add y x:=by
 unfold add;rw[N.cm x y,N.mul_i];congr 2;unfold f;rw[N.H_swap x y,N.wL,N.wL];exact gr [N.H x y,N.E x (N.H x y),N.E y (N.H x y)]
def add_i(x:G)(a:A):N.add x (N.i a)=N.mul x (N.i (a+(6:Int) • N.E x a)):=by
 unfold add;rw[N.mul_i];congr 2;unfold f;rw[N.H_ir,N.wL,N.AE,N.E_E,N.wL,N.AE,N.E_i];exact gr [a,N.E x a]
def add_ii(a b:A):N.add (N.i a) (N.i b)=N.i (a+b):=by
 rw[N.add_i,N.E_i,<-N.i_add,show a+(b+(6:Int) • (0:A))=a+b by exact gr [a,b]]
def add_one(x:G):N.add x N.one=x:=by
 rw[<-N.Bb,N.add_i,N.tI,show(0:A)+(6:Int) • (0:A)=0 by exact gr [],N.Bb,N.r1]
def add_inv(x:G):N.add x (N.inv x)=N.one:=by
 unfold add f;rw[N.H_inv,N.tI,N.tI,N.ir,N.l1,show -(0:A)+(2:Int) • (0:A)-(2:Int) • (0:A)=0 by exact gr [],N.Bb]
def add_assoc(x y z:G):N.add (N.add x y) z=N.add x (N.add y z):=by
 have H:N.f (N.add x y) z=- (N.H x z+(12:Int) • N.E y (N.H x z)+N.H y z-(6:Int) • N.E z (N.H x y))+(2:Int) • (N.E x (N.H x z)+N.E x (N.H y z)+N.E y (N.H x z)+N.E y (N.H y z))-(2:Int) • (N.E z (N.H x z)+N.E z (N.H y z)):=by
  have E:N.H (N.add x y) z=N.H x z+(12:Int) • N.E y (N.H x z)+N.H y z-(6:Int) • N.E z (N.H x y):=by
   unfold add;rw[N.H_l (N.mul x y),N.E_i,N.H_i,N.Ef,N.H_l x y z];exact gr [N.H x z,N.E y (N.H x z),N.H y z,N.E z (N.H x y)]
  have D:∀w,N.E w (N.H (N.add x y) z)=N.E w (N.H x z)+N.E w (N.H y z):=λw=>by
   rw[E,N.Cb,N.E_add,N.E_add,N.E_12,N.E_E,N.AE,N.E_E];exact gr [N.E w (N.H x z),N.E w (N.H y z)]
  unfold f;rw[N.E_addG,D,D,D,E];exact gr [N.H x z,N.E y (N.H x z),N.H y z,N.E z (N.H x y),N.E x (N.H x z),N.E x (N.H y z),N.E y (N.H y z),N.E z (N.H x z),N.E z (N.H y z)]
 have I:N.f x (N.add y z)=- (N.H x z+N.H x y+(12:Int) • N.E z (N.H x y)+(6:Int) • N.E x (N.H y z))+(2:Int) • (N.E x (N.H x z)+N.E x (N.H x y))-(2:Int) • (N.E y (N.H x z)+N.E y (N.H x y)+N.E z (N.H x z)+N.E z (N.H x y)):=by
  have E:N.H x (N.add y z)=N.H x z+N.H x y+(12:Int) • N.E z (N.H x y)+(6:Int) • N.E x (N.H y z):=by
   unfold add;rw[N.H_r x (N.mul y z),N.H_ir,N.Ef,N.E_i,N.H_r x y z];exact gr [N.E x (N.H y z),N.H x z,N.H x y,N.E z (N.H x y)]
  have D:∀w,N.E w (N.H x (N.add y z))=N.E w (N.H x z)+N.E w (N.H x y):=λw=>by
   rw[E,N.E_add,N.E_add,N.E_add,N.E_12,N.E_E,N.AE,N.E_E];exact gr [N.E w (N.H x z),N.E w (N.H x y)]
  unfold f;rw[N.E_addG,D,D,D,E];exact gr [N.H x z,N.H x y,N.E z (N.H x y),N.E x (N.H y z),N.E x (N.H x z),N.E x (N.H x y),N.E y (N.H x z),N.E y (N.H x y),N.E z (N.H x z)]
 have l:N.add (N.add x y) z=N.mul (N.mul (N.mul x y) z) (N.i (N.f x y+(12:Int) • N.E z (N.f x y)+N.f (N.add x y) z)):=by
  show N.mul (N.mul (N.add x y) z) (N.i (N.f (N.add x y) z))=_;rw[show N.mul (N.add x y) z=N.mul (N.mul (N.mul x y) z) (N.i (N.f x y+(12:Int) • N.E z (N.f x y))) from N.i_mul _ _ _,N.mul_i]
 have r:N.add x (N.add y z)=N.mul (N.mul (N.mul x y) z) (N.i (N.f y z+N.f x (N.add y z))):=by
  show N.mul (N.mul x (N.add y z)) (N.i (N.f x (N.add y z)))=_;rw[show N.mul x (N.add y z)=N.mul (N.mul (N.mul x y) z) (N.i (N.f y z)) by unfold add;rw[<-N.ac_,<-N.ac_],N.mul_i]
 rw[l,r];congr 2;rw[H,I,N.Ef];have h:=N.hw x y z;unfold f;exact mq [N.H x y,N.E x (N.H x y),N.E y (N.H x y),N.E z (N.H x y),N.H x z,N.E y (N.H x z),N.H y z,N.E x (N.H x z),N.E x (N.H y z),N.E y (N.H y z),N.E z (N.H x z),N.E z (N.H y z)] (mms (-8) h)
def CA(x y:G):N.br y x=- N.br x y:=by
 unfold br;rw[N.H_swap x y,N.wL,N.wL];exact gr [N.H x y,N.E y (N.H x y),N.E x (N.H x y)]
def br_self(x:G):N.br x x=0:=by
 unfold br;rw[N.H_self,N.tI];exact gr []
def br_add(x y z:G):N.br (N.add x y) z=N.br x z+N.br y z:=by
 have D:N.H (N.add x y) z=N.H x z+(12:Int) • N.E y (N.H x z)+N.H y z-(6:Int) • N.E z (N.H x y):=by
  unfold add;rw[N.H_l (N.mul x y),N.E_i,N.H_i,N.Ef,N.H_l x y z];exact gr [N.H x z,N.E y (N.H x z),N.H y z,N.E z (N.H x y)]
 have l:∀w,N.E w (N.H (N.add x y) z)=N.E w (N.H x z)+N.E w (N.H y z):=λw=>by
  rw[D,N.Cb,N.E_add,N.E_add,N.E_12,N.E_E,N.AE,N.E_E];exact gr [N.E w (N.H x z),N.E w (N.H y z)]
 unfold br;rw[N.E_addG,l,l,l,D];have h:=N.hw x y z;exact mq [N.H x z,N.E y (N.H x z),N.H y z,N.E z (N.H x y),N.E x (N.H x z),N.E x (N.H y z),N.E y (N.H y z),N.E z (N.H x z),N.E z (N.H y z)] (mms 12 h)
def br_i(a:A)(y:G):N.br (N.i a) y=(12:Int) • N.E y a:=by
 unfold br;rw[N.H_i,N.E_i,N.AE,N.E_E];exact gr [N.E y a]
def jacobi(x y z:G):N.br (N.i (N.br x y)) z+N.br (N.i (N.br y z)) x+N.br (N.i (N.br z x)) y=0:=by
 rw[N.br_i,N.br_i,N.br_i,N.Ebr,N.Ebr,N.Ebr];have h:=N.hw x y z;have l:N.H z x=- N.H x z:=N.H_swap x z;rw[l,N.wL];exact mq [N.E z (N.H x y),N.E x (N.H y z),N.E y (N.H x z)] (mms (-24) h)
def br3(a:A)(y z:G):N.br (N.i (N.br (N.i a) y)) z=0:=by
 rw[N.br_i,N.br_i,N.E_12,N.E_E];exact gr []
def mul_eq(x y:G){h t:A}(I:(2:Int) • h=N.br x y)(J:(12:Int) • t=N.br x (N.i (N.br x y))+N.br y (N.i (N.br y x)))(l:N.br x (N.i (N.br x y))+N.br y (N.i (N.br y x))=0->t=0):N.mul x y=N.add (N.add (N.add x y) (N.i h)) (N.i t):=by
 have D:h=N.H x y-(6:Int) • N.E x (N.H x y)-(6:Int) • N.E y (N.H x y):=by
  have:=N.t2 (h-(N.H x y-(6:Int) • N.E x (N.H x y)-(6:Int) • N.E y (N.H x y))) (by unfold br at I;exact mq [h,N.H x y,N.E x (N.H x y),N.E y (N.H x y)] I)
  exact mq [h,N.H x y,N.E x (N.H x y),N.E y (N.H x y)] this
 have M:N.br x (N.i (N.br x y))=- ((24:Int) • N.E x (N.H x y)):=by
  rw[N.CA (N.i (N.br x y)) x,N.br_i,N.Ebr];exact gr [N.E x (N.H x y)]
 have Q:N.br y (N.i (N.br y x))=(24:Int) • N.E y (N.H x y):=by
  rw[N.CA (N.i (N.br y x)) y,N.br_i,N.CA x y,N.wL,N.Ebr];exact gr [N.E y (N.H x y)]
 have E:t=(2:Int) • N.E y (N.H x y)-(2:Int) • N.E x (N.H x y):=by
  rw[M,Q]at J l;rcases N.t3 with t3|t3
  .have:=t3 (t-((2:Int) • N.E y (N.H x y)-(2:Int) • N.E x (N.H x y))) (N.t2 _ (N.t2 _ (by exact mq [t,N.E y (N.H x y),N.E x (N.H x y)] J)))
   exact sub0 this
  .rw[t3,t3]at l ⊢;rw[l (by exact gr [])];exact gr []
 have H:∀w,N.E w h=N.E w (N.H x y):=λw=>by
  rw[D,N.Cb,N.Cb,N.AE,N.AE,N.E_E,N.E_E];exact gr [N.E w (N.H x y)]
 have R:∀w,N.E w t=0:=λw=>by
  rw[E,N.Cb,N.we,N.we,N.E_E,N.E_E];exact gr []
 rw[N.add_i (N.add x y) h,N.add_i _ t,R,N.E_addG,H,H];unfold add;rw[N.mul_i,N.mul_i]
 have:N.f x y+(h+(6:Int) • (N.E x (N.H x y)+N.E y (N.H x y))+(t+(6:Int) • (0:A)))=0:=by
  rw[D,E];unfold f;exact gr [N.H x y,N.E x (N.H x y),N.E y (N.H x y)]
 rw[this,N.Bb,N.r1]
end Nil3
end Go.Nl
namespace Go.Lie
open Go.Ab
variable{p:Int}{n:Nat}{W:V2}
def zL0(o:eT p n W){u:V2}{x:V1}(l:mb p n W u)(E:El p n x):(∀j,at_ (iW p W u x) j=0)↔ki p n W u (at_ x):=by
 have H:=zAx o l.els E;have D:=Qk o l.els E;constructor
 .intro h;refine(zO _).eqv _ _ (dq.of_eq λj=>?_) H;rw[h j];omega
 .intro h;have I:ki p n W u (at_ (iW p W u x)):=(zO _).eqv _ _ (dq.of_eq λj=>af) ((zO _).sub h H);rcases YG (cX (iW p W u x)) n with hd|hd
  .obtain⟨v,J,e⟩:=zBu o l D I hd
   have:=(zAy o l.led l.asc E).1 v J
   rw[e]at this;exact absurd this (ZJ (by rw[D.1];exact hd))
  .intro j;rcases YG j n with g|g
   .exact zn af
   .exact D.beyond g
def mb.clo:∀{u:V2},mb p n W u->∀v∈u,ki p n W (Dp u (cX v)) λj=>p*at_ v j
 |_,.nil=>λv D=>(by cases D)
 |_,.cons (v:=v) (u:=u) D ha hc hb=>λw hw=>by
  rcases YH.1 hw with rfl|hw
  .rw[zFi ha];exact hc
  .refine zg (λt l=>?_) (hb.clo w hw);rw[Dp,F8]at l ⊢;exact⟨Yt _ l.1,l.2⟩
def zS4(o:eT p n W){u:V2}{z:V1}(l:mb p n W u)(D:El p n z)(h:ki p n W u (at_ z)):ki p n W (Fp u (cX z)) (at_ z):=by
 have E:=(zL0 o l D).2 h;rw[zEx o l.els l.asc D]at E;have H:=zAx o (u:=Fp u (cX z)) (λv I=>l.els v (zDQ.1 I).1) D;refine(zO _).eqv _ _ (dq.of_eq λj=>?_) H;rw[E j];omega
def zRZ(o:eT p n W)(hp:p=2\/p=3\/p=5\/p=7){L u:V2}{x:V1}(D:Canon p n W L u)(E:El p n x)(y9:ki p n W L λj=>p*at_ x j)(h0:¬∀j,at_ (iW p W u x) j=0):
  ∃w,mb p n W w/\(∀f,ki p n W (x::L) f↔ki p n W w f)/\Lu w=(Lu u)+1:=by
 have l:=D.base;have Q:∀f,ki p n W (x::L) f↔ki p n W (u++[x]) f:=λf=>by
  have X:∀v∈L,ki p n W (u++[x]) (at_ v):=λv hv=>zg (λw hw=>by simp[hw]) ((D.gen _).1 (zY hv));have Y:∀v∈u,ki p n W (x::L) (at_ v):=λv hv=>zg (λw hw=>by simp[hw]) ((D.gen _).2 (zY hv));refine⟨ZM λv hv=>?_,ZM λv hv=>?_⟩
  .rcases YH.1 hv with rfl|hv
   .exact zY aK
   .exact X v hv
  .simp only[YY,YT]at hv;rcases hv with hv|rfl
   .exact Y v hv
   .exact zY aK
 have g1:lg p n W (x::L) u [x]:=⟨l.led,l.asc,λv hv=>by rw[YT.1 hv];exact E,λv hv=>.inl (l.clo v hv),Q⟩
 have g2:=g1.reduce o;have H:=Qk o l.els E;have Z:=(zAy o l.led l.asc E).1;have S:=zAx o l.els E;generalize iW p W u x=x' at *
 have hd:cX x'<n:=by
  rcases YG (cX x') n with h|h
  .exact h
  .exact absurd (λj=>by
    rcases YG j n with g|g
    .exact zn af
    .exact H.beyond g) h0
 have V:=ZJ (v:=x') (by rw[H.1];exact hd);have gf:∀v∈u,cX v≠cX x':=λv hv e=>V (by rw[<-e];exact Z v hv);have CQ:=H.at0 o (cX x');obtain⟨k,bU,df,hk⟩:=zEY hp (a:=at_ x' (cX x')) af af;have I:=g2.take o hd gf hk;have M:=I.els _ (YT.2 rfl);obtain⟨y1,y2⟩:=ZT o H k;obtain⟨z1,z2⟩:=ZT o y1 p;generalize norm p W (eX k x' 0 x')=y at *
 generalize norm p W (eX p y 0 y)=z at *
 have T:ki p n W u (at_ z):=by
  have q1:=(D.gen _).1 y9;have q2:=(zO u).sub q1 ((zO u).mul p _ S);have q3:=(zO u).mul k _ q2;refine(zO u).eqv _ _ (z2.trans ((y2.mul p).trans (dq.of_eq λj=>?_))) q3;grind
 have U:=zS4 o l M T;have R:El p n (Ep n 0):=⟨aK,λt ht=>by rw[Yi ht];have:=o.pr.1;omega⟩
 have o9:cX z<=cX (Ep n (0:Int)):=by
  have h2:=zAJ (v:=Ep n (0:Int)) (d:=n) aK λj _=>zb n j
  have:=Qg z
  rw[M.1]at this;omega
 have g4:=I.replace (x:=Ep n 0) R o9 (by
  refine(zO _).eqv _ _ (dq.of_eq λj=>?_) (zg (λw hw=>?_) U)
  .rw[zb];omega
  .rw[zDQ]at hw ⊢;exact⟨ZL.2 (.inr hw.1),hw.2⟩)
 have J:=g4.drop λj=>zb n j;exact⟨po u y,J.base,λf=>by have:=J.gen f;rwa[Ye]at this,Z8 u y⟩
def zP6(o:eT p n W)(I:p=2\/p=3\/p=5\/p=7){L u:V2}{x:V1}(J:Canon p n W L u)(M:El p n x)(Q:ki p n W L λj=>p*at_ x j)(l:¬∀j,at_ (iW p W u x) j=0):∃out,Canon p n W (x::L) out/\Lu out=(Lu u)+1:=by
 obtain⟨w,D,E,H⟩:=zRZ o I J M Q l;have h:=zFA o D;refine⟨_,h.1.trans E,?_⟩;rw[<-H]
 have:=congrArg F6 h.2
 simpa using this
end Go.Lie
namespace Go.Proofs.YtnfnaniemocleaaGreat
open Go.ChangeShapes Go.WideShapes Go.ChangeAt Go.RowKit Go.Ab Go.Joins Go.Lie Go.Proofs
def own:ownKnob Tryz.prog.godebug=none:=by kernel_rfl
def laidOut:laidOutB Li=DF:=by kernel_rfl
end Go.Proofs.YtnfnaniemocleaaGreat
namespace Go.Proofs
open Go.Ab Go.Lie
variable{p:Int}{cO pc:List PV}{c k m n p0 sO:Nat}{h σ:cg}{vB vC vL vO vP vx vy:PV}{K:PV->cg->Prop}{O v x y:V1}{W xs:V2}{B:V3}
def u64_and{n:Nat}(D:n<=6):j7 .and .other (.int .u64 n) (.int .u64 4294967295)=Dc (.int .u64 n):=by
 have l:n=0\/n=1\/n=2\/n=3\/n=4\/n=5\/n=6:=af
 rcases l with rfl|rfl|rfl|rfl|rfl|rfl|rfl<;>rfl
def zRW{n:Nat}(D:n<=6):j7 .shr .other (.int .u64 n) (.int .u64 32)=Dc (.int .u64 0):=by
 have l:n=0\/n=1\/n=2\/n=3\/n=4\/n=5\/n=6:=af
 rcases l with rfl|rfl|rfl|rfl|rfl|rfl|rfl<;>rfl
def zI2{n:Nat}(D:n<=6):IntKind.u64.wrap (n:Int)=n:=by
 have l:n=0\/n=1\/n=2\/n=3\/n=4\/n=5\/n=6:=af
 rcases l with rfl|rfl|rfl|rfl|rfl|rfl|rfl<;>rfl
def zRP(l:n<=6)(H:K (.tup [.int .u64 0,.int .u64 n]) σ):zA Li 225 [.int .u64 1,.int .u64 n] σ K:=by
 have E:j7 .and .other (.int .u64 1) (.int .u64 4294967295)=Dc (.int .u64 1):=rfl;have D:j7 .and .other (.int .u64 0) (.int .u64 4294967295)=Dc (.int .u64 0):=rfl;have J:j7 .shr .other (.int .u64 1) (.int .u64 32)=Dc (.int .u64 0):=rfl;have I:j7 .shr .other (.int .u64 0) (.int .u64 32)=Dc (.int .u64 0):=rfl;have M:IntKind.u64.wrap 0=0:=rfl;refine Lg Tryz.func225 ?_;simp only[Z3,seval,-ae,E,D,J,I,u64_and l,zRW l,zI2 l,M,Ub,UU,Y9,UO];exact H
def zTS(D:n<=6)(l:K (.tup [.int .u64 0,.int .u64 n]) σ):zA Li 184 [.int .u64 1,.int .u64 n] σ K:=by
 refine Lg Tryz.func184 ?_;refine Lk ?_;refine zRP D ?_;refine Lk ?_;exact l
def nF(p:Int)(n d:Nat):V1:=Ep d p++Ep (n-d) 0
def zEd{d:Nat}(hd:d<=n):(nF p n d).length=n:=by simp[nF];omega
def zJX{h:cg}{o d m len:Nat}{l:jZ}{x:PV}{cs:List PV}(H:vd x=Dc m)(E:min m len≠0)(D:ZV 1 h x (min m len)=Dc cs){h':cg}(hw:h.wr o d cs=Dc h'):Az 1 h (.sl o d len l) x=Dc (.int .i64 (min m len:Nat),h'):=by
 unfold Az;rw[show vd (.sl o d len l)=Dc len from rfl,H];simp only[YP];rw[DL E];simp only[D,YP,hw,EF]
def zPY{d m:Nat}(hd:d+m<=n)(E:m<=d):(cS (nF p n d)).take d++(cS (nF p n d)).take m++(cS (nF p n d)).drop (d+m)=cS (nF p n (d+m)):=by
 unfold nF cS;simp only[<-List.map_take,<-List.map_drop,<-Yx];congr 1;refine UM (by simp;omega) λi l D=>?_;simp only[List.getElem_append,List.getElem_take,List.getElem_drop,UI,YB,Yh,YL]
 repeat' split
 all_goals first|rfl|(exfalso;simp at *;omega)|omega
def zPv{w:Bool}{a:AV}{l:Nat}(Q:l=1)(R:n<=6)(hk:∀v,FI v (Ep n p)->K v σ):zA Li 114 [.fz w a l (cS [p]),.int .i64 n] σ K:=by
 subst Q;have V:IntKind.u64.wrap ((1:Nat):Int)=1:=rfl;have X:¬(n:Int)<0:=af
 have T:¬(n:Int) > 9223372036854775807:=af
 refine Lh Tryz.func114 ?_;simp only[Z3,seval,-ae,X,V,zI2 R];refine zTS R ?_;have U:Lp .i64 (n:Int)=n:=WE;simp only[Z3,seval,-ae,T,U,uK (n:=n) af,tn (n:=n) af];have fin:∀{h:cg},h=σ.bf (cS (Ep n p))->Gh σ K (.sl σ.aM 0 n (.b6 n)) h:=λ{h} e=>by
  subst e;exact Gh.finF (cs:=cS (Ep n p)) (zC σ _) (by simp only[Z3,seval,-ae]) (na _) (zL _ _) (by simp[gk]) λo=>hk _ ⟨DF,.sl o 0 n (.b6 n),aK⟩
 rcases F4 n with rfl|aL
 .have M:Az 1 (σ.bf []) (PV.sl σ.aM 0 0 (jZ.b6 0)) (PV.fz w a 1 (cS [p]))=Dc (.int .i64 0,σ.bf []):=rfl;simp only[Z3,seval,-ae,M];refine zF (λm D h'=>m=0/\D=[.sl σ.aM 0 0 (.b6 0),.int .i64 0]/\h'=σ.bf []) 0 ⟨rfl,rfl,rfl⟩ ?_
  rintro m D h' ⟨rfl,rfl,rfl⟩
  refine Lk ?_;exact fin rfl
 have M:Az 1 (σ.bf (Ep n (PV.int .i64 0))) (PV.sl σ.aM 0 n (jZ.b6 n)) (PV.fz w a 1 (cS [p]))=Dc (.int .i64 1,σ.bf (cS (nF p n 1))):=by
  refine(zJX (m:=1) (len:=n) rfl (by rw[Hl aL];decide) (cs:=cS [p]) (by rw[Hl aL];rfl) (h':=σ.bf (cS (nF p n 1))) ?_).trans (by rw[Hl aL];rfl);have E:(σ.bf (Ep n (PV.int .i64 0))).bt σ.aM=Dc (Ep n (PV.int .i64 0)):=by simp only[Z3,seval,-ae]
  rw[zR E,DK ⟨by rw[YL];show 0+1<=n;omega,rfl⟩];congr 1;simp only[cg.set,cg.bf,cg.mk.injEq,true_and];funext t;split
  .simp[nF,cS,aL]
  .rfl
 simp only[Z3,seval,-ae,M];refine zF (λm D h'=>∃d:Nat,m=n-d/\D=[.sl σ.aM 0 n (.b6 n),.int .i64 d]/\1<=d/\d<=n/\h'=σ.bf (cS (nF p n d))) (n-1) ⟨1,rfl,rfl,af,aL,rfl⟩ ?_
 rintro m D h' ⟨d,rfl,rfl,AH,fS,rfl⟩
 refine Lk ?_;refine Ll (λaG=>?_) λah=>?_
 .refine fin ?_;rw[show d=n by omega];simp[nF]
 have aq:d<n:=af
 have PG:Zt 1 (.sl σ.aM 0 n (.b6 n)) (Dc (.int .i64 d)) none none=Dc (.sl σ.aM d (n-d) (.b6 (n-d))):=by
  have H:(0:Int)<=(d:Int)/\(d:Int)<=(n:Int):=af
  have I:¬n=d:=af
  have J:d<=n:=af
  simp[Zt,zl,Zl,H,I,J]
 have PF:Zt 1 (.sl σ.aM 0 n (.b6 n)) none (Dc (.int .i64 d)) none=Dc (.sl σ.aM 0 d (.b6 n)):=by
  have H:(0:Int)<=(d:Int)/\(d:Int)<=(n:Int):=af
  have I:d<=n:=af
  have J:¬n=0:=af
  simp[Zt,zl,Zl,H,I,J]
 have E:(σ.bf (cS (nF p n d))).bt σ.aM=Dc (cS (nF p n d)):=by simp only[Z3,seval,-ae]
 have pP:Az 1 (σ.bf (cS (nF p n d))) (.sl σ.aM d (n-d) (.b6 (n-d))) (.sl σ.aM 0 d (.b6 n))=Dc (.int .i64 (min d (n-d):Nat),σ.bf (cS (nF p n (d+min d (n-d))))):=by
  refine zJX (m:=d) (len:=n-d) rfl (by rw[Nat.min_def];split<;>omega) (cs:=(cS (nF p n d)).take (min d (n-d))) ?_ ?_
  .rw[ZG,DL af,DK af,zV E,DK (by rw[zJ,zEd af];omega)];simp
  .rw[zR E,DK ⟨by rw[Yh,zJ,zEd af];omega,by simp[D2,cS];intro x hx;obtain⟨y,_,rfl⟩:=YI.1 (UY hx);rfl⟩];congr 1;have e:=zPY (p:=p) (n:=n) (d:=d) (m:=min d (n-d)) af af;have Q:((cS (nF p n d)).take (min d (n-d))).length=min d (n-d):=by rw[Yh,zJ,zEd af];omega
   rw[Q,e];simp only[cg.set,cg.bf,cg.mk.injEq,true_and];funext t;split<;>rfl
 have Y:Lp .i64 ((d:Int)+((min d (n-d):Nat):Int))=((d+min d (n-d):Nat):Int):=WQ
 have S:d<=n:=af
 have lU:¬n=d:=af
 have Z:¬n=0:=af
 simp only[Z3,seval,-ae,S,lU,Z,pP,Y,Ed,Option.isNone_none,Option.isSome_none,Option.isNone_some,Option.isSome_some,EB,and_false,false_and,if_false];have Ak:1<=min d (n-d)/\min d (n-d)<=n-d:=by rw[Nat.min_def];split<;>omega
 exact⟨_,af,d+min d (n-d),rfl,rfl,af,af,rfl⟩
section
variable{s:Nat}
def zA.fzITx{P:Program}{f:FuncId}{args:List PV}{D:V1->Prop}(c:∀K':PV->cg->Prop,(∀z,D z->tb σ K' z)->zA P f args σ K')(k:∀z v t,D z->FI v z->Own σ.top t v->σ.top<=t->K v (σ.up t)):zA P f args σ K:=
 zA.gh (c _ λz l=>⟨λE=>by subst E;exact Gh.ret (k _ _ σ.top l ⟨DF,.b8,rfl⟩ (Own.empty _ _ _ _ _) (na _)),λcap J=>Gh.own (zC σ _) (by simp[cg.bf]) (na _) (zL _ _) J.ok (xz.cS _ _ _) λo t H I=>k _ _ t l ⟨DF,_,rfl⟩ H I⟩)
def zDz{l:Nat}{w:Bool}{av:AV}{k:Int}{x:V1}(hs:jE σ s p vP vB)(Y:jj vP W)(o:eT p n W)(bh:fG p n<=729)(E:El p n x)(hl:l=Lu x)
  (J:∀z,vj p n W k x z->tb σ K z):zA Li 218 [.ptr s 0,.fz w av l (cS x),.int .i64 k] σ K:=by
 have U:=o.le;have Q:=o.pr;have M:=E.1;have V:σ.dR s 0=Dc (.int .i64 p):=by rw[zH hs.bt];rfl
 subst hl;refine Lg Tryz.func218 ?_;refine Lk ?_;refine QJ rfl af ?_;by_cases H:mw x
 .simp only[Z3,seval,-ae,H,decide_true];have hd:vj p n W k x x:=⟨E,λ_=>rfl,λ_=>by
   refine dq.of_eq λj=>?_;rw[ZW H,Y9]⟩
  refine Z9 rfl af ⟨λR=>?_,λcap D=>?_⟩
  .refine Lk ?_;exact(J x hd).1 R
  .refine Lk ?_;exact(J x hd).2 cap D
 .have hn:0<n:=by
   rcases F4 n with h|h
   .exact absurd (by rw[YU (M.trans h)];intro y hy;cases hy) H
   .exact h
  have uG:2<=fG p n:=by
   obtain⟨I,rfl⟩:∃I,n=I+1:=⟨n-1,af⟩
   have S:∀k:Nat,1<=fG p k:=λk=>by
    induction k with
    |zero=>simp[fG]
    |succ k ih=>
     have:=Yy (show(1:Int)<=p by have:=Q.1;omega) (show 0<=fG p k by omega)
     rw[fG];omega
   have:=Yy (show(2:Int)<=p from Q.1) (show 0<=fG p I by have:=S I;omega)
   have:=S I
   rw[fG];omega
  simp only[Z3,seval,-ae,H,decide_false,V,M];refine zCf Q U ?_;refine Lk ?_;refine zBc af af ?_;refine Lk ?_;refine zFg (Y3 _ af) (Y6 _ af) af λy yb S h2 X=>?_;refine Lk ?_;have hd:vj p n W k x (ed p W y x):=vj.mk' o E H (m:=fG p n) (by
   rw[zDF];exact Qv o λj Z=>E.beyond Z) λD=>by
    obtain⟨z,w',T⟩:=zA8 D hn;rw[<-zDF]at T;have em:=IQ k (fG p n);obtain⟨t,ht⟩:=X ⟨z,w'-k / fG p n*z,by grind⟩;exact⟨t+k / fG p n*y,by grind⟩
  refine zCo hs Y o E M.symm af ⟨λR=>?_,λcap D=>?_⟩
  .refine Lk ?_;exact(J _ hd).1 R
  .refine Lk ?_;exact(J _ hd).2 cap D
def AS.zero{xs:V2}(h:AS p W B xs 0):(wq p W B/\yx p (Lu W) xs)/\isLz p (Lu W) W B:=by
 rcases h with ⟨_,h⟩|⟨_,_,h⟩|⟨l,D,_⟩
 .omega
 .omega
 .exact⟨l,D⟩
end
section
variable{f g:hK}
def Lw(p:Int)(n:Nat)(W:V2)(B:V3)(k:Nat)(f:hK):Prop:=∃u,wV p n W B k u/\ki p n W u f
structure Rg(p:Int)(n:Nat)(W:V2)(B:V3)(c:Nat):Prop where
 o:eT p n W
 q:lS p n B
 nf:ZF p W B n
 cls:Cls p n W B c
def zJi:∀{m:Nat} {u:V2},wV p n W B m u->∀k,k<=m->∃v,wV p n W B k v
 |0,u,h,k,hk=>by
  have:k=0:=af
  subst this;exact⟨u,h⟩
 |m+1,u,h,k,hk=>by
  by_cases e:k=m+1
  .subst e;exact⟨u,h⟩
  .cases h with
   |succ h hc=>exact zJi h k af
def Rg.low(r:Rg p n W B c)(k:Nat):∃u,wV p n W B k u:=by
 rcases Nat.le_total k c with x|x
 .exact zJi r.cls.1 k x
 .obtain⟨u,⟨h,_⟩|h⟩:=zMV r.o r.q r.cls k
  .exact⟨u,h⟩
  .exact⟨[],af⟩
def Rg.sub(r:Rg p n W B c)(k:Nat):pY p n W (Lw p n W B k):=by
 obtain⟨u,l⟩:=r.low k;have hs:=zO (p:=p) (n:=n) (W:=W) u;have e:∀{f:hK},Lw p n W B k f->ki p n W u f:=λ{f} ⟨v,E,D⟩=>by rw[l.unique r.o E];exact D
 exact⟨⟨u,l,hs.zero⟩,λf g a b=>⟨u,l,hs.add _ _ (e a) (e b)⟩,λk f a=>⟨u,l,hs.mul _ _ (e a)⟩,λf g a b=>⟨u,l,hs.eqv _ _ a (e b)⟩⟩
def Rg.all(r:Rg p n W B c){x:V1}(l:El p n x):Lw p n W B 0 (at_ x):=⟨_,.zero,zIQ r.o l⟩
def Rg.brk(r:Rg p n W B c)(D:Lw p n W B k f)(g:hK):Lw p n W B (k+1) (fh B n f g):=by
 obtain⟨u,l,E⟩:=D;obtain⟨v,H⟩:=r.low (k+1);cases H with
 |succ h hc=>
  rw[h.unique r.o l]at hc;exact⟨v,.succ l hc,zR8 r.o r.q r.nf hc E g⟩
def Rg.brk2(r:Rg p n W B c)(l:Lw p n W B k g)(f:hK):Lw p n W B (k+1) (fh B n f g):=
 (r.sub _).eqv _ _ (dq.of_eq λt=>zf f g t) ((r.sub _).mul (-1) _ (r.brk l f))
def Rg.top(r:Rg p n W B c)(H:c<=k)(E:Lw p n W B k f):dq p n W f λ_=>0:=by
 obtain⟨u,I,l⟩:=E;obtain⟨v,⟨J,D⟩|h⟩:=zMV r.o r.q r.cls k
 .rw[I.unique r.o J,D H]at l;exact zSJ l
 .omega
def Rg.down(r:Rg p n W B c):∀{k:Nat} {f:hK},Lw p n W B (k+1) f->Lw p n W B k f
 |0,f,⟨u,hu,hg⟩=>⟨_,.zero,ZM (λv l=>zIQ r.o ((hu.els r.o).1 v l)) hg⟩
 |k+1,f,⟨u,hu,hg⟩=>by
  cases hu with
  |succ h hc=>
   rename_i w;refine zEb (r.sub (k+1)) (λv l=>?_) ((hc.gen f).2 hg);obtain⟨x,D,l⟩:=UD.1 l;obtain⟨e,E,rfl⟩:=YI.1 l;exact(r.sub _).eqv _ _ (ZY r.o r.q x e) (r.brk (r.down ⟨w,h,zY D⟩) (at_ e))
def Rg.le(r:Rg p n W B c){j k:Nat}(h:j<=k){f:hK}(l:Lw p n W B k f):Lw p n W B j f:=by
 induction k with
 |zero=>
   have:j=0:=af
   subst this;exact l
 |succ k ih=>
  by_cases e:j=k+1
  .subst e;exact l
  .exact ih af (r.down l)
def Rg.zero(r:Rg p n W B c)(D:c<=k){z:V1}(E:El p n z)(l:Lw p n W B k (at_ z)):mw z:=Zd r.o E (r.top D l)
def Rg.bL(r:Rg p n W B c){x y:V1}(l:Lw p n W B k (at_ x)):Lw p n W B (k+1) (at_ (br p W B n x y)):=(r.sub _).eqv _ _ (ZY r.o r.q x y) (r.brk l _)
def Rg.bR(r:Rg p n W B c){x y:V1}(l:Lw p n W B k (at_ y)):Lw p n W B (k+1) (at_ (br p W B n x y)):=(r.sub _).eqv _ _ (ZY r.o r.q x y) (r.brk2 l _)
def Rg.addL(r:Rg p n W B c){x y:V1}(E:El p n x)(H:El p n y)(l:Lw p n W B k (at_ x))(D:Lw p n W B k (at_ y)):Lw p n W B k (at_ (j3 p W x y)):=(r.sub _).eqv _ _ (qZ r.o E H) ((r.sub _).add _ _ l D)
def Rg.mulL(r:Rg p n W B c){x:V1}(D:El p n x)(m:Int)(l:Lw p n W B k (at_ x)):Lw p n W B k (at_ (ed p W m x)):=(r.sub _).eqv _ _ (qK r.o D m) ((r.sub _).mul m _ l)
def qo(p:Int)(W:V2)(B:V3)(n:Nat)(x y:V1):V1:=j3 p W (br p W B n x (br p W B n x y)) (br p W B n y (ed p W (-1) (br p W B n x y)))
def Zh(o:eT p n W)(q:lS p n B){x y:V1}:El p n (qo p W B n x y):=zK o (ey o q) (ey o q)
def Rg.thd(r:Rg p n W B c){x y:V1}(l:Lw p n W B k (at_ (br p W B n x y))):Lw p n W B (k+1) (at_ (qo p W B n x y)):=
 r.addL (ey r.o r.q) (ey r.o r.q) (r.bR l) (r.bR (r.mulL (ey r.o r.q) (-1) l))
def zH0{p:Int}(l:jF p)(h:p≠2):vh p 2/\vh p (-2):=by
 rcases l with rfl|rfl|rfl|rfl
 .exact absurd rfl h
 .exact⟨⟨2,1,LB⟩,⟨1,-1,LB⟩⟩
 .exact⟨⟨3,1,LB⟩,⟨2,-1,LB⟩⟩
 .exact⟨⟨4,1,LB⟩,⟨3,-1,LB⟩⟩
def zHK{p:Int}(D:jF p)(h:p≠2)(l:p≠3):vh p 12/\vh p (-12):=by
 rcases D with rfl|rfl|rfl|rfl
 .exact absurd rfl h
 .exact absurd rfl l
 .exact⟨⟨3,7,LB⟩,⟨2,-5,LB⟩⟩
 .exact⟨⟨3,5,LB⟩,⟨4,-7,LB⟩⟩
def Rg.two(r:Rg p n W B c)(D:jF p)(H:(c:Int)<p){z:V1}(E:El p n z)(h:Lw p n W B 1 (at_ z)):mw z\/(vh p 2/\vh p (-2)):=by
 by_cases l:p=2
 .exact .inl (r.zero af E h)
 .exact .inr (zH0 D l)
def Rg.twelve(r:Rg p n W B c)(H:jF p)(I:(c:Int)<p){z:V1}(l:El p n z)(h:Lw p n W B 2 (at_ z)):mw z\/(vh p 12/\vh p (-12)):=by
 by_cases D:p=2
 .exact .inl (r.zero af l h)
 .by_cases E:p=3
  .exact .inl (r.zero af l h)
  .exact .inr (zHK H D E)
noncomputable def dv(p:Int)(n:Nat)(W:V2)(k:Int)(x:V1):V1:=Classical.epsilon (vj p n W k x)
def dv_eq(o:eT p n W){k:Int}{x z:V1}(D:El p n x)(h:vj p n W k x z)(l:mw x\/vh p k):z=dv p n W k x:=
 h.unique o D (Uu ⟨z,h⟩) l
def zTG(o:eT p n W){k:Int}{x:V1}(l:El p n x):∃z,vj p n W k x z:=by
 by_cases D:mw x
 .exact⟨x,l,λ_=>rfl,λ_=>dq.of_eq λj=>by rw[ZW D,Y9]⟩
 .by_cases H:vh p k
  .have hn:0<n:=by
    rcases F4 n with h|h
    .exact absurd (by rw[YU (l.1.trans h)];intro y E;cases E) D
    .exact h
   obtain⟨y,w,E⟩:=zA8 H hn;exact⟨_,vj.mk' o l D (y:=y) (Qv o λj I=>l.beyond I) λ_=>⟨w,E⟩⟩
  .exact⟨x,l,λh=>absurd h D,λh=>absurd h H⟩
def Zp(o:eT p n W){k:Int}{x:V1}(l:El p n x):vj p n W k x (dv p n W k x):=Uu (zTG o l)
def mR(o:eT p n W){k:Int}{x:V1}(l:El p n x):El p n (dv p n W k x):=(Zp o l).el
def zHI(o:eT p n W){S:hK->Prop}(hs:pY p n W S){k:Int}{x z:V1}(h:vj p n W k x z)(E:mw x\/vh p k)(l:S (at_ x)):S (at_ z):=by
 rcases E with H|hc
 .rw[h.nil H];exact l
 .rcases F4 n with hn|hn
  .refine hs.eqv _ _ (dq.of_eq λj=>?_) hs.zero;exact h.el.beyond af
  .obtain⟨a,w,M⟩:=zA8 (p:=p) hc hn;have I:=(Qv o (f:=at_ z) (λj D=>h.el.beyond D)).mul w;have J:=(dq.refl (p:=p) (n:=n) (W:=W) (at_ z)).add I;refine hs.eqv _ _ ?_ (hs.mul a _ l);refine(((dq.of_eq λj=>?_).trans J.symm).trans (dq.of_eq λj=>?_)).trans ((h.eqv hc).mul a)
   .omega
   .grind
noncomputable def jU(p:Int)(n:Nat)(W:V2)(B:V3)(x y:V1):V1:=
 j3 p W (j3 p W (j3 p W x y) (dv p n W 2 (br p W B n x y))) (dv p n W 12 (qo p W B n x y))
def QG(o:eT p n W)(q:lS p n B){x y:V1}(l:El p n x)(D:El p n y):El p n (jU p n W B x y):=
 zK o (zK o (zK o l D) (mR o (ey o q))) (mR o (Zh o q))
noncomputable def fold(p:Int)(n:Nat)(W:V2)(B:V3)(xs:V2):V1:=xs.foldl (jU p n W B) (Ep n 0)
def zIS(xs:V2){i:Nat}(l:i<Lu xs):fold p n W B (xs.take (i+1))=jU p n W B (fold p n W B (xs.take i)) xs[i]:=by
 unfold fold;rw[YN l,U1];rfl
def zA6(o:eT p n W)(q:lS p n B):∀{xs:V2},yx p n xs->El p n (fold p n W B xs):=by
 have:∀(xs:V2) (a:V1),yx p n xs->El p n a->El p n (xs.foldl (jU p n W B) a):=by
  intro xs
  induction xs with
  |nil=>exactλa _ l=>l
  |cons x xs ih=>exactλa D l=>ih _ (λy E=>D y (by simp[E])) (QG o q l (D x aK))
 exactλ{xs} h=>this xs _ h (ZB o.pr)
noncomputable def comm(p:Int)(n:Nat)(W:V2)(B:V3)(x y:V1):V1:=fold p n W B [ed p W (-1) x,ed p W (-1) y,x,y]
def Rg.brD(r:Rg p n W B c){x y:V1}(l:El p n x):Lw p n W B 1 (at_ (br p W B n x y)):=r.bL (r.all l)
def Rg.of_lie(l:wq p W B)(H:isLz p (Lu W) W B):∃c,Rg p (Lu W) W B c/\(c:Int)<p:=by
 obtain⟨c,D,E⟩:=H;exact⟨c,⟨l.1.w,l.1.b,l.2,D⟩,E⟩
end
section
variable{s:Nat}
structure Lz(p:Int)(n:Nat)(W:V2)(B:V3)(c:Nat):Prop where
 r:Rg p n W B c
 hp:jF p
 hc:(c:Int)<p
 pow:fG p n<=729
def Lz.of(l:wq p W B)(E:isLz p (Lu W) W B):∃c,Lz p (Lu W) W B c:=by
 obtain⟨c,r,D⟩:=Rg.of_lie l E;exact⟨c,r,l.1.1,D,l.1.2.2.2.1⟩
def Lz.d2(z:Lz p n W B c)(l:El p n x):mw (br p W B n x y)\/vh p 2:=(z.r.two z.hp z.hc (ey z.r.o z.r.q) (z.r.brD l)).imp id (·.1)
def Lz.d12(z:Lz p n W B c)(l:El p n x):mw (qo p W B n x y)\/vh p 12:=(z.r.twelve z.hp z.hc (Zh z.r.o z.r.q) (z.r.thd (z.r.brD l))).imp id (·.1)
def zNq(z:Lz p n W B c)(hs:jE σ s p vP vB)(l:lx vP vB W B)(D:El p n x)(J:El p n y)(bm:FI vx x)(cI:FI vy y)
  (hk:∀a M Q R t,FI M (j3 p W x y)->FI Q (dv p n W 2 (br p W B n x y))->FI R (dv p n W 12 (qo p W B n x y))->Own σ.top t (.fz DF a 3 [M,Q,R])->σ.top<=t->K (.fz DF a 3 [M,Q,R]) (σ.up t)):
  zA Li 175 [.ptr s 0,vx,vy] σ K:=by
 have o:=z.r.o;have q:=z.r.q;have bj:=D.1;have gJ:=J.1;obtain⟨wx,ax,rfl⟩:=bm;obtain⟨wy,ay,rfl⟩:=cI;refine zA.gh ?_;have bel:=ey o q (a:=x) (b:=y);refine Lg Tryz.func175 ?_;refine Lk ?_;refine qm hs l o q D J rfl rfl λM=>?_;refine Lk ?_;refine qm hs l o q D bel rfl bel.1.symm λQ=>?_;refine Lk ?_;refine Qj hs l.P o bel bel.1.symm LB λR=>?_;have Y:El p n (ed p W (-1) (br p W B n x y)):=zK o bel bel;refine Lk ?_;refine qm hs l o q J Y rfl Y.1.symm λv4=>?_;refine Lk ?_;have V:El p n (br p W B n x (br p W B n x y)):=ey o q;have X:El p n (br p W B n y (ed p W (-1) (br p W B n x y))):=ey o q;refine zAZ hs l.P o V X V.1.symm X.1.symm λv5=>?_;refine Lk ?_;refine zA.fzIT (λK'=>zEo hs l.P o D J rfl rfl) λw1 t1 I o1 S=>?_;have dr:jE (σ.up t1) s p vP vB:=⟨hs.bt,hs.lt⟩;refine Lk ?_;refine zA.fzITx (λK'=>zDz dr l.P o z.pow bel bel.1.symm) λz2 w2 t2 d2 E Z T=>?_;have ja:jE (σ.up t2) s p vP vB:=⟨hs.bt,hs.lt⟩;refine Lk ?_;have U:=Zh o q (x:=x) (y:=y);refine zA.fzITx (λK'=>zDz ja l.P o z.pow (x:=qo p W B n x y) U U.1.symm) λz3 w3 t3 d3 H o3 wW=>?_;rw[dv_eq o bel d2 (z.d2 D)]at E;rw[dv_eq o U d3 (z.d12 D)]at H;simp only[zL3]at Z T o3 wW;simp only[Z3,seval,-ae,I.cells,I.one,E.cells,E.one,H.cells,H.one];have LP:=(((xz.nil σ.top σ.top).snoc o1 (na _) S).snoc Z S T).snoc o3 (UJ S T) wW;exact Gh.own (cs:=[w1,w2,w3]) ((cT.refl σ).bf _ |>.up (by simp only[zJK];omega)) (by simp only[Z3,seval,-ae]) (na _) ⟨I.bel 0,E.bel 0,H.bel 0,DJ⟩ (by simp[gk]) (LP.mono (na _) (na _)) λo4 t4 h1 h2=>hk _ w1 w2 w3 t4 I E H h1 h2
def zLm(z:Lz p n W B c)(hs:jE σ s p vP vB)(R:lx vP vB W B)(U:El p n x)(V:El p n y)(H:FI vx x)(I:FI vy y)
  (S:∀a l D E,FI l (j3 p W x y)->FI D (dv p n W 2 (br p W B n x y))->FI E (dv p n W 12 (qo p W B n x y))->K (.fz DF a 3 [l,D,E]) σ):
  zA Li 175 [.ptr s 0,vx,vy] σ K:=
 zA.gh (zNq z hs R U V H I λa l D E t J M Q _ T=>Gh.fin0 ((cT.refl σ).up T) trivial (S a l D E J M Q))
def zKZ(z:Lz p n W B c)(hs:jE σ s p vP vB)(l:lx vP vB W B)(J:El p n x)(M:El p n y)(Q:FI vx x)(U:FI vy y)(I:tb σ K (jU p n W B x y)):
  zA Li 99 [.ptr s 0,vx,vy] σ K:=by
 have o:=z.r.o;have q:=z.r.q;refine Lg Tryz.func99 ?_;refine Lk ?_;refine zLm z hs l J M Q U λa v1 v2 v3 X Y Z=>?_;obtain⟨w1,a1,rfl⟩:=X;obtain⟨w2,a2,rfl⟩:=Y;obtain⟨w3,a3,rfl⟩:=Z;have D:El p n (j3 p W x y):=zK o J M;have E:=mR o (k:=2) (ey o q (a:=x) (b:=y));have V:=mR o (k:=12) (Zh o q (x:=x) (y:=y));have H:El p n (j3 p W (j3 p W x y) (dv p n W 2 (br p W B n x y))):=zK o D E;have R:(0:Int)<((3:Nat):Int):=by decide
 have S:(1:Int)<((3:Nat):Int):=by decide
 have T:(2:Int)<((3:Nat):Int):=by decide
 simp only[Z3,seval,-ae,R,S,T];refine zAZ hs l.P o D E rfl rfl λv4=>?_;refine Lk ?_;refine zEo hs l.P o H V H.1.symm rfl ⟨λh0=>?_,λcap hc=>?_⟩
 .refine Lk ?_;exact I.1 h0
 .refine Lk ?_;exact I.2 cap hc
def zLP(z:Lz p n W B c)(l:lx vP vB W B)(D:El p n x)(E:El p n y)(bm:FI vx x)(cI:FI vy y)
  (hk:∀a I J M,FI I (j3 p W x y)->FI J (dv p n W 2 (br p W B n x y))->FI M (dv p n W 12 (qo p W B n x y))->K (.fz DF a 3 [I,J,M]) σ):
  zA Li 177 [.agg [.int .i64 p,vP,vB],vx,vy] σ K:=by
 have o:=z.r.o;have q:=z.r.q;have bj:=D.1;have gJ:=E.1;have h1:=l.P.one;have h2:=l.B.one;obtain⟨wx,ax,rfl⟩:=bm;obtain⟨wy,ay,rfl⟩:=cI;refine zA.gh ?_;have bel:=ey o q (a:=x) (b:=y);refine Lg Tryz.func177 ?_;simp only[Z3,seval,-ae,h1,h2];refine qB l o q D E rfl rfl λI=>?_;refine Lk ?_;refine qB l o q D bel rfl bel.1.symm λJ=>?_;refine Lk ?_;refine qB l o q E bel rfl bel.1.symm λM=>?_;refine Lk ?_;have R:El p n (br p W B n x (br p W B n x y)):=ey o q;have S:El p n (br p W B n y (br p W B n x y)):=ey o q;refine qF l o R S R.1.symm S.1.symm LB LB λv4=>?_;have H:=Zh o q (x:=x) (y:=y);have Z:=third o q z.r.nf (x:=x) (y:=y) bel;rw[<-Z];refine Lk ?_;refine qF l o D E rfl rfl LB LB λT=>?_;refine Lk ?_;refine zBh l o z.pow bel bel.1.symm λX U z2 d2=>?_;refine Lk ?_;refine zBh l o z.pow (x:=qo p W B n x y) H H.1.symm λY V z3 Q=>?_;have dh:=dv_eq o bel d2 (z.d2 D);have kP:=dv_eq o H Q (z.d12 D);subst dh;subst kP;refine Lk ?_;exact Gh.finF (s:=σ.aM+1) (cs:=[.fz DF T n (cS (j3 p W x y)),.fz X U n (cS (dv p n W 2 (br p W B n x y))),.fz Y V n (cS (dv p n W 12 (qo p W B n x y)))]) (((zC σ _).bf _)) (by simp only[Z3,seval,-ae]) af ⟨DJ,DJ,DJ,DJ⟩ (by simp[gk]) λo4=>hk _ _ _ _ ⟨DF,T,by rw[show(j3 p W x y).length=n from(zK o D E).1]⟩ ⟨X,U,by rw[d2.el.1]⟩ ⟨Y,V,by rw[Q.el.1]⟩
def zIJ(z:Lz p n W B c)(l:lx vP vB W B)(D:El p n x)(E:El p n y)(M:FI vx x)(T:FI vy y)(hk:∀v,FI v (jU p n W B x y)->K v σ):
  zA Li 103 [.agg [.int .i64 p,vP,vB],vx,vy] σ K:=by
 have o:=z.r.o;have q:=z.r.q;have Z:=l.P.one;have h2:=l.B.one;refine Lh Tryz.func103 ?_;simp only[Z3,seval,-ae,Z,h2];refine zLP z l D E M T λa v1 v2 v3 V X Y=>?_;obtain⟨w1,a1,rfl⟩:=V;obtain⟨w2,a2,rfl⟩:=X;obtain⟨w3,a3,rfl⟩:=Y;have H:El p n (j3 p W x y):=zK o D E;have I:=mR o (k:=2) (ey o q (a:=x) (b:=y));have U:=mR o (k:=12) (Zh o q (x:=x) (y:=y));have J:El p n (j3 p W (j3 p W x y) (dv p n W 2 (br p W B n x y))):=zK o H I;have Q:(0:Int)<((3:Nat):Int):=by decide
 have R:(1:Int)<((3:Nat):Int):=by decide
 have S:(2:Int)<((3:Nat):Int):=by decide
 simp only[Z3,seval,-ae,Q,R,S];refine qF l o H I rfl rfl LB LB λv4=>?_;refine Lk ?_;refine qF l o (a:=j3 p W (j3 p W x y) (dv p n W 2 (br p W B n x y))) J U J.1.symm rfl LB LB λv5=>?_;refine Lk ?_;exact Gh.fin0 (zC σ _) trivial (hk _ ⟨DF,v5,by rw[(QG o q D E).1];rfl⟩)
def zIH(o:eT p n W)(D:lx vP vB W B)(l:El p n x)(E:FI vx x)(J:∀v,FI v (ed p W (-1) x)->K v σ):
  zA Li 186 [.agg [.int .i64 p,vP,vB],vx] σ K:=by
 have H:=D.P.one;have I:=D.B.one;have R:=l.1;obtain⟨S,Q,rfl⟩:=E;refine Lh Tryz.func186 ?_;simp only[Z3,seval,-ae,H,I];refine qF D o l l rfl rfl LB LB λM=>?_;refine Lk ?_;exact Gh.fin0 (zC σ _) trivial (J _ ⟨DF,M,by rw[show(ed p W (-1) x).length=n from(zK o l l).1]⟩)
end
section
variable{s:Nat}
def zNr(z:Lz p n W B c)(hs:jE σ s p vP vB)(hR:lx vP vB W B)(hL:jj vL xs)(U:yx p n xs)(hb:(Lu xs)<=1048576)(hk:tb σ K (fold p n W B xs)):zA Li 116 [.ptr s 0,vL] σ K:=by
 have o:=z.r.o;have q:=z.r.q;have aX:=o.le;have dS:=o.len;have Z:=hR;obtain⟨Y,al,X,rfl,bp⟩:=hL;obtain⟨⟨w1,a1,rP,rfl,hP⟩,hB⟩:=hR;refine zA.gh ?_;have an:¬s=σ.aM:=Ev hs.lt;refine Lg Tryz.func116 ?_;simp only[Z3,seval,-ae,zH hs.bt,an,YL,zh,uK (n:=(Lu W)) af,tn (n:=(Lu W)) af];refine zF (λm vs h'=>∃i v,i<=Lu xs/\m=Lu xs-i/\vs=[.ptr s 0,v,.fz Y al (Lu xs) X,.int .i64 (Lu xs),.int .i64 (i:Nat)]/\cT σ h'/\ei σ.aM 1 h' v n (cS (fold p n W B (xs.take i)))) (Lu xs) ?_ ?_
 .refine⟨0,_,af,af,rfl,zC σ _,.inr ?_⟩;rw[dS];exact eA.bf σ.aM 1 (h:=σ) (n:=n) (cs:=cS (Ep n 0)) (by rw[zJ];simp) (na _)
 .rintro m vs h' ⟨i,v,hi,rfl,rfl,E,T⟩
  refine Lk ?_;refine de (λl=>?_) λaG=>?_
  .obtain⟨w4,a4,cE⟩:=bp.rowI l;have I:=zA6 o q (xs:=xs.take i) λy hy=>U y (UY hy);have V:=U _ (YZ l);have e:∀{S:PV} {H:cg},cT σ H->ei σ.aM 1 H S n (cS (jU p n W B (fold p n W B (xs.take i)) xs[i]))->∃n',n'<Lu xs-i/\∃R v,R<=Lu xs/\n'=Lu xs-R/\[PV.ptr s 0,S,.fz Y al (Lu xs) X,.int .i64 (Lu xs),.int .i64 ((i+1:Nat):Int)]=[.ptr s 0,v,.fz Y al (Lu xs) X,.int .i64 (Lu xs),.int .i64 (R:Nat)]/\cT σ H/\ei σ.aM 1 H v n (cS (fold p n W B (xs.take R))):=λ{S H} k1 k2=>by
    refine⟨_,af,i+1,S,af,rfl,rfl,k1,?_⟩;rw[zIS xs l];exact k2
   have D:=(QG o q I V).1;simp only[Z3,seval,-ae,l,cE];rcases T with ⟨rfl,h0,h1⟩|⟨s',cap,rfl,J,q2,q3,q4,q5⟩
   .refine zKZ z (hs.cf E) Z I V ⟨DF,.b8,by rw[h1,show(fold p n W B (xs.take i)).length=0 by rw[I.1];exact h0]⟩ ⟨_,_,rfl⟩ ⟨λQ=>?_,λcap J=>?_⟩
    .simp only[Z3,seval,-ae,WX l];exact e E (.inl ⟨rfl,h0,by rw[Q];rfl⟩)
    .simp only[Z3,seval,-ae,WX l];refine e (E.bf _) (.inr ⟨_,cap,by rw[D],by rw[<-D];exact J,by simp only[Z3,seval,-ae],by rw[zJ,D,Fe],E.aM,by simp[cg.bf]⟩)
   .refine zA.frz (s:=s') (cs:=cS (fold p n W B (xs.take i))) q2 (zL _ _) λo1=>?_;have uY:=J.ok;simp only[kq,sb,uY,and_self,if_true];have M:cT σ (h'.kill s'):=E.kill q4;refine zKZ z (hs.cf M) Z I V ⟨DF,_,by rw[I.1]⟩ ⟨_,_,rfl⟩ ⟨λQ=>?_,λcap J=>?_⟩
    .simp only[Z3,seval,-ae,WX l];exact e M (.inl ⟨rfl,by rw[<-D,Q];rfl,by rw[Q];rfl⟩)
    .simp only[Z3,seval,-ae,WX l];refine e (M.bf _) (.inr ⟨_,cap,by rw[D];rfl,by rw[<-D];exact J,by simp only[Z3,seval,-ae],by rw[zJ,D,Fe],M.aM,by simp[cg.bf]⟩)
  .have aU:i=Lu xs:=af
   subst aU;rw[Yf]at T;exact T.res E (zA6 o q U).1.symm hk
def zNL(z:Lz p n W B c)(D:lx vP vB W B)(T:jj vL xs)(H:yx p n xs)(hb:(Lu xs)<=1048576)(U:∀v,FI v (fold p n W B xs)->K v σ):zA Li 185 [.agg [.int .i64 p,vP,vB],vL] σ K:=by
 have o:=z.r.o;have q:=z.r.q;have aX:=o.le;have Q:=o.len;have R:=D.P.one;have S:=D.B.one;obtain⟨wl,al,Z,rfl,J⟩:=T;refine Lh Tryz.func185 ?_;simp only[Z3,seval,-ae,R,S];refine zBi D Q af λv0=>?_;refine Lk ?_;refine zF (λm vs h'=>∃i v,i<=Lu xs/\m=Lu xs-i/\vs=[.fz wl al (Lu xs) Z,.ptr σ.aM 0,v,.int .i64 (i:Nat)]/\h'=σ.bf [.int .i64 p,vP,vB]/\FI v (fold p n W B (xs.take i))) (Lu xs) ?_ ?_
 .exact⟨0,_,af,af,rfl,rfl,⟨DF,v0,by rw[UT,show fold p n W B []=Ep n 0 from rfl,YL];rfl⟩⟩
 .rintro m vs h' ⟨i,v,hi,rfl,rfl,rfl,E⟩
  refine Lk ?_;refine de (λl=>?_) λaG=>?_
  .obtain⟨w4,a4,M⟩:=J.rowI l;have I:=zA6 o q (xs:=xs.take i) λy V=>H y (UY V);have Y:=H _ (YZ l);simp only[Z3,seval,-ae,l,M];refine zIJ z D I Y E ⟨_,_,rfl⟩ λv' X=>?_;simp only[Z3,seval,-ae,WX l];exact⟨_,af,i+1,v',af,rfl,rfl,by rw[zIS xs l];exact X⟩
  .have aU:i=Lu xs:=af
   subst aU;rw[Yf]at E;exact Gh.fin0 (zC σ _) (E.bel _) (U v E)
def rows3{l D E:PV}{H I J:V1}{w:Bool}{a:AV}(M:FI l H)(Q:FI D I)(R:FI E J):jj (.fz w a 3 [l,D,E]) [H,I,J]:=⟨w,a,_,rfl,by simpa using (((dd.nil _).snoc M).snoc Q).snoc R⟩
def Qu(o:eT p n W)(l:El p n x):El p n (ed p W (-1) x):=zK o l l
def els4{D E H I:V1}(J:El p n D)(M:El p n E)(Q:El p n H)(R:El p n I):yx p n [D,E,H,I]:=λy l=>by simp at l;rcases l with rfl|rfl|rfl|rfl<;>assumption
def els3{D E H:V1}(I:El p n D)(J:El p n E)(M:El p n H):yx p n [D,E,H]:=λy l=>by simp at l;rcases l with rfl|rfl|rfl<;>assumption
def zCp(o:eT p n W)(hs:jE σ s p vP vB)(E:jj vP W)(l:El p n x)(D:FI vx x){k:Int}(I:-1000000000<=k/\k<=1000000000)(H:∀v,FI v (ed p W k x)->K v σ):zA Li 100 [.ptr s 0,.int .i64 k,vx] σ K:=by
 obtain⟨M,J,rfl⟩:=D;exact Qj hs E o l rfl I λv=>H _ ⟨_,_,by rw[show(ed p W k x).length=n from(zK o l l).1]⟩
noncomputable def mT(p:Int)(n:Nat)(W:V2)(B:V3)(x y:V1):V1:=fold p n W B [ed p W (-1) y,x,y]
def zNO(z:Lz p n W B c)(l:lx vP vB W B)(S:El p n x)(I:El p n y)(E:FI vx x)(D:FI vy y)(R:∀v,FI v (mT p n W B x y)->K v σ):
  zA Li 118 [.agg [.int .i64 p,vP,vB],vx,vy] σ K:=by
 have o:=z.r.o;have q:=z.r.q;have M:=l.P.one;have Q:=l.B.one;refine Lh Tryz.func118 ?_;simp only[Z3,seval,-ae,M,Q];refine zIH o l I D λT H=>?_;simp only[Z3,seval,-ae,H.one,H.cells,E.one,E.cells,D.one,D.cells];refine zA.frz (s:=σ.aM+1) (cs:=[T,vx,vy]) (by simp only[Z3,seval,-ae]) ⟨H.bel 0,E.bel 0,D.bel 0,DJ⟩ λU=>?_;simp only[kq,sb,gk,and_self,if_true,decide_true,na,l.P.sb,l.B.sb];refine zNL z l (rows3 H E D) (els3 (Qu o I) S I) aK λv J=>?_;refine Lk ?_;exact Gh.fin0 (((zC σ _).bf _).kill af) (J.bel _) (R v J)
end
def zKT(f:hK)(t:Nat):fh B n f f t=0:=by
 have:=zf (B:=B) (n:=n) f f t
 omega
def Qo(z:Lz p n W B c)(l:El p n x)(D:El p n y):El p n (comm p n W B x y):=zA6 z.r.o z.r.q (els4 (Qu z.r.o l) (Qu z.r.o D) l D)
noncomputable def sumP(p:Int)(n:Nat)(W:V2)(B:V3)(x y:V1):V1:=
 fold p n W B [x,y,ed p W (-1) (dv p n W 2 (comm p n W B x y)),dv p n W 12 (comm p n W B (comm p n W B x y) x),ed p W (-1) (dv p n W 12 (comm p n W B (comm p n W B x y) y))]
noncomputable def brkP(p:Int)(n:Nat)(W:V2)(B:V3)(x y:V1):V1:=
 fold p n W B [comm p n W B x y,ed p W (-1) (dv p n W 2 (comm p n W B (comm p n W B x y) x)),ed p W (-1) (dv p n W 2 (comm p n W B (comm p n W B x y) y))]
section
variable{s:Nat}
def lmix0{k:Int}{a b:V1}(h:(Lu b)=Lu a):eX k a 0 b=eX k a 0 a:=by
 unfold eX;refine UM (by simp[h]) λi l D=>?_;simp
def zKF(D:El p n x)(l:jF p)(i:Nat):0<=at_ x i/\at_ x i<=1000000:=by
 have:=l.bd
 rcases YG i (Lu x) with h|h
 .have:=D.2 _ (YZ h);rw[dp h];omega
 .rw[nX h];omega
def xL{i:Nat}(h:i<Lu x):(cS x)[i]? = Dc (.int .i64 (at_ x i)):=by rw[zN,gi h,dp h];rfl
noncomputable def Cn(p:Int)(n:Nat)(W:V2)(B:V3)(e:V1):Nat->V1
 |0=>Ep n 0
 |i+1=>jU p n W B (Cn p n W B e i) (ed p W (at_ e i) (cD n i))
def zAe(o:eT p n W)(q:lS p n B)(e:V1):∀{i:Nat},i<=n->El p n (Cn p n W B e i)
 |0,_=>ZB o.pr
 |i+1,hi=>QG o q (zAe o q e af) (zK o (zQ o.pr af) (zQ o.pr af))
noncomputable def mC(p:Int)(n:Nat)(W:V2)(B:V3)(x:V1):Nat->V1×V1
 |0=>(Ep n 0,x)
 |i+1=>((mC p n W B x i).1.set i (at_ (mC p n W B x i).2 i),jU p n W B (ed p W (-at_ (mC p n W B x i).2 i) (cD n i)) (mC p n W B x i).2)
def Zo:∀i,(mC p n W B x i).1.length=n
 |0=>YL ..
 |i+1=>by rw[mC,YA];exact Zo i
def zBK(o:eT p n W)(q:lS p n B)(l:El p n x):∀{i:Nat},i<=n->El p n (mC p n W B x i).2
 |0,_=>l
 |i+1,hi=>QG o q (zK o (zQ o.pr af) (zQ o.pr af)) (zBK o q l af)
noncomputable def yG(p:Int)(n:Nat)(W:V2)(B:V3)(x:V1):V1:=(mC p n W B x n).1
def zDt(z:Lz p n W B c)(hs:jE σ s p vP vB)(Q:lx vP vB W B)(R:El p n x)(V:FI vx x)(hk:∀cap,full 1 cap n->K (.sl σ.aM 0 n cap) (σ.bf (cS (yG p n W B x)))):zA Li 115 [.ptr s 0,vx] σ K:=by
 have o:=z.r.o;have q:=z.r.q;have aX:=o.le;have H:=R.1;obtain⟨wx,U,rfl⟩:=V;refine zA.gh ?_;have an:¬s=σ.aM:=Ev hs.lt;refine Lg Tryz.func115 ?_;simp only[Z3,seval,-ae,H,YL,zh,uK (n:=n) af,tn (n:=n) af];refine zF (λm vs h'=>∃i v,i<=n/\m=n-i/\vs=[.ptr s 0,v,.int .i64 n,.sl σ.aM 0 n (.b6 n),.int .i64 n,.int .i64 (i:Nat)]/\h'=σ.bf (cS (mC p n W B x i).1)/\FI v (mC p n W B x i).2) n ?_ ?_
 .exact⟨0,.fz wx U n (cS x),af,af,rfl,rfl,⟨_,_,by rw[show(mC p n W B x 0).2=x from rfl,H]⟩⟩
 .rintro m vs h' ⟨i,v,hi,rfl,rfl,rfl,hv⟩
  refine Lk ?_;refine de (λl=>?_) λaG=>?_
  .have bH:=zBK (B:=B) o q R hi;have E:=zQ (n:=n) o.pr l;have hb:=zKF bH z.hp i;have lh:=Zo (p:=p) (n:=n) (W:=W) (B:=B) (x:=x) i;have M:i<(mC p n W B x i).2.length:=by rw[bH.1];exact l
   have D:i<(mC p n W B x i).1.length:=af
   obtain⟨w0,a0,rfl⟩:=hv;have X:(cS (mC p n W B x i).1).take i++[.int .i64 (at_ (mC p n W B x i).2 i)]++(cS (mC p n W B x i).1).drop (i+1)=cS (mC p n W B x (i+1)).1:=zX D;have I:at_ (mC p n W B x (i+1)).1 i=at_ (mC p n W B x i).2 i:=by rw[mC,dp (by rw[YA];exact D)];simp
   have J:i<(mC p n W B x (i+1)).1.length:=by rw[Zo];exact l
   have ne:=zK o (k:=-at_ (mC p n W B x i).2 i) (m:=0) E E;have Y:Lp .i64 (0-at_ (mC p n W B x i).2 i)=-at_ (mC p n W B x i).2 i:=WQ
   have S:jE (σ.bf (cS (mC p n W B x (i+1)).1)) s p vP vB:=hs.bf _;simp only[Z3,seval,-ae,l,xL M,M,D,UX D,zJ,X,xL J,I,Y];refine zm af l λT=>?_;simp only[Z3,seval,-ae,xL J,I];refine zCp o S Q.P E ⟨DF,T,by rw[E.1]⟩ (k:=-at_ (mC p n W B x i).2 i) af λv1 Z=>?_;refine Lk ?_;refine zA.fzI (λK'=>zKZ z S Q ne bH Z ⟨_,_,rfl⟩) λa2=>?_;simp only[Z3,seval,-ae,WX l];exact⟨_,af,i+1,_,af,rfl,rfl,rfl,⟨_,_,rfl⟩⟩
  .have aU:i=n:=af
   subst aU;exact Gh.np (zC σ _) (by refine Lk ?_;rfl) (na _) (zL _ _) (hk _ (.inr rfl))
def zEO(z:Lz p n W B c)(D:lx vP vB W B)(T:El p n x)(V:FI vx x)(hk:∀v,FI v (yG p n W B x)->K v σ):zA Li 117 [.agg [.int .i64 p,vP,vB],vx] σ K:=by
 have o:=z.r.o;have q:=z.r.q;have aX:=o.le;have M:=o.len;have J:=T.1;have Z:=D.P.one;have h2:=D.B.one;obtain⟨U,I,rfl⟩:=V;refine Lh Tryz.func117 ?_;simp only[Z3,seval,-ae,Z,h2,J];refine zCt D M af λcap hc=>?_;refine Lk ?_;refine zF (λm vs h'=>∃i v,i<=n/\m=n-i/\vs=[.fz U I n (cS x),.ptr σ.aM 0,.sl (σ.aM+1) 0 n cap,v,.int .i64 (i:Nat)]/\h'=(σ.bf [.int .i64 p,vP,vB]).bf (cS (mC p n W B x i).1)/\FI v (mC p n W B x i).2) n ?_ ?_
 .exact⟨0,.fz U I n (cS x),af,af,rfl,rfl,⟨_,_,by rw[show(mC p n W B x 0).2=x from rfl,J]⟩⟩
 .rintro m vs h' ⟨i,v,hi,rfl,rfl,rfl,hv⟩
  refine Lk ?_;refine de (λl=>?_) λaG=>?_
  .have bH:=zBK (B:=B) o q T hi;have E:=zQ (n:=n) o.pr l;have hb:=zKF bH z.hp i;have lh:=Zo (p:=p) (n:=n) (W:=W) (B:=B) (x:=x) i;have S:i<(mC p n W B x i).2.length:=by rw[bH.1];exact l
   have H:i<(mC p n W B x i).1.length:=af
   obtain⟨w0,a0,rfl⟩:=hv;have X:(cS (mC p n W B x i).1).take i++[.int .i64 (at_ (mC p n W B x i).2 i)]++(cS (mC p n W B x i).1).drop (i+1)=cS (mC p n W B x (i+1)).1:=zX H;have Q:at_ (mC p n W B x (i+1)).1 i=at_ (mC p n W B x i).2 i:=by rw[mC,dp (by rw[YA];exact H)];simp
   have R:i<(mC p n W B x (i+1)).1.length:=by rw[Zo];exact l
   have ne:=zK o (k:=-at_ (mC p n W B x i).2 i) (m:=0) E E;have Y:Lp .i64 (0-at_ (mC p n W B x i).2 i)=-at_ (mC p n W B x i).2 i:=WQ
   simp only[Z3,seval,-ae,l,xL S,S,H,UX H,zJ,X,xL R,Q,Y];refine qf D M af l λa1=>?_;simp only[Z3,seval,-ae,xL R,Q];refine qF D o E bH E.1.symm rfl (k:=-at_ (mC p n W B x i).2 i) (m:=0) af LB λv1=>?_;rw[lmix0 (bH.1.trans E.1.symm)];refine Lk ?_;refine zIJ z D ne bH ⟨DF,v1,by rw[ne.1]⟩ ⟨_,_,rfl⟩ λv' iY=>?_;simp only[Z3,seval,-ae,WX l];exact⟨_,af,i+1,v',af,rfl,rfl,rfl,iY⟩
  .have aU:i=n:=af
   subst aU;exact Gh.finF (s:=σ.aM+1) ((zC σ _).bf _) (by refine Lk ?_;rfl) af (zL _ _) hc.ok λo1=>hk _ ⟨DF,.sl o1 0 i cap,by rw[show(yG p i W B x).length=i from Zo i];rfl⟩
end
section
structure LS where
 s:Nat
 cap:jZ
 cs:List PV
def LS.pv(q:LS):PV:=.sl q.s 0 (Lu q.cs) q.cap
def LS.ok(h:cg)(b:Nat)(q:LS):Prop:=full 1 q.cap (Lu q.cs)/\h.bt q.s=Dc q.cs/\b<=q.s/\q.s<h.aM
def LS.pvo:Option LS->PV
 |none=>Ln
 |some q=>q.pv
def LS.ca:List (Option LS)->List Nat
 |[]=>[]
 |none::ls=>LS.ca ls
 |some q::ls=>q.s::LS.ca ls
def LS.slots_app:∀(a b:List (Option LS)),LS.ca (a++b)=LS.ca a++LS.ca b
 |[],b=>rfl
 |none::a,b=>by simp only[Yr,LS.ca,LS.slots_app a b]
 |some q::a,b=>by simp only[Yr,LS.ca,LS.slots_app a b]
def LS.mem_slots{s:Nat}:∀{ls:List (Option LS)},s∈LS.ca ls↔∃q,Dc q∈ls/\q.s=s
 |[]=>by simp[LS.ca]
 |none::ls=>by simp[LS.ca,LS.mem_slots (ls:=ls)]
 |some q::ls=>by
  simp only[LS.ca,YH,LS.mem_slots (ls:=ls)];constructor
  .rintro(rfl|⟨D,h1,l⟩)
   .exact⟨q,.inl rfl,rfl⟩
   .exact⟨D,.inr h1,l⟩
  .rintro⟨D,h1|h1,l⟩
   .cases h1;exact .inl l.symm
   .exact .inr ⟨D,h1,l⟩
def LS.ok.move{h l:cg}{b:Nat}{q:LS}(a:q.ok h b)(E:l.bt q.s=h.bt q.s)(D:h.aM<=l.aM):q.ok l b:=⟨a.1,by rw[E];exact a.2.1,a.2.2.1,Yw a.2.2.2 D⟩
def zAU{b e m:Nat}{h D:cg}{v:PV}{cs:List PV}(a:ei b e h v m cs)(Q:∀s off l c,v=.sl s off l c->D.bt s=h.bt s)(M:h.aM<=D.aM):ei b e D v m cs:=by
 rcases a with a|⟨s,cap,rfl,E,R,H,I,J⟩
 .exact .inl a
 .exact .inr ⟨s,cap,rfl,E,by rw[Q s 0 _ cap rfl];exact R,H,I,Yw J M⟩
def Q7{b e m:Nat}{h:cg}{v:PV}{cs:List PV}(a:ei b e h v m cs){s off l:Nat}{c:jZ}(D:v=.sl s off l c):s<h.aM:=by
 rcases a with ⟨rfl,_⟩|⟨Q,cap,rfl,H,M,I,J,E⟩
 .cases D
 .cases D;exact E
structure TI(σ h:cg)(p0 sO:Nat)(vO vP vC:PV)(cO pc:List PV)(ls:List (Option LS)):Prop where
 cf:cT σ h
 bt:h.bt p0=Dc [vO,vP,vC]
 p0b:σ.aM<=p0/\p0<h.aM
 oO:h.bt sO=Dc cO
 sOb:σ.aM<=sO/\sO<h.aM
 pO:p0≠sO
 accP:ei σ.aM 1 h vP (Lu pc) pc
 accC:ei σ.aM 1 h vC (Lu ls) (ls.map LS.pvo)
 ok:∀q,Dc q∈ls->q.ok h σ.aM
 nd:(LS.ca ls).Nodup
 neP:∀s,s∈LS.ca ls\/s=p0\/s=sO->∀off l c,vP≠.sl s off l c
 neC:∀s,s∈LS.ca ls\/s=p0\/s=sO->∀off l c,vC≠.sl s off l c
 neL:p0∉LS.ca ls/\sO∉LS.ca ls
 nePC:∀s off l c,vP=.sl s off l c->∀off l c,vC≠.sl s off l c
variable{h:cg}{p0 sO:Nat}{vO vP vC:PV}{cO pc:List PV}{ls:List (Option LS)}
def TI.lt(a:TI σ h p0 sO vO vP vC cO pc ls){s:Nat}(hs:s∈LS.ca ls):σ.aM<=s/\s<h.aM:=by
 obtain⟨q,l,rfl⟩:=LS.mem_slots.1 hs
 have:=a.ok q l
 exact⟨this.2.2.1,this.2.2.2⟩
def TI.keepI{l:cg}(a:TI σ h p0 sO vO vP vC cO pc ls)(k:cT h l):TI σ l p0 sO vO vP vC cO pc ls:=
  ⟨a.cf.trans k,by rw[k.bt _ a.p0b.2];exact a.bt,⟨a.p0b.1,Yw a.p0b.2 k.aM⟩,by rw[k.bt _ a.sOb.2];exact a.oO,⟨a.sOb.1,Yw a.sOb.2 k.aM⟩,a.pO,a.accP.cf k,a.accC.cf k,
   λq D=>(a.ok q D).move (k.bt _ (a.ok q D).2.2.2) k.aM,a.nd,a.neP,a.neC,a.neL,a.nePC⟩
def TI.pushP{K:PV×cg->Prop}{row:PV}(a:TI σ h p0 sO vO vP vC cO pc ls)(aH:vO.one=DF/\vC.one=DF)(hb:(Lu pc)<=1000)
  (k:∀D E,D.one=DF->D.cells=[D]->E.wr p0 1 [D]=Dc (E.set p0 [vO,D,vC])->TI σ (E.set p0 [vO,D,vC]) p0 sO vO D vC cO (pc++[row]) ls->h.aM<E.aM->K (D,E)):
  fw (qL 1 24 (h.bf [row]) vP (.sl h.aM 0 1 (.b6 1))) K:=by
 refine ei.pushS (σb:=σ) (bytes:=24) a.cf a.accP rfl af af λD E Y I J R Q=>?_;have H:=a.p0b;have hs:=a.sOb;have Z:E.bt p0=Dc [vO,vP,vC]:=by rw[J _ H.2 (a.neP _ (.inr (.inl rfl)))];exact a.bt
 refine k D E I.one I.cells (by rw[zR Z,DK ⟨aK,by simp[I.one]⟩];rfl) ⟨Y.set H.1 _,by rw[zG,DK rfl],⟨H.1,by show p0<E.aM;omega⟩,?_,⟨hs.1,by show sO<E.aM;omega⟩,a.pO,?_,?_,λq V=>?_,a.nd,λs hs=>?_,a.neC,a.neL,λs off l c e=>?_⟩ Q
 .rw[zG,DL (Ne.symm a.pO),J _ hs.2 (a.neP _ (.inr (.inr rfl)))];exact a.oO
 .have a3:ei σ.aM 1 (E.set p0 [vO,D,vC]) D (Lu pc+1) (pc++[row]):=zAU I.acc (λs off l c e=>by rw[zG,DL λM=>R p0 H.2 off l c (by rw[e,M])]) (na _);simpa using a3
 .refine zAU a.accC (λs off l c e=>?_) (Y8 Q);have kX:s≠p0:=λM=>a.neC p0 (.inr (.inl rfl)) off l c (by rw[e,M]);rw[zG,DL kX,J s (Q7 a.accC e) λT X S e'=>a.nePC s T X S e' off l c e]
 .have aT:=a.ok q V;have U:q.s∈LS.ca ls:=LS.mem_slots.2 ⟨q,V,rfl⟩;refine aT.move ?_ (Y8 Q);rw[zG,DL λe=>a.neL.1 (by rw[<-e];exact U),J _ aT.2.2.2 (a.neP _ (.inl U))]
 .have:s<h.aM:=by
   rcases hs with hs|rfl|rfl
   .exact(a.lt hs).2
   .exact H.2
   .omega
  exact R s this
 .intro T X S e';exact R s (Q7 a.accC e') off l c e
def TI.pushC{K:PV×cg->Prop}{o:Option LS}(a:TI σ h p0 sO vO vP vC cO pc ls)(aH:vO.one=DF/\vP.one=DF)(hb:(Lu ls)<=1000)
  (J:∀q,o=Dc q->q.ok h σ.aM/\q.s∉LS.ca ls/\q.s≠p0/\q.s≠sO/\(∀off l c,vP≠.sl q.s off l c)/\∀off l c,vC≠.sl q.s off l c)
  (k:∀D E,D.one=DF->D.cells=[D]->E.wr p0 2 [D]=Dc (E.set p0 [vO,vP,D])->TI σ (E.set p0 [vO,vP,D]) p0 sO vO vP D cO pc (ls++[o])->h.aM<E.aM->K (D,E)):
  fw (qL 1 24 (h.bf [LS.pvo o]) vC (.sl h.aM 0 1 (.b6 1))) K:=by
 refine ei.pushS (σb:=σ) (bytes:=24) a.cf a.accC rfl af af λD E k2 R Q V S=>?_;have M:=a.p0b;have hs:=a.sOb;have kA:E.bt p0=Dc [vO,vP,vC]:=by rw[Q _ M.2 (a.neC _ (.inr (.inl rfl)))];exact a.bt
 have T:∀s,s∈LS.ca (ls++[o])->s∈LS.ca ls\/∃q,o=Dc q/\q.s=s:=λs hs=>by
  rw[LS.slots_app,YY]at hs;refine hs.imp id λhs=>?_;obtain⟨q,hq,e⟩:=LS.mem_slots.1 hs;exact⟨q,(YT.1 hq).symm,e⟩
 refine k D E R.one R.cells (by rw[zR kA,DK ⟨aK,by simp[R.one]⟩];rfl) ⟨k2.set M.1 _,by rw[zG,DK rfl],⟨M.1,by show p0<E.aM;omega⟩,?_,⟨hs.1,by show sO<E.aM;omega⟩,a.pO,?_,?_,λq hq=>?_,?_,λs hs=>?_,λs hs=>?_,⟨λH=>?_,λH=>?_⟩,λs off l c e=>?_⟩ S
 .rw[zG,DL (Ne.symm a.pO),Q _ hs.2 (a.neC _ (.inr (.inr rfl)))];exact a.oO
 .refine zAU a.accP (λs off l c e=>?_) (Y8 S);have kX:s≠p0:=λI=>a.neP p0 (.inr (.inl rfl)) off l c (by rw[e,I]);rw[zG,DL kX,Q s (Q7 a.accP e) (a.nePC s off l c e)]
 .have a3:ei σ.aM 1 (E.set p0 [vO,vP,D]) D (Lu ls+1) (ls.map LS.pvo++[LS.pvo o]):=zAU R.acc (λs off l c e=>by rw[zG,DL λI=>V p0 M.2 off l c (by rw[e,I])]) (na _);simpa using a3
 .rcases YY.1 hq with hq|hq
  .have aT:=a.ok q hq;have H:q.s∈LS.ca ls:=LS.mem_slots.2 ⟨q,hq,rfl⟩;refine aT.move ?_ (Y8 S);rw[zG,DL λe=>a.neL.1 (by rw[<-e];exact H),Q _ aT.2.2.2 (a.neC _ (.inl H))]
  .obtain⟨X,h3,Y,h5,h6,Z⟩:=J q (YT.1 hq).symm;refine X.move ?_ (Y8 S);rw[zG,DL Y,Q _ X.2.2.2 Z]
 .rw[LS.slots_app,FQ];refine⟨a.nd,?_,λx hx y U e=>?_⟩
  .cases o<;>simp[LS.ca]
  .cases o with
   |none=>cases U
   |some q=>
    simp only[LS.ca,YT]at U;exact(J q rfl).2.1 (by rw[<-U,<-e];exact hx)
 .rcases hs with hs|hs
  .rcases T s hs with hs|⟨q,e,rfl⟩
   .exact a.neP s (.inl hs)
   .exact(J q e).2.2.2.2.1
  .exact a.neP s (.inr hs)
 .have:s<h.aM:=by
   rcases hs with hs|rfl|rfl
   .rcases T s hs with hs|⟨q,e,rfl⟩
    .exact(a.lt hs).2
    .exact(J q e).1.2.2.2
   .exact M.2
   .omega
  exact V s this
 .rcases T _ H with H|⟨q,e,I⟩
  .exact a.neL.1 H
  .exact(J q e).2.2.1 I
 .rcases T _ H with H|⟨q,e,I⟩
  .exact a.neL.2 H
  .exact(J q e).2.2.2.1 I
 .exact V s (Q7 a.accP e)
end
section
variable{ls:List (Option LS)}
def TI.res{X Y:List PV}(a:TI (σ.bf X) h p0 sO vO vP vC cO pc ls):TI σ (h.set σ.aM Y) p0 sO vO vP vC cO pc ls:=by
 have Q:(σ.bf X).aM=σ.aM+1:=rfl;have J:=a.p0b;have hs:=a.sOb;refine⟨((zC σ X).trans a.cf).set (na _) _,by rw[zG,DL af];exact a.bt,⟨af,J.2⟩,by rw[zG,DL af];exact a.oO,⟨af,hs.2⟩,a.pO,?_,?_,λq M=>?_,a.nd,a.neP,a.neC,a.neL,a.nePC⟩
 .rcases a.accP with g|⟨s,cap,e,l,D,E,H,I⟩
  .exact .inl g
  .exact .inr ⟨s,cap,e,l,by rw[zG,DL af];exact D,E,af,I⟩
 .rcases a.accC with g|⟨s,cap,e,l,D,E,H,I⟩
  .exact .inl g
  .exact .inr ⟨s,cap,e,l,by rw[zG,DL af];exact D,E,af,I⟩
 .obtain⟨l,D,E,H⟩:=a.ok q M;exact⟨l,by rw[zG,DL af];exact D,af,H⟩
def zCM(n:Nat)(ls:List (Option LS)):Prop:=∀j (h:j<Lu ls),(j+1=n->ls[j]=none)/\(j+1<n->∃q,ls[j]=Dc q/\Lu q.cs=n-1-j)
def zCM.snoc{o:Option LS}(h:zCM n ls)(l:(Lu ls)+1=n->o=none)(D:(Lu ls)+1<n->∃q,o=Dc q/\Lu q.cs=n-1-Lu ls):zCM n (ls++[o]):=by
 intro j E;rw[YB,Yb]at E;rcases YG j (Lu ls) with x|x
 .rw[Uc x];exact h j x
 .have e:j=Lu ls:=af
  subst e;rw[Ud (na _)];simp only[Yk,Kd];exact⟨l,D⟩
def zD7(I:FI vO [])(H:∀h,cT σ h->K (.agg [Ln,Ln,Ln]) h)
  (D:∀h cap,full 1 cap 0->cT σ h->h.bt (σ.aM+1)=Dc []->σ.aM+1<h.aM->K (.agg [.sl (σ.aM+1) 0 0 cap,Ln,Ln]) h):zA Li 113 [vO] σ K:=by
 obtain⟨w,a,rfl⟩:=I;refine Lg Tryz.func113 ?_;refine Lk ?_;refine Z9 rfl aK ⟨λJ=>?_,λcap E=>?_⟩
 .refine Lk ?_;refine zF (λm l h'=>m=0/\l=[.ptr σ.aM 0,.int .i64 (0:Nat),.ptr (σ.aM+1) 0,.int .i64 (0:Nat),.int .i64 (0:Nat)]/\h'=(σ.bf [Ln,Ln,Ln]).bf [Ln,Ln,Ln]) 0 ⟨rfl,rfl,rfl⟩ ?_
  rintro m l h' ⟨rfl,rfl,rfl⟩
  refine Lk ?_;exact H _ ((zC σ _).bf _)
 .refine Lk ?_;refine zF (λm l h'=>m=0/\l=[.ptr σ.aM 0,.int .i64 (0:Nat),.ptr (σ.aM+2) 0,.int .i64 (0:Nat),.int .i64 (0:Nat)]/\h'=((σ.bf [Ln,Ln,Ln]).bf []).bf [.sl (σ.aM+1) 0 0 cap,Ln,Ln]) 0 ⟨rfl,rfl,rfl⟩ ?_
  rintro m l h' ⟨rfl,rfl,rfl⟩
  refine Lk ?_;refine D _ cap E (((zC σ _).bf _).bf _) ?_ ?_
  .simp only[Z3,seval,-ae]
  .refine Lk ?_;omega
def zD2(hv:FI vO O)(hn:(Lu O)=n)(dg:1<=n)(aX:n<=6)
  (hk:∀cap vP vC pc ls h,full 1 cap n->TI σ h (σ.aM+2) (σ.aM+1) (.sl (σ.aM+1) 0 n cap) vP vC (cS O) pc ls->(Lu pc)=n->(Lu ls)=n->zCM n ls->K (.agg [.sl (σ.aM+1) 0 n cap,vP,vC]) h):
  zA Li 113 [vO] σ K:=by
 obtain⟨w,a,rfl⟩:=hv;subst hn;refine Lg Tryz.func113 ?_;refine Lk ?_;refine Z9 rfl af ⟨λh0=>by rw[h0]at dg;simp at dg,λcap hc=>?_⟩;generalize R:σ.bf [Ln,Ln,Ln]=S;have Gb:S.aM=σ.aM+1:=by rw[<-R];rfl
 refine Lk ?_;refine zF (λm I h'=>∃(i:Nat) (vP vC:PV) (pc:List PV) (ls:List (Option LS)),i<=Lu O/\m=Lu O-i/\I=[.ptr σ.aM 0,.int .i64 (Lu O),.ptr (S.aM+1) 0,.int .i64 (Lu O),.int .i64 i]/\TI S h' (S.aM+1) S.aM (.sl S.aM 0 (Lu O) cap) vP vC (cS O) pc ls/\Lu pc=i/\Lu ls=i/\zCM (Lu O) ls) (Lu O) ?_ ?_
 .exact⟨0,_,_,[],[],af,af,rfl,⟨(zC S _).bf _,by simp only[Z3,seval,-ae],⟨af,by simp only[Z3,seval,-ae]⟩,by simp only[Z3,seval,-ae],⟨na _,by refine Lk ?_;omega⟩,af,ei.nil _ _ _,ei.nil _ _ _,λq hq=>(by cases hq),FK,λs hs off l c e=>(by cases e),λs hs off l c e=>(by cases e),⟨λh=>(by cases h),λh=>(by cases h)⟩,λs off l c e=>(by cases e)⟩,rfl,rfl,λj hj=>absurd hj aK⟩
 as_aux_lemma=>
 rintro m I h' ⟨i,vP,vC,pc,ls,hi,rfl,rfl,a,je,lV,dO⟩
 have aH:vP.one=DF/\vC.one=DF:=⟨a.accP.one,a.accC.one⟩;have q0:h'.dR (S.aM+1) 1=Dc vP:=by rw[zH a.bt];rfl
 have q3:h'.rd (S.aM+1) 0 3=Dc [.sl S.aM 0 (Lu O) cap,vP,vC]:=by rw[zV a.bt];rfl
 refine Lk ?_;refine Ll (λaG=>?_) λah=>?_
 .have aU:i=Lu O:=af
  have aQ:h'.bt σ.aM=Dc [Ln,Ln,Ln]:=by rw[a.cf.bt _ af,<-R];simp only[Z3,seval,-ae]
  have oH:h'.wr σ.aM 0 [.sl S.aM 0 (Lu O) cap,vP,vC]=Dc (h'.set σ.aM [.sl S.aM 0 (Lu O) cap,vP,vC]):=by
   rw[zR aQ,DK ⟨aK,by simp only[Ej,Em,aH.1,aH.2];rfl⟩];rfl
  have cM:(h'.set σ.aM [.sl S.aM 0 (Lu O) cap,vP,vC]).rd σ.aM 0 3=Dc [.sl S.aM 0 (Lu O) cap,vP,vC]:=by rw[zi,DK rfl];rfl
  rw[<-R]at a;have D:=a.res (Y:=[.sl S.aM 0 (Lu O) cap,vP,vC]);rw[R]at D;rw[Gb]at D
  have:=hk cap vP vC pc ls _ hc D af af dO
  simp only[Z3,seval,-ae,q3,oH,cM];rw[Gb];exact this
 have aq:i<Lu O:=af
 have mk:=uK (n:=(Lu O)) af;have jX:¬S.aM+1=h'.aM:=by have:=a.p0b.2;omega
 have iM:¬S.aM=h'.aM:=by have:=a.sOb.2;omega
 simp only[Z3,seval,-ae,q0,mk,tn (n:=(Lu O)) af,YL,jX,iM];refine TI.pushP (a.keepI (zC h' _)) ⟨rfl,aH.2⟩ af λv2 h2 u1 u2 U D l2=>?_;simp only[Z3,seval,-ae,u1,u2,U];clear u1 u2 U q0 q3 jX iM;generalize h2.set (S.aM+1) [.sl S.aM 0 (Lu O) cap,v2,vC]=hb at *
 have bG:Lp .i64 ((i:Int)+1)=((i+1:Nat):Int):=gX aq af;simp only[Z3,seval,-ae,bG];refine zF (λm I H=>∃(q:Nat) (vL:PV) (cells:List PV),i+(1+q)<=Lu O/\m=Lu O-(i+(1+q))/\I=[.ptr σ.aM 0,.int .i64 (Lu O),.ptr (S.aM+1) 0,vL,.int .i64 ((i+(1+q):Nat):Int),.int .i64 (Lu O),.int .i64 i]/\cT hb H/\ei hb.aM 1 H vL q cells/\(q=0->vL=Ln)) (Lu O-(i+1)) ⟨0,_,[],af,rfl,rfl,cT.refl _,ei.nil _ _ _,λ_=>rfl⟩ ?_
 rintro m I H ⟨q,vL,cells,hq,rfl,rfl,k3,T,ef⟩
 have b:=D.keepI k3;have q2:H.dR (S.aM+1) 2=Dc vC:=by rw[zH b.bt];rfl
 refine Lk ?_;refine de (λiO=>?_) λpM=>?_
 .have aT:i+(1+q)<Lu O:=af
  have e5:Lp .i64 (((i+(1+q):Nat):Int)+1)=((i+(1+(q+1)):Nat):Int):=WQ
  refine Lk ?_;refine zm af aT λav=>?_;refine Lk ?_;refine ei.push (bytes:=24) (σb:=hb) k3 T af af λv' h4 k4 p4=>?_;simp only[Z3,seval,-ae,e5];exact⟨_,af,q+1,v',_,af,rfl,rfl,k4,p4.acc,λh=>af⟩
 have jr:q=Lu O-1-i:=af
 have an:¬S.aM+1=H.aM:=by have:=b.p0b.2;omega
 have pV:=T.one;have pU:=T.cells;have u4:hb.aM<=H.aM:=k3.aM;obtain⟨o,ho,ux⟩:∃o:Option LS,LS.pvo o=vL/\((o=none/\q=0)\/∃s c,o=Dc ⟨s,c,cells⟩/\Lu cells=q/\0<q/\full 1 c q/\H.bt s=Dc cells/\hb.aM<=s/\s<H.aM):=by
  rcases F4 q with e|e
  .exact⟨none,(ef e).symm,.inl ⟨rfl,e⟩⟩
  .obtain⟨s,c,rfl,V,J,X,Z,M⟩:=T.pos e;exact⟨Dc ⟨s,c,cells⟩,by simp only[LS.pvo,LS.pv];rw[show (Lu cells)=q by omega],.inr ⟨s,c,rfl,af,e,V,J,Z,M⟩⟩
 subst ho;simp only[Z3,seval,-ae,q2,pV,pU,an];refine TI.pushC b ⟨rfl,b.accP.one⟩ af (λq' e=>?_) λv5 h5 u1 u2 U a5 l5=>?_
 .rcases ux with ⟨E,_⟩|⟨s,c,E,z0,V,J,X,Z,M⟩
  .rw[E]at e;cases e
  .rw[E]at e;cases e;have xv:=D.p0b;have jf:=D.sOb;refine⟨⟨by rw[z0];exact J,X,by have:=D.cf.aM;show S.aM<=s;omega,M⟩,λhm=>?_,by show s≠_;omega,by show s≠_;omega,λoff l c' Q=>?_,λoff l c' Q=>?_⟩
   .have:=(D.lt hm).2
    have:s<hb.aM:=this
    omega
   .have:s<hb.aM:=Q7 D.accP Q
    omega
   .have:s<hb.aM:=Q7 D.accC Q
    omega
 simp only[Z3,seval,-ae,u1,u2,U,WX aq];refine⟨_,af,i+1,v2,v5,_,ls++[o],af,rfl,rfl,a5,by rw[YB];simp;omega,by rw[YB];simp;omega,dO.snoc (λe=>?_) λe=>?_⟩
 .rcases ux with ⟨E,_⟩|⟨s,c,E,z0,V,J,X,Z,M⟩
  .exact E
  .omega
 .rcases ux with ⟨E,Q⟩|⟨s,c,E,z0,V,J,X,Z,M⟩
  .omega
  .exact⟨_,E,by rw[lV];show (Lu cells)=_;omega⟩
end
end Go.Proofs
