/- . -/
import Derived.Test.YtnfnaniemocleaaGreatEP6
import Derived.Test.YtnfnaniemocleaaGreatEAbPa
import Derived.Test.YtnfnaniemocleaaGreatRows
import Derived.Lib.SmallJoins
import Derived.WalkKit
import Derived.ProofKit
open Int renaming reduceNatCast'->ae
set_option maxRecDepth 100000
set_option linter.unusedSimpArgs false
set_option linter.unusedVariables false
set_option linter.unusedSectionVars false
namespace Go.Grp
end Go.Grp
namespace Go.Proofs
open Go.Ab Go.Lie Go.Grp
variable{rC rP:List PV}{d j n sp:Nat}{σ:PHeap}{vC vL vO vP vU vV vx vy vz:PV}{K:PV->PHeap->Prop}{O a w' x y z:V1}{P u v xs:V2}{C:V3}
section
variable{b:V1}
theorem okFlc:okF Tryz.prog 128=true:=by kernel_rfl
theorem zO9{b:Nat}(s:Shp O P C)(F:Full O P C O.length)(U:Cent O C)(X:∀o∈O,isP o)(I:σ.rd1 b 0=some (.ptr sp 0))(hs:PtrG σ sp vO vP vC)(l:IsPr vO vP vC O P C)(D:FII vU u)(Y:∀x∈u,gS O x)(L:u.length<=100)
  (V:∀w z,FII w z->z.length<=O.length->SStep O P C u z->K w σ):zA Tryz.prog 128 [vU,.ptr b 0] σ K:=by
 have be:=s.le;have vN:=D;obtain⟨wu,au,ru,rfl,iE⟩:=D;refine zD mix Tryz.func128 ?_;simp only[Z3,seval,-ae,I];refine zHl s hs l λvW E=>?_;have J:=E;obtain⟨ww,aw,xd,rfl,fa⟩:=E;simp only[Z3,seval,-ae,I];refine zCn s F U X hs l vN Y L J (λx Z=>(zBs s F x Z).1) (by unfold ZF;simp;omega) λw z M Q R S=>?_;simp only[Z3,seval,-ae];exact V w z M R (zNV Q s S)
theorem zOS{b:Nat}(s:Shp O P C)(F:Full O P C O.length)(M:Cent O C)(hp:∀o∈O,isP o)(hb:σ.obj b=some [.ptr sp 0])(jm:b<σ.next)(hs:PtrG σ sp vO vP vC)(hR:IsPr vO vP vC O P C)(Q:FII vU (ZF O))
  (hk:∀c a rows,(Lc O P C c=[]/\c<=O.length/\∀j,j<c->Lc O P C j≠[])->(∃w,rows[c]? = some w/\FII w [])->K (.fz true a (c+1) rows) σ):zA Tryz.prog 121 [vU,.clo 128 [] [.ptr b 0]] σ K:=by
 have be:=s.le;have h1:=Q.one;have Gz:=Q.cells;refine zA.gh ?_;refine zD mix Tryz.func121 ?_;simp only[Z3,seval,-ae,h1,Gz];refine zF (λm vs h'=>∃k u l rows v,m=O.length+1-k/\k<=O.length/\vs=[.clo 128 [] [.ptr b 0],v]/\Keep σ h'/\PSl σ.next 1 h' v (k+1) rows/\All2 FII rows l/\l.length=k+1/\l[k]? = some u/\SRel O P C u (Lc O P C k)/\u.length<=6/\∀j,j<k->Lc O P C j≠[]) (O.length+1) ?_ ?_
 .exact⟨0,ZF O,[ZF O],[vU],_,by omega,by omega,rfl,zC σ _,PSl.new _ 1 rfl (na _),All2.nil _ |>.snoc Q,rfl,rfl,SRel.start s F,by unfold ZF;simp;omega,λj hj=>by omega⟩
 rintro m vs h' ⟨k,u,l,rows,v,rfl,bN,rfl,I,ha,J,dO,ym,D,RN,jc⟩
 obtain⟨s',cap,rfl,hc,U,q3,q4,q5⟩:=ha;have gg:k<l.length:=by omega
 obtain⟨vk,Y,S⟩:=J.get gg;have tc:l[k]=u:=by rw[YQ gg]at ym;exact Option.some.inj ym
 rw[tc]at S;have cL:h'.rd1 s' k=some vk:=by rw[zI U];exact Y
 have hw:IntKind.i64.wrap (((k+1:Nat):Int)-1)=(k:Int):=WQ
 have fA:k<k+1:=YP k;have jn:h'.rd1 b 0=some (.ptr sp 0):=by rw[zI (by rw[I.obj b jm];exact hb)];rfl
 have V:=S;obtain⟨wk,ak,rk,rfl,cK⟩:=S;simp only[Z3,seval,-ae,hw,fA,cL];refine⟨okFlc,zO9 s F M hp jn (hs.keep I) hR V (λx R=>(D.ou x R).1) (by omega) λvo out X mf L=>?_⟩;have mT:=X;obtain⟨wo,ao,ro,rfl,iF⟩:=X;have cb:=SRel.step s F D L;simp only[Z3,seval,-ae,hw,fA,cL];refine zEj mT V (by omega) (λx R=>by rw[(L.ok x R).1.len];omega) λt ht=>?_;cases t
 .have an:out≠u:=λe=>by have:=ht.2 e;cases this
  have Z:Lc O P C k≠[]:=λe=>by
   have E:=(SRel.nil s F D).2 e
   have:out=[]:=(SRel.nil s F cb).2 (by rw[e];rfl)
   exact an (by rw[this,E])
  have gj:=Lc_lt s F M Z bN;simp only[Z3,seval,-ae];refine PSl.push (bytes:=24) (σb:=σ) I ⟨s',cap,rfl,hc,U,q3,q4,q5⟩ (by omega) (by omega) λv2 h2 k2 a2=>?_;simp only[Z3,seval,-ae];refine⟨_,?_,k+1,out,l++[out],_,v2,rfl,by omega,rfl,k2,a2,J.snoc mT,by rw[YV,dO];rfl,?_,cb,by omega,λj hj=>?_⟩
  .omega
  .rw[Yx (by omega),dO,Yv];rfl
  .by_cases x:j=k
   .subst x;exact Z
   .exact jc j (by omega)
 .obtain rfl:out=u:=ht.1 rfl;have E:=SRel.stop s F M D L;simp only[Z3,seval,-ae];exact Gh.finF I U q4 (J.bL 0) hc.ok λo1=>hk k _ _ ⟨(SRel.nil s F D).1 E,bN,jc⟩ ⟨_,Y,E ▸ V⟩
theorem zFy(s:Shp O P C)(F:Full O P C O.length)(I:Cent O C)(Q:∀o∈O,isP o)(hs:PtrG σ sp vO vP vC)(D:IsPr vO vP vC O P C)(L:∀c a rows,(Lc O P C c=[]/\c<=O.length/\∀j,j<c->Lc O P C j≠[])->(∃w,rows[c]? = some w/\FII w [])->K (.fz true a (c+1) rows) σ):zA Tryz.prog 66 [.ptr sp 0] σ K:=by
 refine zA.gh ?_;refine zD mix Tryz.func66 ?_;simp only[Z3,seval,-ae];have l:=hs.new [.ptr sp 0];refine zHl s l D λvV E=>?_;have R:=E;obtain⟨V,av,U,rfl,S⟩:=E;simp only[Z3,seval,-ae];refine zOS (b:=σ.next) s F I Q (by simp only[Z3,seval,-ae]) (by simp only[Z3,seval,-ae]) l D R λc a rows J M=>?_;simp only[Z3,seval,-ae];exact Gh.fin0 (zC σ _) trivial (L c a rows J M)
def clsOk(O:V1)(P:V2)(C:V3):Prop:=O=[]\/∃k:Nat,(k:Int)<at_ O 0/\Lc O P C k=[]
def isLG(O:V1)(P:V2)(C:V3):Prop:=((qE O P C/\Cons O P C)/\isCen O C)/\clsOk O P C
theorem Cons.full(s:Shp O P C)(l:Cons O P C):Full O P C O.length:=full_of s (na _) λj _ h=>l j h
theorem qE.isp(h:qE O P C):∀o∈O,isP o:=h.2.2.2.1
theorem zFL(h:qE O P C)(Z:Cons O P C)(hs:PtrG σ sp vO vP vC)(M:IsPr vO vP vC O P C)(D:∀t:Bool,(t=true↔isCen O C/\clsOk O P C)->K (.bool t) σ):zA Tryz.prog 84 [.ptr sp 0] σ K:=by
 have V:∀{A:Prop},¬A->((false=true)↔A):=λh=>⟨λx=>(by cases x),λx=>absurd x h⟩
 have s:=h.shp;have be:=s.le;have F:=Cons.full s Z;have I:=M;obtain⟨⟨w0,S,rfl⟩,_,_⟩:=M;have J:σ.rd1 sp 0=some (.fz w0 S O.length (pis O)):=by rw[zI hs.obj];rfl
 refine zD mix Tryz.func84 ?_;simp only[Z3,seval,-ae];refine zIf s hs I λt Q=>?_;cases t with
 |false=>
  simp only[Z3,seval,-ae];exact D _ (V λh=>by cases Q.2 h.1)
 |true=>
 have E:=Q.1 rfl;simp only[Z3,seval,-ae];refine zFy s F (E.cent s) h.isp hs I λc a rows ⟨X,h2,Y⟩ _=>?_;by_cases L:O.length=0
 .have we:O=[]:=YF L;have R:((O.length:Int)=0)=True:=eq_true (by omega);simp only[Z3,seval,-ae,J,R];exact D _ ⟨λ_=>⟨E,.inl we⟩,λ_=>rfl⟩
 .have hw:IntKind.i64.wrap (((c+1:Nat):Int)-1)=(c:Int):=WQ
  have l:0<O.length:=by omega
  have kP:(0:Int)<(O.length:Int):=by omega
  have jg:¬(O.length:Int)=0:=by omega
  simp only[Z3,seval,-ae,J,L,jg,hw,l,kP,pisAt l];refine D _ ?_;rw[decide_eq_true_iff];constructor
  .intro h;exact⟨E,.inr ⟨c,h,X⟩⟩
  .rintro⟨_,h|⟨k,bQ,U⟩⟩
   .rw[h]at l;simp at l
   .rcases YG k c with x|x
    .exact absurd U (Y k x)
    .omega
end
section
variable{sb:Nat}
theorem zOG(s:Shp O P C):∀k,(Lc O P C k).length<=6 ^ (k+1)
 |0=>by
  have:=s.le
  show(ZF O).length<=_
  unfold ZF;simp;omega
 |k+1=>by
  have l:=zFW s (Lc O P C k);have D:=zOG s k
  show(comL O P C (Lc O P C k)).length<=_
  rw[Nat.pow_succ];omega
theorem zKA(h:qE O P C)(hc:Cons O P C)(mK:isCen O C)(hR:IsPr vO vP vC O P C)(Z:∀t:Bool,(t=true↔clsOk O P C)->K (.bool t) σ):zA Tryz.prog 169 [.agg [vO,vP,vC]] σ K:=by
 have s:=h.shp;have be:=s.le;have F:=Cons.full s hc;have hC:=mK.cent s;have aK:=hR;obtain⟨⟨E,l,rfl⟩,⟨w1,I,rP,rfl,hP⟩,⟨M,J,rC,rfl,Gr⟩⟩:=hR;refine zA.gh ?_;have tT:Keep σ (σ.new [.fz E l O.length (pis O),.fz w1 I P.length rP,.fz M J C.length rC]):=zC σ _;have eT:∀{h':PHeap},Keep (σ.new [.fz E l O.length (pis O),.fz w1 I P.length rP,.fz M J C.length rC]) h'->h'.obj σ.next=some [.fz E l O.length (pis O),.fz w1 I P.length rP,.fz M J C.length rC]:=λ{h'} S=>by
  rw[S.obj _ (by simp[PHeap.new])];simp[PHeap.new]
 have gQ:∀{h':PHeap},Keep (σ.new [.fz E l O.length (pis O),.fz w1 I P.length rP,.fz M J C.length rC]) h'->h'.rd σ.next 0 3=some [.fz E l O.length (pis O),.fz w1 I P.length rP,.fz M J C.length rC]:=λ{h'} S=>by
  simp[PHeap.rd,eT S]
 have tB:∀{h':PHeap},Keep (σ.new [.fz E l O.length (pis O),.fz w1 I P.length rP,.fz M J C.length rC]) h'->h'.rd1 σ.next 0=some (.fz E l O.length (pis O)):=λ{h'} S=>by
  rw[zI (eT S)];rfl
 refine zD mix Tryz.func169 ?_;simp only[Z3,seval,-ae];refine zF (λm vs h'=>∃(i:Nat) (v:PV) (rows:List PV),i<=O.length/\m=O.length-i/\vs=[.ptr σ.next 0,.int .i64 O.length,v,.int .i64 i]/\Keep (σ.new [.fz E l O.length (pis O),.fz w1 I P.length rP,.fz M J C.length rC]) h'/\PSl (σ.next+1) 1 h' v i rows/\All2 FI rows ((List.range i).map (Grp.unit O))) O.length ?_ ?_
 .exact⟨0,_,[],by omega,by omega,rfl,zC _ _,PSl.new (σ.next+1) 1 rfl (na _),All2.nil _⟩
 rintro m vs h' ⟨i,v,rows,hi,rfl,rfl,D,ha,U⟩
 simp only[Z3,seval,-ae];refine iteI (λR=>?_) λaF=>?_
 .have aD:i<O.length:=by omega
  simp only[Z3,seval,-ae];refine Z4 (by omega) aD λvu fu=>?_;have OK:FI vu (Grp.unit O i):=fu;obtain⟨wu,au,rfl⟩:=fu;simp only[Z3,seval,-ae];refine PSl.push (bytes:=24) (σb:=σ.new [.fz E l O.length (pis O),.fz w1 I P.length rP,.fz M J C.length rC]) D ha (by omega) (by omega) λv' h2 k2 a2=>?_;simp only[Z3,seval,-ae,WX aD];refine⟨_,by omega,i+1,v',_,by omega,rfl,rfl,k2,a2,?_⟩;rw[zEg];exact U.snoc OK
 have aU:i=O.length:=by omega
 subst aU;obtain⟨t,cap,rfl,iK,q2,q3,q4,q5⟩:=ha;simp only[Z3,seval,-ae];refine ZU (λm vs h'=>∃(k:Nat) (v:PV),m=7-k/\k<7/\(O≠[]->(k:Int)<at_ O 0)/\vs=[.ptr σ.next 0,.int .i64 O.length,v,.int .i64 ((k+1:Nat):Int)]/\Keep (σ.new [.fz E l O.length (pis O),.fz w1 I P.length rP,.fz M J C.length rC]) h'/\FII v (Lc O P C k)/\(O=[]->k=0)) 7 ?_ ?_
 .refine .fz t rows q2 (U.bI 0) λo1=>.here ⟨0,.fz true (.sl o1 0 O.length cap) O.length rows,rfl,by omega,λL=>?_,?_,D.kill q4,⟨true,_,rows,by rw[show(Lc O P C 0).length=O.length by simp[Lc,ZF]],U⟩,λ_=>rfl⟩
  .have:=(s.pr 0 (List.length_pos_iff.2 L)).1;omega
  .simp only[Z3,seval,-ae];simp[sbs,Go.Ab.sb,iK.ok]
 clear D U q2 q3 q4 q5 aF hi
 rintro m vs h' ⟨k,v,rfl,tU,lh,rfl,D,hv,fg⟩
 have Cu:=zOG (O:=O) (P:=P) (C:=C) s k;have Gi:(Lc O P C k).length<=600000:=by
  have:6 ^ (k+1)<=6 ^ 7:=Nat.pow_le_pow_right (by omega) (by omega)
  omega
 have ky:=hv;obtain⟨wv,av,rv,rfl,fX⟩:=hv;have Y:=tT.trans D;by_cases L:O=[]
 .have df:((O.length:Int)=0)=True:=eq_true (by rw[L];rfl);have Ob:¬(0:Int)<(O.length:Int):=by rw[L];simp
  simp only[Z3,seval,-ae,df,Ob];exact Gh.fin0 Y trivial (Z _ ⟨λ_=>.inl L,λ_=>rfl⟩)
 have Q:0<O.length:=List.length_pos_iff.2 L;have kP:(0:Int)<(O.length:Int):=by omega
 have jg:¬(O.length:Int)=0:=by omega
 have bO:=s.pr 0 Q;have z9:=lh L;by_cases R:((k+1:Nat):Int)<at_ O 0;rotate_left
 .simp only[Z3,seval,-ae,kP,jg,tB D,Q,pisAt Q,R];refine Gh.fin0 Y trivial (Z _ ?_);rw[decide_eq_true_iff];constructor
  .intro h;exact .inr ⟨k,z9,YF (by omega)⟩
  .rintro(h|⟨j,Is,Ir⟩)
   .exact absurd h L
   .rw[zJN s F Ir k (by omega)];rfl
 by_cases X:Lc O P C k=[]
 .have hz:((Lc O P C k).length:Int)=0:=by rw[X];rfl
  have V:¬(0:Int)<((Lc O P C k).length:Int):=by omega
  have db:(((Lc O P C k).length:Int)=0)=True:=eq_true hz;simp only[Z3,seval,-ae,kP,jg,tB D,Q,pisAt Q,R,V,db];exact Gh.fin0 Y trivial (Z _ ⟨λ_=>.inr ⟨k,z9,X⟩,λ_=>rfl⟩)
 have V:(0:Int)<((Lc O P C k).length:Int):=by have:=List.length_pos_iff.2 X;omega
 simp only[Z3,seval,-ae,kP,jg,tB D,gQ D,Q,pisAt Q,R,V];refine zJ9 s hc aK ky (λx hx=>(Lc_ok s F k x hx).1) Gi λv2 cH=>?_;have ew:IntKind.i64.wrap (((k+1:Nat):Int)+1)=((k+1+1:Nat):Int):=WQ
 simp only[Z3,seval,-ae,ew];refine⟨7-(k+1),by omega,.here ⟨k+1,v2,rfl,by omega,λ_=>R,rfl,D,cH,λh=>absurd h L⟩⟩
theorem zGk(l:IsPr vO vP vC O P C)(sz:SzP O P C)(L:∀t:Bool,(t=true↔isLG O P C)->K (.bool t) σ):zA Tryz.prog 90 [.agg [vO,vP,vC]] σ K:=by
 have E:=l.O.one;have I:=l.P.one;have J:=l.C.one;have R:∀{A:Prop},¬A->((false=true)↔A):=λh=>⟨λx=>(by cases x),λx=>absurd x h⟩
 refine zA.gh ?_;refine zD mix Tryz.func90 ?_;simp only[Z3,seval,-ae,E,I,J];refine zHY l sz λt Q=>?_;cases t with
 |false=>
  simp only[Z3,seval,-ae];exact Gh.fin0 (zC σ _) trivial (L _ (R λh=>by cases Q.2 h.1))
 |true=>
 have D:=Q.1 rfl;simp only[Z3,seval,-ae,E,I,J];refine zKA D.1.1 D.1.2 D.2 l λr M=>?_;simp only[Z3,seval,-ae];exact Gh.fin0 (zC σ _) trivial (L _ ⟨λh=>⟨D,M.1 h⟩,λh=>M.2 h.2⟩)
end
structure LG(O:V1)(P:V2)(C:V3):Prop where
 pr:qE O P C
 co:Cons O P C
 ce:isCen O C
theorem LG.s(g:LG O P C):Shp O P C:=g.pr.shp
theorem LG.F(g:LG O P C):Full O P C O.length:=Cons.full g.s g.co
theorem LG.cent(g:LG O P C):Cent O C:=g.ce.cent g.s
theorem LG.eq(g:LG O P C){i:Nat}(l:i<O.length):at_ O i=at_ O 0:=(g.ce i l).1
theorem LG.isp(g:LG O P C)(h:0<O.length):isP (at_ O 0):=by rw[at_eq h];exact g.pr.isp _ (YK h)
theorem zG0{p:Int}:∀{O:V1},(∀o∈O,o=p)->prodL O=p ^ O.length
 |[],_=>by simp[prodL]
 |o::O,h=>by
  rw[prodL,zG0 λo l=>h o (Yl _ l),h o (by simp),YS,Int.pow_succ,UB]
theorem LG.bound(g:LG O P C){i:Nat}(D:0<O.length)(S:i<=O.length):1<=at_ O 0 ^ i/\at_ O 0 ^ i<=729:=by
 have U:=(g.isp D).bd;have E:prodL O=at_ O 0 ^ O.length:=zG0 λo M=>by
  obtain⟨k,l,rfl⟩:=YE.1 M
  have:=g.eq l
  rwa[at_eq l]at this
 have I:=g.pr.2.2.2.2.1;rw[E]at I;have J:(1:Int)<=at_ O 0 ^ i:=Int.pow_pos (by omega);have L:(1:Int)<=at_ O 0 ^ (O.length-i):=Int.pow_pos (by omega);have Q:at_ O 0 ^ O.length=at_ O 0 ^ i*at_ O 0 ^ (O.length-i):=by rw[<-Int.pow_add];congr 1;omega
 have R:at_ O 0 ^ i*1<=at_ O 0 ^ i*at_ O 0 ^ (O.length-i):=Yw L (by omega);exact⟨J,by omega⟩
theorem zB2(g:LG O P C)(l:IsPr vO vP vC O P C)(U:gS O x)(I:FI vx x){k:Int}(J:0<=k/\k<=1000)(S:∀v,FI v (Grp.pw (gm O P C) (zv O) x k.toNat)->K v σ):
  zA Tryz.prog 172 [.agg [vO,vP,vC],vx,.int .i64 k] σ K:=by
 have L:=l.O.one;have Q:=l.P.one;have R:=l.C.one;have M:=g.F.g.toMon;have E:¬k<0:=by omega
 refine zA.gh ?_;refine zD mix Tryz.func172 ?_;simp only[Z3,seval,-ae,L,Q,R,E];refine zDf g.s (d:=O.length) (i:=0) (by omega) (zBk g.s (by omega)) M l U I J λv D=>?_;simp only[Z3,seval,-ae];exact Gh.fin0 (zC σ _) (D.bel _) (S v D)
theorem zEX(g:LG O P C)(hs:PtrG σ sp vO vP vC)(Y:IsPr vO vP vC O P C)(J:gS O x)(bj:FI vx x)(X:0<O.length)
  (hk:∀m:Nat,(∃i,(m:Int)=at_ O 0 ^ i)->(m:Int)<=729->Grp.pw (gm O P C) (zv O) x m=zv O->K (.int .i64 m) σ):zA Tryz.prog 163 [.ptr sp 0,vx] σ K:=by
 have s:=g.s;have F:=g.F;have M:=F.g.toMon;have be:=s.le;have up:∀{z:V1},gS O z->TT O (O.length-O.length) z:=λh=>by rw[Yv];exact h
 have aK:=Y;obtain⟨⟨w0,a0,rfl⟩,_,_⟩:=Y;have U:σ.rd1 sp 0=some (.fz w0 a0 O.length (pis O)):=by rw[zI hs.obj];rfl
 obtain⟨wx,ax,rfl⟩:=bj;have bp:=J.len;refine zD mix Tryz.func163 ?_;simp only[Z3,seval,-ae];refine zF (λm us h'=>∃(d k i:Nat) (w:Bool) (a:AV) (now:V1),m=O.length-d/\us=[.ptr sp 0,.int .i64 k,.int .i64 d,.fz w a O.length (pis now)]/\σ=h'/\d<=O.length/\i<=d/\(k:Int)=at_ O 0 ^ i/\TT O d now/\now=Grp.pw (gm O P C) (zv O) x k) O.length ⟨0,1,0,wx,ax,x,by omega,by rw[bp];rfl,rfl,by omega,by omega,by simp,J,(M.pw_one J).symm⟩ ?_
 rintro m us h' ⟨d,k,i,w,a,now,rfl,rfl,rfl,hd,jJ,R,D,L⟩
 have Q:=D.len;have Z:=zDm Q;have Co:=g.bound X (i:=i) (by omega);simp only[Z3,seval,-ae];refine Zu Q.symm (by omega) ?_;by_cases I:now=zv O
 .have E:=Z.2 I;simp only[Z3,seval,-ae,E];exact hk k ⟨i,R⟩ (by omega) (by rw[<-L,I])
 have E:¬isZ now:=λh=>I (Z.1 h);have l:d<O.length:=by
  rcases YG d O.length with h|h
  .exact h
  .exact absurd (D.ext (s.zv _) λj h1 h2=>by omega) I
 have V:d<now.length:=by omega
 have bO:=s.pr d l;have eO:=g.eq l;have FO:=l;by_cases hdz:at_ now d=0
 .simp only[Z3,seval,-ae,E,l,pisAt V,hdz,WX l];refine⟨_,by omega,d+1,k,i,w,a,now,rfl,rfl,by omega,by omega,R,⟨D.len,D.bd,λj hj=>?_⟩,L⟩;rcases YG j d with h|h
  .exact D.zero j h
  .rw[show j=d by omega];exact hdz
 .simp only[Z3,seval,-ae,E,l,pisAt V,hdz,pisAt l,U];have nS:gS O now:=D.mono (YW _);refine Qz s F hs aK (up nS) ⟨w,a,by rw[Q]⟩ (k:=at_ O d) (by omega) λv1 f1=>?_;have S:=Q5 s F g.cent l D;have hlen:=S.len;obtain⟨w1,a1,rfl⟩:=f1;have gM:=g.bound X (i:=i+1) (by omega);have dq:((k*(at_ O d).toNat:Nat):Int)=at_ O 0 ^ (i+1):=by
   rw[UA,YI (by omega),R,eO,Int.pow_succ]
  have ew:IntKind.i64.wrap ((k:Int)*at_ O d)=((k*(at_ O d).toNat:Nat):Int):=by
   rw[show(k:Int)*at_ O d=((k*(at_ O d).toNat:Nat):Int) by rw[UA,YI (by omega)]];exact wrap64 (by omega) (by omega)
  simp only[Z3,seval,-ae,E,l,pisAt l,U,ew,WX FO];refine⟨_,by omega,d+1,k*(at_ O d).toNat,i+1,w1,a1,Grp.pw (gm O P C) (zv O) now (at_ O d).toNat,rfl,by rw[show(Grp.pw (mu O P C O.length) (zv O) now (at_ O d).toNat).length=O.length from hlen],by omega,by omega,dq,S,by rw[M.pw_mul J,<-L]⟩
def OkC(p c:Int):Prop:=p=5\/p=7\/(p=3/\(c=2\/c=-2))
theorem zQR{n:Int}{j:Nat}(l:n=3 ^ j)(D:n<=729):∃y:Int,(2*y) % n=1 % n:=by
 have hd:n∣729:=by
  rcases YG 6 j with h|h
  .exfalso;obtain⟨k,rfl⟩:∃k,j=7+k:=⟨j-7,by omega⟩
   rw[Int.pow_add]at l
   have:(1:Int)<=3 ^ k:=Int.pow_pos (by decide)
   omega
  .rw[l,show(729:Int)=3 ^ 6 by decide];exact zAJ h
 exact⟨365,ZN hd (by decide)⟩
theorem zCh{p n:Int}{j:Nat}{c:Int}(I:OkC p c)(l:n=p ^ j)(D:n<=729)(L:c=2\/c=12\/c=-2\/c=-12):∃y:Int,(c*y) % n=1 % n:=by
 have key:∃y:Int,((if 0<c then c else -c)*y) % n=1 % n:=by
  rcases I with h|h|⟨h,J⟩
  .exact zDo (.inl h) l D (by split<;>omega)
  .exact zDo (.inr h) l D (by split<;>omega)
  .rw[h]at l;rw[show(if 0<c then c else -c)=2 by split<;>omega];exact zQR l D
 obtain⟨y,E⟩:=key;split at E
 .exact⟨y,E⟩
 .exact⟨-y,by rw[show c * -y=-c*y by grind];exact E⟩
theorem zRE{c y m:Int}(h:(c*y) % m=1 % m):∃w,(c % m)*y=1+w*m:=by
 obtain⟨q,D⟩:m∣c*y-1:=Int.dvd_of_emod_eq_zero (by rw[Ua,h];simp);refine⟨q-c / m*y,?_⟩;have l:=Int.emod_add_mul_ediv c m;generalize c % m=r at *
 generalize c / m=t at *
 grind
theorem zRF{c y m t:Int}(h:(c % m)*y=1+t*m):(c*y) % m=1 % m:=by
 have D:=Int.emod_add_mul_ediv c m;have l:c*y=1+(t+c / m*y)*m:=by
  generalize c % m=r at *
  generalize c / m=t at *
  grind
 rw[l,Int.add_mul_emod_self_right]
theorem zIK(g:LG O P C)(E:0<O.length)(J:gS O z)(D:z≠zv O){m i:Nat}(l:(m:Int)=at_ O 0 ^ i)(h:Grp.pw (gm O P C) (zv O) z m=zv O):2<=m:=by
 have M:=(g.isp E).bd;cases i with
 |zero=>
  have:m=1:=by simp at l;omega
  rw[this,g.F.g.toMon.pw_one J]at h;exact absurd h D
 |succ i=>
  have I:(1:Int)<=at_ O 0 ^ i:=Int.pow_pos (by omega);rw[Int.pow_succ]at l;have L:1*at_ O 0<=at_ O 0 ^ i*at_ O 0:=YA I (by omega);omega
theorem Zf(l:gS O z)(D:z≠zv O):0<O.length:=by
 rcases Nat.eq_zero_or_pos O.length with h|h
 .exact absurd (Zr (by rw[l.len];simp) λj E=>by have:=l.len;omega) D
 .exact h
theorem zCW(g:LG O P C)(hs:PtrG σ sp vO vP vC)(Q:IsPr vO vP vC O P C)(D:gS O z)(U:FI vz z){c:Int}(ug:z≠zv O->OkC (at_ O 0) c)(hc:c=2\/c=12\/c=-2\/c=-12)
  (R:∀v w,FI v w->Rt O P C z c w->K v σ):zA Tryz.prog 87 [.ptr sp 0,vz,.int .i64 c] σ K:=by
 have s:=g.s;have be:=s.le;have up:∀{z:V1},gS O z->TT O (O.length-O.length) z:=λh=>by rw[Yv];exact h
 have S:=U;obtain⟨wz,az,rfl⟩:=U;have Z:=D.len;have J:=zDm Z;refine zD mix Tryz.func87 ?_;simp only[Z3,seval,-ae];refine Zu rfl (by omega) ?_;by_cases l:z=zv O
 .have E:=J.2 l;simp only[Z3,seval,-ae,E];refine zA.fzN (n:=z.length) rfl (λK'=>Qc rfl (by omega)) λv0=>?_;simp only[Z3,seval,-ae];exact R _ z ⟨true,v0,rfl⟩ (.inl ⟨l,l⟩)
 have E:¬isZ z:=λh=>l (J.1 h);have M:=Zf D l;simp only[Z3,seval,-ae,E];refine zEX g hs Q D S M λm ⟨i,I⟩ yZ L=>?_;have tP:=zIK g M D l I L;obtain⟨Y,hY⟩:=zCh (ug l) I yZ hc;obtain⟨wY,V⟩:=zRE hY;have b1:=Ya c (show(m:Int)≠0 by omega);have X:=Y4 c (show 0<(m:Int) by omega);simp only[Z3,seval,-ae];refine zA6 (by omega) (by omega) ?_;simp only[Z3,seval,-ae];refine zEu b1 X (by omega) λq qb q1 q2 q3=>?_;obtain⟨t,ht⟩:=q3 ⟨Y,wY,V⟩;simp only[Z3,seval,-ae];refine Qz s g.F hs Q (up D) S (k:=q) (by omega) λv1 f1=>?_;simp only[Z3,seval,-ae];refine R _ _ f1 (.inr ⟨l,i,q.toNat,m,I,L,?_,rfl⟩);rw[YI q1];exact zRF ht
theorem zAL(g:LG O P C)(hR:IsPr vO vP vC O P C)(I:gS O z)(oi:FI vz z){c:Int}(ug:z≠zv O->OkC (at_ O 0) c)(hc:c=2\/c=12)
  (hk:∀v w,FI v w->Rt O P C z c w->K v σ):zA Tryz.prog 94 [.agg [vO,vP,vC],vz,.int .i64 c] σ K:=by
 have s:=g.s;have be:=s.le;have F:=g.F;have M:=F.g.toMon;have jw:=oi;obtain⟨wz,az,rfl⟩:=oi;have dU:=I.len;have dT:=zDm dU;have aK:=hR;obtain⟨⟨J,E,rfl⟩,⟨w1,L,rP,rfl,hP⟩,⟨R,Q,rC,rfl,Gr⟩⟩:=hR;refine zA.gh ?_;have aq:Keep σ (σ.new [.fz J E O.length (pis O),.fz w1 L P.length rP,.fz R Q C.length rC]):=zC σ _;have r3:(σ.new [.fz J E O.length (pis O),.fz w1 L P.length rP,.fz R Q C.length rC]).rd σ.next 0 3=some [.fz J E O.length (pis O),.fz w1 L P.length rP,.fz R Q C.length rC]:=by simp only[Z3,seval,-ae]
 have r0:(σ.new [.fz J E O.length (pis O),.fz w1 L P.length rP,.fz R Q C.length rC]).rd1 σ.next 0=some (.fz J E O.length (pis O)):=by simp only[Z3,seval,-ae]
 refine zD mix Tryz.func94 ?_;simp only[Z3,seval,-ae];refine ZO rfl (by omega) ?_;by_cases D:z=zv O
 .have h1:=dT.2 D;simp only[Z3,seval,-ae,h1];exact Gh.fin0 aq (jw.bel _) (hk _ z jw (.inl ⟨D,D⟩))
 have h1:¬isZ z:=λh=>D (dT.1 h);have l:=Zf I D;have kP:(0:Int)<(O.length:Int):=by omega
 have gX:=(g.isp l).bd;simp only[Z3,seval,-ae,h1,l,kP,pisAt l,r3,r0];refine zB2 g aK I jw (k:=at_ O 0) (by omega) λv1 f1=>?_;obtain⟨w5,a5,rfl⟩:=f1;have Ll:=Q5 s F g.cent l I;simp only[Z3,seval,-ae];refine zF (λm V h'=>∃(i k:Nat) (w:Bool) (a:AV) (now:V1),m=O.length-i/\V=[.fz wz az z.length (pis z),.int .i64 c,.ptr σ.next 0,.int .i64 k,.fz w a now.length (pis now)]/\σ.new [.fz J E O.length (pis O),.fz w1 L P.length rP,.fz R Q C.length rC]=h'/\i<=O.length/\(k:Int)=at_ O 0 ^ i/\TT O i now/\now=Grp.pw (gm O P C) (zv O) z k) (O.length-1) ?_ ?_
 .refine⟨1,(at_ O 0).toNat,w5,a5,_,rfl,?_,rfl,by omega,by rw[YI (by omega),Int.pow_succ,Int.pow_zero,Uf],Ll,rfl⟩;simp only[Z3,seval,-ae,YI (show 0<=at_ O 0 by omega)]
 rintro m V h' ⟨i,k,w,a,now,rfl,rfl,rfl,hi,oR,fj,X⟩
 have gH:=fj.len;have Co:=g.bound l (i:=i) hi;have HS:=zDm gH;simp only[Z3,seval,-ae];refine ZO rfl (by omega) ?_;by_cases hJ:now=zv O;rotate_left
 .have U:¬isZ now:=λh=>hJ (HS.1 h);have aN:i<O.length:=by
   rcases YG i O.length with h|h
   .exact h
   .exact absurd (fj.ext (s.zv _) λj h1 U=>by omega) hJ
  have gM:=g.bound l (i:=i+1) (by omega);have dq:((k*(at_ O 0).toNat:Nat):Int)=at_ O 0 ^ (i+1):=by
   rw[UA,YI (by omega),oR,Int.pow_succ]
  have Z:IntKind.i64.wrap ((k:Int)*at_ O 0)=((k*(at_ O 0).toNat:Nat):Int):=by
   rw[show(k:Int)*at_ O 0=((k*(at_ O 0).toNat:Nat):Int) by rw[UA,YI (by omega)]];exact wrap64 (by omega) (by omega)
  have nS:gS O now:=fj.mono (YW _);simp only[Z3,seval,-ae,U,l,kP,pisAt l,r3,r0,Z];refine zB2 g aK nS ⟨w,a,rfl⟩ (k:=at_ O 0) (by omega) λv2 f2=>?_;obtain⟨w6,a6,rfl⟩:=f2;have HB:=Q5 s F g.cent aN fj;rw[g.eq aN]at HB;simp only[Z3,seval,-ae,U,l,kP,pisAt l,r3,r0];exact⟨_,by omega,i+1,k*(at_ O 0).toNat,w6,a6,_,rfl,rfl,by omega,dq,HB,by rw[M.pw_mul I,<-X]⟩
 have U:=HS.2 hJ;rw[hJ]at X;have tP:=zIK g l I D oR X.symm;obtain⟨Y,hY⟩:=zCh (ug D) oR (by omega) (c:=c) (by omega);have b1:=Ya c (show(k:Int)≠0 by omega);have b2:=Y4 c (show 0<(k:Int) by omega);have Cq:(c % k*(Y % k)) % (k:Int)=1:=by
  rw[<-Uq,hY];exact Yc (by omega) (by omega)
 have Sl:=Ya Y (show(k:Int)≠0 by omega);have Sk:=Y4 Y (show 0<(k:Int) by omega);have Sm:Y % (k:Int)≠0:=λh=>by rw[h,UL,Int.zero_emod]at Cq;omega
 simp only[Z3,seval,-ae,U];refine zF (λm V h'=>∃(q:Nat),m=k-q/\V=[.fz wz az z.length (pis z),.int .i64 c,.ptr σ.next 0,.int .i64 k,.int .i64 q]/\σ.new [.fz J E O.length (pis O),.fz w1 L P.length rP,.fz R Q C.length rC]=h'/\1<=q/\(q:Int)<=Y % (k:Int)) (k-1) ⟨1,rfl,rfl,rfl,by omega,by omega⟩ ?_
 rintro m V h' ⟨q,rfl,rfl,rfl,tF,RR⟩
 have MB:(q:Int)<(k:Int):=by omega
 have tE:q<k:=by omega
 have hmul:=UY b1 (show 0<=(q:Int) by omega);have Ii:c % (k:Int)*q<=729*729:=Int.mul_le_mul (by omega) (by omega) (by omega) (by omega);have Z:IntKind.i64.wrap (c % (k:Int)*q)=c % (k:Int)*q:=WE;have et:(c % (k:Int)*q).tmod k=c % (k:Int)*q % k:=Yr hmul;have fg:¬(k:Int)=0:=by omega
 have SV:=Ya (c % (k:Int)*q) fg;have SS:=Y4 (c % (k:Int)*q) (show 0<(k:Int) by omega);have nQ:IntKind.i64.wrap (c % (k:Int)*q % k)=c % (k:Int)*q % k:=WE;simp only[Z3,seval,-ae,tE];refine zDk (by omega) (by omega) ?_;by_cases S:c % (k:Int)*q % k=1
 .simp only[Z3,seval,-ae,tE,Z,et,fg,nQ,S,r3];refine zB2 g aK I jw (k:=q) (by omega) λv3 f3=>?_;simp only[Z3,seval,-ae];refine Gh.fin0 aq (f3.bel _) (hk _ _ f3 (.inr ⟨D,i,q,k,oR,X.symm,?_,by rw[Int.toNat_natCast]⟩));rw[Uq,UX _ (UO _)]at S;rw[Uq,S];exact(Yc (by omega) (by omega)).symm
 .have an:(q:Int)≠Y % (k:Int):=λe=>S (by rw[e];exact Cq);have Pg:IntKind.i64.wrap ((q:Int)+1)=((q+1:Nat):Int):=WQ
  simp only[Z3,seval,-ae,tE,Z,et,fg,nQ,S,Pg];exact⟨_,by omega,q+1,rfl,rfl,by omega,by omega⟩
theorem isExp.gS(h:isExp O x):gS O x:=⟨h.1,λj l=>by have:=h.2 j (by rw[h.1];exact l);omega,λj l=>by omega⟩
theorem zF7:Zq O 0 x↔isExp O x:=⟨λh=>h.1,λh=>⟨h,by simp[isZ]⟩⟩
theorem zGt(hs:PtrG σ sp vO vP vC)(M:IsPr vO vP vC O P C)(sz:SzP O P C)(X:FII vL xs)(Q:SzL xs)(I:∀t:Bool,(t=true↔(qE O P C/\Cons O P C)/\∀x∈xs,isExp O x)->K (.bool t) σ):zA Tryz.prog 83 [.ptr sp 0,vL] σ K:=by
 have L:∀{A:Prop},¬A->((false=true)↔A):=λh=>⟨λx=>(by cases x),λx=>absurd x h⟩
 have r3:σ.rd sp 0 3=some [vO,vP,vC]:=by rw[zZ hs.obj];rfl
 have bp:=Q.l;obtain⟨wl,al,rl,rfl,U⟩:=X;refine zD mix Tryz.func83 ?_;simp only[Z3,seval,-ae,r3];refine zGT M sz λt D=>?_;cases t with
 |false=>
  simp only[Z3,seval,-ae];exact I _ (L λh=>by cases D.2 h.1)
 |true=>
 have J:=D.1 rfl;simp only[Z3,seval,-ae];refine zF (λm R h'=>∃i:Nat,i<=xs.length/\m=xs.length-i/\R=[.ptr sp 0,.fz wl al xs.length rl,.int .i64 xs.length,.int .i64 i]/\σ=h'/\∀x∈xs.take i,isExp O x) xs.length ⟨0,by omega,by omega,rfl,rfl,by simp⟩ ?_
 rintro m R h' ⟨i,hi,rfl,rfl,rfl,E⟩
 simp only[Z3,seval,-ae];refine iteI (λl=>?_) λaF=>?_;rotate_left
 .have aU:i=xs.length:=by omega
  subst aU;rw[Yg]at E;exact I _ ⟨λ_=>⟨J,E⟩,λ_=>rfl⟩
 obtain⟨w4,S,Y⟩:=U.rowI l;have Z:=Q.r _ (YK l);simp only[Z3,seval,-ae,l,Y];refine zCf hs M.O (by have:=J.1.1;omega) J.1.isp ⟨w4,S,rfl⟩ Z λt D=>?_;cases t with
 |false=>
  simp only[Z3,seval,-ae];exact I _ (L λh=>by cases D.2 (h.2 _ (YK l)))
 |true=>
 have V:=D.1 rfl;simp only[Z3,seval,-ae,WX l];refine⟨_,by omega,i+1,by omega,rfl,rfl,λx hx=>?_⟩;rw[YU l,YY,YN]at hx;rcases hx with hx|hx
 .exact E x hx
 .rw[hx];exact V
open Classical in
noncomputable def codeG(O:V1)(P:V2)(C:V3)(xs:V2):Int:=
 if (qE O P C/\Cons O P C)/\∀x∈xs,isExp O x then(if isCen O C/\clsOk O P C then 0 else 5)else 1
theorem QO(h:codeG O P C xs=0):LG O P C/\clsOk O P C/\∀x∈xs,gS O x:=by
 unfold codeG at h;split at h
 .rename_i l;split at h
  .rename_i D;exact⟨⟨l.1.1,l.1.2,D.1⟩,D.2,λx E=>(l.2 x E).gS⟩
  .omega
 .omega
theorem QT(hs:PtrG σ sp vO vP vC)(I:IsPr vO vP vC O P C)(sz:SzP O P C)(E:FII vL xs)(M:SzL xs)(l:K (.int .i64 (codeG O P C xs)) σ):zA Tryz.prog 40 [.ptr sp 0,vL] σ K:=by
 unfold codeG at l;have R:=E;obtain⟨V,al,U,rfl,S⟩:=E;refine zD mix Tryz.func40 ?_;simp only[Z3,seval,-ae];refine zGt hs I sz R M λt J=>?_;cases t with
 |false=>
  rw[if_neg λh=>by cases J.2 h]at l;simp only[Z3,seval,-ae];exact l
 |true=>
 have D:=J.1 rfl;rw[if_pos D]at l;simp only[Z3,seval,-ae];refine zFL D.1.1 D.1.2 hs I λQ L=>?_;cases Q with
 |false=>
  rw[if_neg λh=>by cases L.2 h]at l;simp only[Z3,seval,-ae];exact l
 |true=>
  rw[if_pos (L.1 rfl)]at l;simp only[Z3,seval,-ae];exact l
theorem zC2(Y:IsPr vO vP vC O P C)(sz:SzP O P C)(hL:FII vL xs)(sw:SzL xs)(l:K (.int .i64 (codeG O P C xs)) σ):zA Tryz.prog 42 [.agg [vO,vP,vC],vL] σ K:=by
 unfold codeG at l;have U:=Y;have bp:=sw.l;obtain⟨⟨I,D,rfl⟩,⟨w1,J,rP,rfl,hP⟩,⟨Q,L,rC,rfl,Gr⟩⟩:=Y;obtain⟨wl,al,rl,rfl,bF⟩:=hL;refine zA.gh ?_;have R:Keep σ (σ.new [.fz I D O.length (pis O),.fz w1 J P.length rP,.fz Q L C.length rC]):=zC σ _;have r3:(σ.new [.fz I D O.length (pis O),.fz w1 J P.length rP,.fz Q L C.length rC]).rd σ.next 0 3=some [.fz I D O.length (pis O),.fz w1 J P.length rP,.fz Q L C.length rC]:=by simp only[Z3,seval,-ae]
 have r0:(σ.new [.fz I D O.length (pis O),.fz w1 J P.length rP,.fz Q L C.length rC]).rd1 σ.next 0=some (.fz I D O.length (pis O)):=by simp only[Z3,seval,-ae]
 refine zD mix Tryz.func42 ?_;simp only[Z3,seval,-ae,r3];refine zEs U sz λt M=>?_;cases t with
 |false=>
  rw[if_neg λh=>by cases M.2 h.1]at l;simp only[Z3,seval,-ae];exact Gh.fin0 R trivial l
 |true=>
 have S:=M.1 rfl;simp only[Z3,seval,-ae];refine zF (λm us h'=>∃i:Nat,i<=xs.length/\m=xs.length-i/\us=[.fz wl al xs.length rl,.ptr σ.next 0,.int .i64 i]/\σ.new [.fz I D O.length (pis O),.fz w1 J P.length rP,.fz Q L C.length rC]=h'/\∀x∈xs.take i,isExp O x) xs.length ⟨0,by omega,by omega,rfl,rfl,by simp⟩ ?_
 rintro m us h' ⟨i,hi,rfl,rfl,rfl,V⟩
 simp only[Z3,seval,-ae];refine iteI (λE=>?_) λaF=>?_;rotate_left
 .have aU:i=xs.length:=by omega
  subst aU;rw[Yg]at V;rw[if_pos ⟨S,V⟩]at l;simp only[Z3,seval,-ae,r3];refine zGk U sz λt2 Z=>?_;cases t2 with
  |false=>
   rw[if_neg λh=>by cases Z.2 ⟨⟨S,h.1⟩,h.2⟩]at l;simp only[Z3,seval,-ae];exact Gh.fin0 R trivial l
  |true=>
   have X:=Z.1 rfl;rw[if_pos ⟨X.1.2,X.2⟩]at l;simp only[Z3,seval,-ae];exact Gh.fin0 R trivial l
 obtain⟨w4,a4,hr⟩:=bF.rowI E;have pS:=sw.r _ (YK E);simp only[Z3,seval,-ae,E,hr,r0];refine zAN (t:=0) (by omega) (by omega) U.O (by have:=S.1.1;omega) S.1.isp ⟨w4,a4,rfl⟩ pS λt M=>?_;cases t with
 |false=>
  rw[if_neg λh=>by cases M.2 (zF7.2 (h.2 _ (YK E)))]at l;simp only[Z3,seval,-ae];exact Gh.fin0 R trivial l
 |true=>
 have h1:=zF7.1 (M.1 rfl);simp only[Z3,seval,-ae,WX E];refine⟨_,by omega,i+1,by omega,rfl,rfl,λx hx=>?_⟩;rw[YU E,YY,YN]at hx;rcases hx with hx|hx
 .exact V x hx
 .rw[hx];exact h1
section
variable{w:V1}
noncomputable def rt(O:V1)(P:V2)(C:V3)(z:V1)(c:Int):V1:=Classical.epsilon λw=>Rt O P C z c w
noncomputable abbrev gi_ (O:V1) (P:V2) (C:V3) (x:V1):V1:=ginv (gS O) (gm O P C) (zv O) x
theorem zCV{c:Int}(h:Rt O P C z c w):Rt O P C z c (rt O P C z c):=Uj ⟨w,h⟩
theorem rt_eq(g:LG O P C)(l:gS O z){c:Int}(h:Rt O P C z c w):w=rt O P C z c:=Rt.unique g.F l h (zCV h)
theorem Rt.flip(g:LG O P C)(J:gS O z){c:Int}(h:Rt O P C z (-c) w'):∃w,Rt O P C z c w:=by
 rcases h with ⟨l,rfl⟩|⟨l,j,y,n,D,E,I,rfl⟩
 .exact⟨zv O,.inl ⟨l,rfl⟩⟩
 .refine⟨_,.inr ⟨l,j,(n-1)*y,n,D,E,?_,rfl⟩⟩;have M:1<=n:=by
   have Q:=(g.isp (Zf J l)).bd;have L:(1:Int)<=at_ O 0 ^ j:=Int.pow_pos (by omega);omega
  have e:c*(((n-1)*y:Nat):Int)=-c*y+(c*y)*n:=by
   rw[UA,show((n-1:Nat):Int)=(n:Int)-1 by omega];grind
  rw[e,Int.add_mul_emod_self_right];exact I
theorem zFm(g:LG O P C)(l:gS O z){c:Int}(h:Rt O P C z (-c) w'):w'=gi_ O P C (rt O P C z c):=by
 obtain⟨w,hw⟩:=Rt.flip g l h
 have:=Rt.neg g.F g.s l hw h
 rw[this,rt_eq g l hw]
theorem ok2(g:LG O P C)(k:clsOk O P C)(D:gS O x)(E:gS O y){c:Int}(I:c=2\/c=-2)(h:gcom O P C x y≠zv O):OkC (at_ O 0) c:=by
 have l:=Zf (g.F.g.com_in D E) h;rcases k with k|⟨k,L,J⟩
 .rw[k]at l;simp at l
 .rcases g.isp l with e|e|e|e
  .exact absurd (QW g.s g.F J (by omega) D E) h
  .exact .inr (.inr ⟨e,I⟩)
  .exact .inl e
  .exact .inr (.inl e)
theorem ok12(g:LG O P C)(k:clsOk O P C)(I:gS O x)(J:gS O y)(D:gS O z){c:Int}(h:gcom O P C (gcom O P C x y) z≠zv O):OkC (at_ O 0) c:=by
 have E:=g.F.g.com_in I J;have l:=Zf (g.F.g.com_in E D) h;rcases k with k|⟨k,M,L⟩
 .rw[k]at l;simp at l
 .rcases g.isp l with e|e|e|e
  .exact absurd (QW g.s g.F L (by omega) E D) h
  .exact absurd (zB9 g.s g.F L (by omega) I J D) h
  .exact .inl e
  .exact .inr (.inl e)
noncomputable def gsum(O:V1)(P:V2)(C:V3)(x y:V1):V1:=
 gm O P C (gm O P C (gm O P C (gm O P C x y) (gi_ O P C (rt O P C (gcom O P C x y) 2))) (rt O P C (gcom O P C (gcom O P C x y) x) 12)) (gi_ O P C (rt O P C (gcom O P C (gcom O P C x y) y) 12))
noncomputable def gbr(O:V1)(P:V2)(C:V3)(x y:V1):V1:=
 gm O P C (gm O P C (gcom O P C x y) (gi_ O P C (rt O P C (gcom O P C (gcom O P C x y) x) 2))) (gi_ O P C (rt O P C (gcom O P C (gcom O P C x y) y) 2))
theorem up_(h:gS O z):TT O (O.length-O.length) z:=by rw[Yv];exact h
theorem zEv(g:LG O P C)(k:clsOk O P C)(hs:PtrG σ sp vO vP vC)(l:IsPr vO vP vC O P C)(D:gS O x)(E:gS O y)(M:FI vx x)(Q:FI vy y)(hk:gS O (gsum O P C x y)->ResI σ K (gsum O P C x y)):
  zA Tryz.prog 41 [.ptr sp 0,vx,vy] σ K:=by
 have s:=g.s;have F:=g.F;have G:=F.g;have I:=G.com_in D E;have J:=G.com_in I D;have L:=G.com_in I E;have wK:=G.cl D E;refine zA.gh ?_;refine zD mix Tryz.func41 ?_;simp only[Z3,seval,-ae];refine qy s F hs l D E M Q λv1 R=>?_;simp only[Z3,seval,-ae];refine Zj s F hs l (up_ D) (up_ E) M Q λv2 f2=>?_;simp only[Z3,seval,-ae];refine zCW g hs l I R (c:=-2) (ok2 g k D E (.inr rfl)) (by omega) λv3 w3 f3 r3=>?_;have e3:=zFm g I (c:=2) r3;have U:gS O w3:=r3.gS F s I;simp only[Z3,seval,-ae];refine Zj s F hs l (up_ wK) (up_ U) f2 f3 λv4 f4=>?_;have V:=G.cl wK U;simp only[Z3,seval,-ae];refine qy s F hs l I D R M λv5 f5=>?_;simp only[Z3,seval,-ae];refine zCW g hs l J f5 (c:=12) (ok12 g k D E D) (by omega) λv6 w6 f6 r6=>?_;have e6:=rt_eq g J r6;have X:gS O w6:=r6.gS F s J;simp only[Z3,seval,-ae];refine Zj s F hs l (up_ V) (up_ X) f4 f6 λv7 f7=>?_;have Y:=G.cl V X;simp only[Z3,seval,-ae];refine qy s F hs l I E R Q λv8 f8=>?_;simp only[Z3,seval,-ae];refine zCW g hs l L f8 (c:=-12) (ok12 g k D E E) (by omega) λv9 w9 f9 r9=>?_;have e9:=zFm g L (c:=12) r9;have Z:gS O w9:=r9.gS F s L;have G4:=G.cl Y Z;have e:mu O P C O.length (gm O P C (gm O P C (gm O P C x y) w3) w6) w9=gsum O P C x y:=by unfold gsum;rw[<-e3,<-e6,<-e9]
 have S:=hk (by rw[<-e];exact G4);rw[<-e]at S;simp only[Z3,seval,-ae];refine zAr s F hs l (up_ Y) (up_ Z) f7 f9 ⟨λh0=>?_,λcap hc=>?_⟩
 .simp only[Z3,seval,-ae];exact Gh.ret (S.1 h0)
 .simp only[Z3,seval,-ae];exact Gh.ret (S.2 cap hc)
theorem zB6(g:LG O P C)(k:clsOk O P C)(hs:PtrG σ sp vO vP vC)(l:IsPr vO vP vC O P C)(D:gS O x)(E:gS O y)(V:FI vx x)(X:FI vy y)(hk:gS O (gbr O P C x y)->ResI σ K (gbr O P C x y)):
  zA Tryz.prog 44 [.ptr sp 0,vx,vy] σ K:=by
 have s:=g.s;have F:=g.F;have G:=F.g;have I:=G.com_in D E;have J:=G.com_in I D;have L:=G.com_in I E;refine zA.gh ?_;refine zD mix Tryz.func44 ?_;simp only[Z3,seval,-ae];refine qy s F hs l D E V X λv1 M=>?_;simp only[Z3,seval,-ae];refine qy s F hs l I D M V λv5 f5=>?_;simp only[Z3,seval,-ae];refine zCW g hs l J f5 (c:=-2) (ok12 g k D E D) (by omega) λv6 w6 f6 Y=>?_;have e6:=zFm g J (c:=2) Y;have R:gS O w6:=Y.gS F s J;simp only[Z3,seval,-ae];refine Zj s F hs l (up_ I) (up_ R) M f6 λv7 f7=>?_;have S:=G.cl I R;simp only[Z3,seval,-ae];refine qy s F hs l I E M X λv8 f8=>?_;simp only[Z3,seval,-ae];refine zCW g hs l L f8 (c:=-2) (ok12 g k D E E) (by omega) λv9 w9 f9 Z=>?_;have e9:=zFm g L (c:=2) Z;have U:gS O w9:=Z.gS F s L;have G4:=G.cl S U;have e:mu O P C O.length (gm O P C (gcom O P C x y) w6) w9=gbr O P C x y:=by unfold gbr;rw[<-e6,<-e9]
 have Q:=hk (by rw[<-e];exact G4);rw[<-e]at Q;simp only[Z3,seval,-ae];refine zAr s F hs l (up_ S) (up_ U) f7 f9 ⟨λh0=>?_,λcap hc=>?_⟩
 .simp only[Z3,seval,-ae];exact Gh.ret (Q.1 h0)
 .simp only[Z3,seval,-ae];exact Gh.ret (Q.2 cap hc)
theorem zDB(g:LG O P C)(R:IsPr vO vP vC O P C)(hL:FII vL xs)(hx:∀x∈xs,gS O x)(bp:xs.length<=1000)(hk:∀v,FI v (xs.foldl (gm O P C) (zv O))->K v σ):zA Tryz.prog 92 [.agg [vO,vP,vC],vL] σ K:=by
 have s:=g.s;have be:=s.le;have G:=g.F.g;have aK:=R;obtain⟨⟨J,l,rfl⟩,⟨w1,D,rP,rfl,hP⟩,⟨L,E,rC,rfl,Gr⟩⟩:=R;obtain⟨wl,al,rl,rfl,bF⟩:=hL;refine zA.gh ?_;have aq:Keep σ (σ.new [.fz J l O.length (pis O),.fz w1 D P.length rP,.fz L E C.length rC]):=zC σ _;have r3:∀{h:PHeap},Keep (σ.new [.fz J l O.length (pis O),.fz w1 D P.length rP,.fz L E C.length rC]) h->h.rd σ.next 0 3=some [.fz J l O.length (pis O),.fz w1 D P.length rP,.fz L E C.length rC]:=λ{h} k=>by
  have:h.obj σ.next=some [.fz J l O.length (pis O),.fz w1 D P.length rP,.fz L E C.length rC]:=by rw[k.obj _ (by simp[PHeap.new])];simp[PHeap.new]
  rw[zZ this];rfl
 refine zD mix Tryz.func92 ?_;simp only[Z3,seval,-ae,mk8 (n:=O.length) (by omega),mkL (n:=O.length) (by omega),YT,zf];refine ZU (λm Y h'=>∃(i:Nat) (v:PV),i<=xs.length/\m=xs.length-i/\Y=[.fz wl al xs.length rl,.ptr σ.next 0,v,.int .i64 i]/\Keep (σ.new [.fz J l O.length (pis O),.fz w1 D P.length rP,.fz L E C.length rC]) h'/\FI v ((xs.take i).foldl (gm O P C) (zv O))/\gS O ((xs.take i).foldl (gm O P C) (zv O))) xs.length ?_ ?_
 .refine .fz (σ.next+1) (pis (zv O)) (by simp only[Z3,seval,-ae]) (zL _ _) λV=>.here ⟨0,.fz true (.sl V 0 O.length (.known O.length)) O.length (pis (zv O)),by omega,by omega,?_,((Keep.refl _).new _).kill (by simp only[Z3,seval,-ae]),⟨true,.sl V 0 O.length (.known O.length),by simp⟩,s.zv _⟩;simp only[Z3,seval,-ae];simp[sbs,Go.Ab.sb,capOK]
 rintro m Y h' ⟨i,v,hi,rfl,rfl,Q,U,S⟩
 have M:=U;obtain⟨wv,av,rfl⟩:=U;simp only[Z3,seval,-ae];refine iteI (λI=>?_) λaF=>?_;rotate_left
 .have aU:i=xs.length:=by omega
  subst aU;rw[Yg]at M ⊢;exact Gh.fin0 (aq.trans Q) (M.bel _) (hk _ M)
 obtain⟨w4,Z,hr⟩:=bF.rowI I;have X:=hx _ (YK I);simp only[Z3,seval,-ae,I,hr,r3 Q];refine zB3 s aK S X M ⟨w4,Z,rfl⟩ λv2 f2=>?_;simp only[Z3,seval,-ae,WX I];have e:(xs.take (i+1)).foldl (gm O P C) (zv O)=gm O P C ((xs.take i).foldl (gm O P C) (zv O)) xs[i]:=by
  rw[YU I,List.foldl_append];rfl
 exact⟨_,by omega,.here ⟨i+1,v2,by omega,rfl,rfl,Q,by rw[e];exact f2,by rw[e];exact G.cl S X⟩⟩
theorem zG7(g:LG O P C)(k:clsOk O P C)(l:IsPr vO vP vC O P C)(D:gS O x)(E:gS O y)(J:FI vx x)(L:FI vy y)(hk:∀v,FI v (gsum O P C x y)->K v σ):zA Tryz.prog 43 [.agg [vO,vP,vC],vx,vy] σ K:=by
 have s:=g.s;have F:=g.F;have G:=F.g;have I:=G.com_in D E;have M:=G.com_in I D;have Q:=G.com_in I E;have h0:=l.O.one;have h1:=l.P.one;have h2:=l.C.one;refine zA.gh ?_;have aq:Keep σ (σ.new [vO,vP,vC]):=zC σ _;refine qG mix Tryz.func43 ?_;simp only[Z3,seval,-ae,h0,h1,h2];refine Zz s g.co l D E J L λv1 R=>?_;simp only[Z3,seval,-ae];refine Zz s g.co l I D R J λv2 f2=>?_;simp only[Z3,seval,-ae];refine Zz s g.co l I E R L λv3 f3=>?_;simp only[Z3,seval,-ae];refine zAL g l I R (c:=2) (ok2 g k D E (.inl rfl)) (by omega) λv4 Y f4 r4=>?_;have e4:=rt_eq g I r4;have S4:gS O Y:=r4.gS F s I;simp only[Z3,seval,-ae];refine zAB s g.co l S4 f4 λv5 S=>?_;have S5:=(G.inv_in S4).1;simp only[Z3,seval,-ae];refine zAL g l M f2 (c:=12) (ok12 g k D E D) (by omega) λv6 Z U r6=>?_;have e6:=rt_eq g M r6;have S6:gS O Z:=r6.gS F s M;simp only[Z3,seval,-ae];refine zAL g l Q f3 (c:=12) (ok12 g k D E E) (by omega) λv7 w7 f7 r7=>?_;have e7:=rt_eq g Q r7;have S7:gS O w7:=r7.gS F s Q;simp only[Z3,seval,-ae];refine zAB s g.co l S7 f7 λv8 V=>?_;have S8:=(G.inv_in S7).1;simp only[Z3,seval,-ae,J.one,J.cells,L.one,L.cells,S.one,S.cells,U.one,U.cells,V.one,V.cells];have aL:All2 FI [vx,vy,v5,v6,v8] [x,y,gi_ O P C Y,Z,gi_ O P C w7]:=(((((All2.nil _).snoc J).snoc L).snoc S).snoc U).snoc V;refine zA.frz (s:=σ.next+1) (cs:=[vx,vy,v5,v6,v8]) (by simp only[Z3,seval,-ae]) (aL.bI 0) λo1=>?_;simp only[sbs,Go.Ab.sb,capOK,and_self,if_true,decide_true,na,l.O.sb,l.P.sb,l.C.sb];refine zDB g l ⟨true,_,_,rfl,aL⟩ (λu hu=>?_) (by simp) λv9 X=>?_
 .simp only[YH,Yp,or_false]at hu;rcases hu with rfl|rfl|rfl|rfl|rfl<;>assumption
 have e:[x,y,gi_ O P C Y,Z,gi_ O P C w7].foldl (gm O P C) (zv O)=gsum O P C x y:=by
  simp only[List.foldl_cons,List.foldl_nil];rw[G.l1 D,e4,e6,e7];rfl
 rw[e]at X;simp only[Z3,seval,-ae];exact Gh.fin0 ((aq.new _).kill (by omega)) (X.bel _) (hk _ X)
theorem zDC(g:LG O P C)(k:clsOk O P C)(l:IsPr vO vP vC O P C)(D:gS O x)(E:gS O y)(bj:FI vx x)(cT:FI vy y)(hk:∀v,FI v (gbr O P C x y)->K v σ):zA Tryz.prog 45 [.agg [vO,vP,vC],vx,vy] σ K:=by
 have s:=g.s;have F:=g.F;have G:=F.g;have I:=G.com_in D E;have L:=G.com_in I D;have M:=G.com_in I E;have h0:=l.O.one;have h1:=l.P.one;have h2:=l.C.one;refine zA.gh ?_;have aq:Keep σ (σ.new [vO,vP,vC]):=zC σ _;refine zD mix Tryz.func45 ?_;simp only[Z3,seval,-ae,h0,h1,h2];refine Zz s g.co l D E bj cT λv1 J=>?_;simp only[Z3,seval,-ae];refine Zz s g.co l I D J bj λv2 f2=>?_;simp only[Z3,seval,-ae];refine Zz s g.co l I E J cT λv3 f3=>?_;simp only[Z3,seval,-ae];refine zAL g l L f2 (c:=2) (ok12 g k D E D) (by omega) λv6 U f6 r6=>?_;have e6:=rt_eq g L r6;have X:gS O U:=r6.gS F s L;simp only[Z3,seval,-ae];refine zAB s g.co l X f6 λv5 Q=>?_;have S5:=(G.inv_in X).1;simp only[Z3,seval,-ae];refine zAL g l M f3 (c:=2) (ok12 g k D E E) (by omega) λv7 V f7 r7=>?_;have e7:=rt_eq g M r7;have Y:gS O V:=r7.gS F s M;simp only[Z3,seval,-ae];refine zAB s g.co l Y f7 λv8 R=>?_;have S8:=(G.inv_in Y).1;simp only[Z3,seval,-ae,J.one,J.cells,Q.one,Q.cells,R.one,R.cells];have Z:All2 FI [v1,v5,v8] [gcom O P C x y,gi_ O P C U,gi_ O P C V]:=(((All2.nil _).snoc J).snoc Q).snoc R;refine zA.frz (s:=σ.next+1) (cs:=[v1,v5,v8]) (by simp only[Z3,seval,-ae]) (Z.bI 0) λo1=>?_;simp only[sbs,Go.Ab.sb,capOK,and_self,if_true,decide_true,na,l.O.sb,l.P.sb,l.C.sb];refine zDB g l ⟨true,_,_,rfl,Z⟩ (λu hu=>?_) (by simp) λv9 S=>?_
 .simp only[YH,Yp,or_false]at hu;rcases hu with rfl|rfl|rfl<;>assumption
 have e:[gcom O P C x y,gi_ O P C U,gi_ O P C V].foldl (gm O P C) (zv O)=gbr O P C x y:=by
  simp only[List.foldl_cons,List.foldl_nil];rw[G.l1 I,e6,e7];rfl
 rw[e]at S;simp only[Z3,seval,-ae];exact Gh.fin0 ((aq.new _).kill (by omega)) (S.bel _) (hk _ S)
end
end Go.Proofs
namespace Go.Mx
open Go.Ab Go.Lie Go.Grp
variable{p:Int}{n:Nat}{v:V1}{A B:V2}
structure Ve(p:Int)(n:Nat)(v:V1):Prop where
 len:v.length=n
 bd:∀j,0<=at_ v j/\at_ v j<p
def Ma(p:Int)(n:Nat)(A:V2):Prop:=∀r∈A,Ve p n r
def row(A:V2)(i:Nat):V1:=A.getD i []
def vstep(p:Int)(x:Int)(r out:V1):V1:=List.zipWith (λo b=>(o+x*b) % p) out r
def vmul(p:Int)(n:Nat)(v:V1)(A:V2):Nat->V1
 |0=>List.replicate n 0
 |i+1=>vstep p (at_ v i) (row A i) (vmul p n v A i)
abbrev vt(p:Int)(n:Nat)(v:V1)(A:V2):V1:=vmul p n v A v.length
def mm(p:Int)(n:Nat)(A B:V2):V2:=A.map λr=>vt p n r B
theorem Ma.row(h:Ma p n A){i:Nat}(l:i<A.length):Ve p n (Mx.row A i):=by
 have:Mx.row A i=A[i]:=by simp[Mx.row,YB,YQ l]
 rw[this];exact h _ (YK l)
theorem zMg{i:Nat}(l:i<A.length):Mx.row A i=A[i]:=by simp[Mx.row,YB,YQ l]
theorem zAF{x:Int}{r out:V1}(h:r.length=out.length):(vstep p x r out).length=out.length:=by simp[vstep,h]
theorem zOL{x:Int}{r out:V1}(h:r.length=out.length){j:Nat}(l:j<out.length):at_ (vstep p x r out) j=(at_ out j+x*at_ r j) % p:=by
 have D:j<(vstep p x r out).length:=by rw[zAF h];exact l
 rw[at_eq D,at_eq l,at_eq (by omega:j<r.length)];simp[vstep]
theorem QJ(l:Ma p n A):∀{i:Nat},i<=A.length->(vmul p n v A i).length=n
 |0,_=>by simp[vmul]
 |i+1,hi=>by
  rw[vmul,zAF]
  .exact QJ l (by omega)
  .rw[QJ l (by omega)];exact(l.row (by omega)).len
theorem zKe(I:0<p)(l:Ma p n A){j:Nat}(D:j<n):∀{i:Nat},i<=A.length->at_ (vmul p n v A i) j=(sumN i λk=>at_ v k*at_ (Mx.row A k) j) % p
 |0,_=>by rw[vmul,qF,sumN,Int.zero_emod]
 |i+1,hi=>by
  have E:=QJ (v:=v) l (i:=i) (by omega);rw[vmul,zOL (by rw[E];exact(l.row (by omega)).len) (by rw[E];exact D),zKe I l D (by omega),sumN,Int.emod_add_emod]
theorem zKd(E:0<p)(l:Ma p n A){i:Nat}(D:i<=A.length):Ve p n (vmul p n v A i):=by
 refine⟨QJ l D,λj=>?_⟩;rcases YG j n with h|h
 .rw[zKe E l h D];exact⟨Ya _ (by omega),Y4 _ E⟩
 .rw[at_ge (by rw[QJ l D];exact h)];omega
theorem vt_ve(D:0<p)(l:Ma p n A)(E:v.length=A.length):Ve p n (vt p n v A):=zKd D l (by omega)
theorem zB1:(mm p n A B).length=A.length:=by simp[mm]
theorem mm_ma(J:0<p)(D:Ma p B.length A)(E:Ma p n B):Ma p n (mm p n A B):=by
 intro r l;simp only[mm,Yj]at l;obtain⟨a,I,rfl⟩:=l;exact vt_ve J E (D a I).len
end Go.Mx
namespace Go.Nl
open Go.Im
structure Nil3(G A:Type)[IMod A] where
 mul:G->G->G
 one:G
 inv:G->G
 i:A->G
 H:G->G->A
 E:G->A->A
 ac_:∀x y z,mul (mul x y) z=mul x (mul y z)
 l1:∀x,mul one x=x
 r1:∀x,mul x one=x
 il:∀x,mul (inv x) x=one
 ir:∀x,mul x (inv x)=one
 i_add:∀a b,i (a+b)=mul (i a) (i b)
 E_add:∀x a b,E x (a+b)=E x a+E x b
 E_mul:∀x y a,E (mul x y) a=E x a+E y a
 E_E:∀x y a,E x (E y a)=0
 E_i:∀a b,E (i a) b=0
 H_l:∀x y z,H (mul x y) z=H x z+(12:Int) • E y (H x z)+H y z
 H_swap:∀x y,H y x=- H x y
 H_i:∀a y,H (i a) y=(6:Int) • E y a
 cm:∀x y,mul x y=mul (mul y x) (i ((2:Int) • H x y))
 past:∀a x,mul (i a) x=mul x (i (a+(12:Int) • E x a))
 t2:∀a:A,(2:Int) • a=0->a=0
 t3:(∀a:A,(3:Int) • a=0->a=0)\/∀x a,E x a=0
namespace Nil3
variable{G A:Type}[IMod A](N:Nil3 G A)
theorem sub0{a b:A}(h:a-b=0):a=b:=by exact mlinh [a,b] h
theorem can{x y z:G}(h:N.mul x y=N.mul x z):y=z:=by
 have:=congrArg (N.mul (N.inv x)) h
 rwa[<-N.ac_,<-N.ac_,N.il,N.l1,N.l1]at this
theorem i_zero:N.i 0=N.one:=by
 have h:=N.i_add 0 0;rw[show(0:A)+0=0 by exact mlin []]at h;exact(N.can (x:=N.i 0) (y:=N.one) (by rw[N.r1];exact h)).symm
theorem E_zero(x:G):N.E x 0=0:=by
 have h:=N.E_add x 0 0;rw[show(0:A)+0=0 by exact mlin []]at h;exact mlinh [N.E x 0] h.symm
theorem E_neg(x:G)(a:A):N.E x (-a)=- N.E x a:=by
 have h:=N.E_add x a (-a);rw[show a + -a=0 by exact mlin [a],N.E_zero]at h;exact mlinh [N.E x (-a),N.E x a] h.symm
theorem E_two(x:G)(a:A):N.E x ((2:Int) • a)=(2:Int) • N.E x a:=by
 have h:=N.E_add x a a;rw[show a+a=(2:Int) • a by exact mlin [a]]at h;exact mlinh [N.E x ((2:Int) • a),N.E x a] h
theorem E_six(x:G)(a:A):N.E x ((6:Int) • a)=(6:Int) • N.E x a:=by
 have D:=N.E_two x a;have E:=N.E_add x ((2:Int) • a) ((2:Int) • a);have l:=N.E_add x ((2:Int) • a+(2:Int) • a) ((2:Int) • a);rw[show(2:Int) • a+(2:Int) • a+(2:Int) • a=(6:Int) • a by exact mlin [a]]at l;exact mlinh [N.E x ((6:Int) • a),N.E x a,N.E x ((2:Int) • a),N.E x ((2:Int) • a+(2:Int) • a)] (mad (mad (mms 3 D) E) l)
theorem E_12(x:G)(a:A):N.E x ((12:Int) • a)=(12:Int) • N.E x a:=by
 have D:=N.E_six x a;have l:=N.E_two x ((6:Int) • a);rw[show(2:Int) • (6:Int) • a=(12:Int) • a by exact mlin [a]]at l;exact mlinh [N.E x ((12:Int) • a),N.E x a,N.E x ((6:Int) • a)] (mad (mms 2 D) l)
theorem E_sub(x:G)(a b:A):N.E x (a-b)=N.E x a-N.E x b:=by
 have h:=N.E_add x a (-b);rw[N.E_neg,show a + -b=a-b by exact mlin [a,b]]at h;exact mlinh [N.E x (a-b),N.E x a,N.E x b] h
theorem H_self(x:G):N.H x x=0:=by
 have h:=N.H_swap x x;exact N.t2 _ (by exact mlinh [N.H x x] h)
theorem H_r(x y z:G):N.H x (N.mul y z)=N.H x z+N.H x y+(12:Int) • N.E z (N.H x y):=by
 have l:=N.H_swap (N.mul y z) x;have D:=N.H_l y z x;have E:=N.H_swap x y;have I:=N.H_swap x z;rw[l,D,E,I,N.E_neg];exact mlin [N.H x y,N.E z (N.H x y),N.H x z]
theorem H_one(x:G):N.H N.one x=0:=by
 rw[<-N.i_zero,N.H_i,N.E_zero];exact mlin []
theorem H_ir(x:G)(a:A):N.H x (N.i a)=- ((6:Int) • N.E x a):=by
 rw[N.H_swap (N.i a) x,N.H_i]
theorem H_inv(x:G):N.H x (N.inv x)=0:=by
 have h:=N.H_r x x (N.inv x);have l:=N.H_swap N.one x;rw[N.ir,l,N.H_one,N.H_self,N.E_zero]at h;exact mlinh [N.H x (N.inv x)] h.symm
theorem hw(x y z:G):N.E y (N.H x z)-N.E x (N.H y z)-N.E z (N.H x y)=0:=by
 have D:=N.H_l x y z;have l:=N.H_l (N.mul y x) (N.i ((2:Int) • N.H x y)) z;rw[<-N.cm,N.H_l y x z,N.E_i,N.H_i,N.E_two]at l;have E:(12:Int) • (N.E y (N.H x z)-N.E x (N.H y z)-N.E z (N.H x y))=0:=by exact mlinh [N.E y (N.H x z),N.E x (N.H y z),N.E z (N.H x y),N.H (N.mul x y) z,N.H x z,N.H y z] (mad D.symm l)
 rcases N.t3 with t|t
 .exact N.t2 _ (N.t2 _ (t _ (by exact mlinh [N.E y (N.H x z),N.E x (N.H y z),N.E z (N.H x y)] E)))
 .rw[t,t,t];exact mlin []
def f(x y:G):A:=- N.H x y+(2:Int) • N.E x (N.H x y)-(2:Int) • N.E y (N.H x y)
def add(x y:G):G:=N.mul (N.mul x y) (N.i (N.f x y))
def br(x y:G):A:=(2:Int) • N.H x y-(12:Int) • N.E x (N.H x y)-(12:Int) • N.E y (N.H x y)
theorem E_addG(x y:G)(a:A):N.E (N.add x y) a=N.E x a+N.E y a:=by
 unfold add;rw[N.E_mul,N.E_mul,N.E_i];exact mlin [N.E x a,N.E y a]
theorem Ef(x y z:G):N.E z (N.f x y)=- N.E z (N.H x y):=by
 unfold f;rw[N.E_sub,N.E_add,N.E_neg,N.E_two,N.E_two,N.E_E,N.E_E];exact mlin [N.E z (N.H x y)]
theorem Ebr(x y z:G):N.E z (N.br x y)=(2:Int) • N.E z (N.H x y):=by
 unfold br;rw[N.E_sub,N.E_sub,N.E_two,N.E_12,N.E_12,N.E_E,N.E_E];exact mlin [N.E z (N.H x y)]
theorem mul_i(x:G)(a b:A):N.mul (N.mul x (N.i a)) (N.i b)=N.mul x (N.i (a+b)):=by rw[N.ac_,<-N.i_add]
theorem i_mul(x y:G)(a:A):N.mul (N.mul x (N.i a)) y=N.mul (N.mul x y) (N.i (a+(12:Int) • N.E y a)):=by rw[N.ac_,N.past,<-N.ac_]
theorem add_comm(x y:G):N.add x y=N.add y x:=by
 unfold add;rw[N.cm x y,N.mul_i];congr 2;unfold f;rw[N.H_swap x y,N.E_neg,N.E_neg];exact mlin [N.H x y,N.E x (N.H x y),N.E y (N.H x y)]
theorem add_i(x:G)(a:A):N.add x (N.i a)=N.mul x (N.i (a+(6:Int) • N.E x a)):=by
 unfold add;rw[N.mul_i];congr 2;unfold f;rw[N.H_ir,N.E_neg,N.E_six,N.E_E,N.E_neg,N.E_six,N.E_i];exact mlin [a,N.E x a]
theorem add_ii(a b:A):N.add (N.i a) (N.i b)=N.i (a+b):=by
 rw[N.add_i,N.E_i,<-N.i_add,show a+(b+(6:Int) • (0:A))=a+b by exact mlin [a,b]]
theorem add_one(x:G):N.add x N.one=x:=by
 rw[<-N.i_zero,N.add_i,N.E_zero,show(0:A)+(6:Int) • (0:A)=0 by exact mlin [],N.i_zero,N.r1]
theorem add_inv(x:G):N.add x (N.inv x)=N.one:=by
 unfold add f;rw[N.H_inv,N.E_zero,N.E_zero,N.ir,N.l1,show -(0:A)+(2:Int) • (0:A)-(2:Int) • (0:A)=0 by exact mlin [],N.i_zero]
theorem add_assoc(x y z:G):N.add (N.add x y) z=N.add x (N.add y z):=by
 have I:N.f (N.add x y) z=- (N.H x z+(12:Int) • N.E y (N.H x z)+N.H y z-(6:Int) • N.E z (N.H x y))+(2:Int) • (N.E x (N.H x z)+N.E x (N.H y z)+N.E y (N.H x z)+N.E y (N.H y z))-(2:Int) • (N.E z (N.H x z)+N.E z (N.H y z)):=by
  have E:N.H (N.add x y) z=N.H x z+(12:Int) • N.E y (N.H x z)+N.H y z-(6:Int) • N.E z (N.H x y):=by
   unfold add;rw[N.H_l (N.mul x y),N.E_i,N.H_i,N.Ef,N.H_l x y z];exact mlin [N.H x z,N.E y (N.H x z),N.H y z,N.E z (N.H x y)]
  have D:∀w,N.E w (N.H (N.add x y) z)=N.E w (N.H x z)+N.E w (N.H y z):=λw=>by
   rw[E,N.E_sub,N.E_add,N.E_add,N.E_12,N.E_E,N.E_six,N.E_E];exact mlin [N.E w (N.H x z),N.E w (N.H y z)]
  unfold f;rw[N.E_addG,D,D,D,E];exact mlin [N.H x z,N.E y (N.H x z),N.H y z,N.E z (N.H x y),N.E x (N.H x z),N.E x (N.H y z),N.E y (N.H y z),N.E z (N.H x z),N.E z (N.H y z)]
 have J:N.f x (N.add y z)=- (N.H x z+N.H x y+(12:Int) • N.E z (N.H x y)+(6:Int) • N.E x (N.H y z))+(2:Int) • (N.E x (N.H x z)+N.E x (N.H x y))-(2:Int) • (N.E y (N.H x z)+N.E y (N.H x y)+N.E z (N.H x z)+N.E z (N.H x y)):=by
  have E:N.H x (N.add y z)=N.H x z+N.H x y+(12:Int) • N.E z (N.H x y)+(6:Int) • N.E x (N.H y z):=by
   unfold add;rw[N.H_r x (N.mul y z),N.H_ir,N.Ef,N.E_i,N.H_r x y z];exact mlin [N.E x (N.H y z),N.H x z,N.H x y,N.E z (N.H x y)]
  have D:∀w,N.E w (N.H x (N.add y z))=N.E w (N.H x z)+N.E w (N.H x y):=λw=>by
   rw[E,N.E_add,N.E_add,N.E_add,N.E_12,N.E_E,N.E_six,N.E_E];exact mlin [N.E w (N.H x z),N.E w (N.H x y)]
  unfold f;rw[N.E_addG,D,D,D,E];exact mlin [N.H x z,N.H x y,N.E z (N.H x y),N.E x (N.H y z),N.E x (N.H x z),N.E x (N.H x y),N.E y (N.H x z),N.E y (N.H x y),N.E z (N.H x z)]
 have l:N.add (N.add x y) z=N.mul (N.mul (N.mul x y) z) (N.i (N.f x y+(12:Int) • N.E z (N.f x y)+N.f (N.add x y) z)):=by
  show N.mul (N.mul (N.add x y) z) (N.i (N.f (N.add x y) z))=_;rw[show N.mul (N.add x y) z=N.mul (N.mul (N.mul x y) z) (N.i (N.f x y+(12:Int) • N.E z (N.f x y))) from N.i_mul _ _ _,N.mul_i]
 have r:N.add x (N.add y z)=N.mul (N.mul (N.mul x y) z) (N.i (N.f y z+N.f x (N.add y z))):=by
  show N.mul (N.mul x (N.add y z)) (N.i (N.f x (N.add y z)))=_;rw[show N.mul x (N.add y z)=N.mul (N.mul (N.mul x y) z) (N.i (N.f y z)) by unfold add;rw[<-N.ac_,<-N.ac_],N.mul_i]
 rw[l,r];congr 2;rw[I,J,N.Ef];have h:=N.hw x y z;unfold f;exact mlinh [N.H x y,N.E x (N.H x y),N.E y (N.H x y),N.E z (N.H x y),N.H x z,N.E y (N.H x z),N.H y z,N.E x (N.H x z),N.E x (N.H y z),N.E y (N.H y z),N.E z (N.H x z),N.E z (N.H y z)] (mms (-8) h)
theorem br_swap(x y:G):N.br y x=- N.br x y:=by
 unfold br;rw[N.H_swap x y,N.E_neg,N.E_neg];exact mlin [N.H x y,N.E y (N.H x y),N.E x (N.H x y)]
theorem br_self(x:G):N.br x x=0:=by
 unfold br;rw[N.H_self,N.E_zero];exact mlin []
theorem br_add(x y z:G):N.br (N.add x y) z=N.br x z+N.br y z:=by
 have D:N.H (N.add x y) z=N.H x z+(12:Int) • N.E y (N.H x z)+N.H y z-(6:Int) • N.E z (N.H x y):=by
  unfold add;rw[N.H_l (N.mul x y),N.E_i,N.H_i,N.Ef,N.H_l x y z];exact mlin [N.H x z,N.E y (N.H x z),N.H y z,N.E z (N.H x y)]
 have l:∀w,N.E w (N.H (N.add x y) z)=N.E w (N.H x z)+N.E w (N.H y z):=λw=>by
  rw[D,N.E_sub,N.E_add,N.E_add,N.E_12,N.E_E,N.E_six,N.E_E];exact mlin [N.E w (N.H x z),N.E w (N.H y z)]
 unfold br;rw[N.E_addG,l,l,l,D];have h:=N.hw x y z;exact mlinh [N.H x z,N.E y (N.H x z),N.H y z,N.E z (N.H x y),N.E x (N.H x z),N.E x (N.H y z),N.E y (N.H y z),N.E z (N.H x z),N.E z (N.H y z)] (mms 12 h)
theorem br_i(a:A)(y:G):N.br (N.i a) y=(12:Int) • N.E y a:=by
 unfold br;rw[N.H_i,N.E_i,N.E_six,N.E_E];exact mlin [N.E y a]
theorem jacobi(x y z:G):N.br (N.i (N.br x y)) z+N.br (N.i (N.br y z)) x+N.br (N.i (N.br z x)) y=0:=by
 rw[N.br_i,N.br_i,N.br_i,N.Ebr,N.Ebr,N.Ebr];have h:=N.hw x y z;have l:N.H z x=- N.H x z:=N.H_swap x z;rw[l,N.E_neg];exact mlinh [N.E z (N.H x y),N.E x (N.H y z),N.E y (N.H x z)] (mms (-24) h)
theorem br3(a:A)(y z:G):N.br (N.i (N.br (N.i a) y)) z=0:=by
 rw[N.br_i,N.br_i,N.E_12,N.E_E];exact mlin []
theorem mul_eq(x y:G){h t:A}(J:(2:Int) • h=N.br x y)(L:(12:Int) • t=N.br x (N.i (N.br x y))+N.br y (N.i (N.br y x)))(l:N.br x (N.i (N.br x y))+N.br y (N.i (N.br y x))=0->t=0):N.mul x y=N.add (N.add (N.add x y) (N.i h)) (N.i t):=by
 have D:h=N.H x y-(6:Int) • N.E x (N.H x y)-(6:Int) • N.E y (N.H x y):=by
  have:=N.t2 (h-(N.H x y-(6:Int) • N.E x (N.H x y)-(6:Int) • N.E y (N.H x y))) (by unfold br at J;exact mlinh [h,N.H x y,N.E x (N.H x y),N.E y (N.H x y)] J)
  exact mlinh [h,N.H x y,N.E x (N.H x y),N.E y (N.H x y)] this
 have M:N.br x (N.i (N.br x y))=- ((24:Int) • N.E x (N.H x y)):=by
  rw[N.br_swap (N.i (N.br x y)) x,N.br_i,N.Ebr];exact mlin [N.E x (N.H x y)]
 have Q:N.br y (N.i (N.br y x))=(24:Int) • N.E y (N.H x y):=by
  rw[N.br_swap (N.i (N.br y x)) y,N.br_i,N.br_swap x y,N.E_neg,N.Ebr];exact mlin [N.E y (N.H x y)]
 have E:t=(2:Int) • N.E y (N.H x y)-(2:Int) • N.E x (N.H x y):=by
  rw[M,Q]at L l;rcases N.t3 with t3|t3
  .have:=t3 (t-((2:Int) • N.E y (N.H x y)-(2:Int) • N.E x (N.H x y))) (N.t2 _ (N.t2 _ (by exact mlinh [t,N.E y (N.H x y),N.E x (N.H x y)] L)))
   exact sub0 this
  .rw[t3,t3]at l ⊢;rw[l (by exact mlin [])];exact mlin []
 have I:∀w,N.E w h=N.E w (N.H x y):=λw=>by
  rw[D,N.E_sub,N.E_sub,N.E_six,N.E_six,N.E_E,N.E_E];exact mlin [N.E w (N.H x y)]
 have R:∀w,N.E w t=0:=λw=>by
  rw[E,N.E_sub,N.E_two,N.E_two,N.E_E,N.E_E];exact mlin []
 rw[N.add_i (N.add x y) h,N.add_i _ t,R,N.E_addG,I,I];unfold add;rw[N.mul_i,N.mul_i]
 have:N.f x y+(h+(6:Int) • (N.E x (N.H x y)+N.E y (N.H x y))+(t+(6:Int) • (0:A)))=0:=by
  rw[D,E];unfold f;exact mlin [N.H x y,N.E x (N.H x y),N.E y (N.H x y)]
 rw[this,N.i_zero,N.r1]
end Nil3
end Go.Nl
namespace Go.Lie
open Go.Ab
variable{p:Int}{n:Nat}{W:V2}
theorem zKj(o:OkW p n W){u:V2}{x:V1}(l:Base p n W u)(E:El p n x):(∀j,at_ (redL p W u x) j=0)↔Gen p n W u (at_ x):=by
 have I:=zAe o l.els E;have D:=QL o l.els E;constructor
 .intro h;refine(zM _).eqv _ _ (Eqv.of_eq λj=>?_) I;rw[h j];omega
 .intro h;have J:Gen p n W u (at_ (redL p W u x)):=(zM _).eqv _ _ (Eqv.of_eq λj=>by omega) ((zM _).sub h I);rcases YG (dep (redL p W u x)) n with hd|hd
  .obtain⟨v,L,e⟩:=zBS o l D J hd
   have:=(zAf o l.led l.asc E).1 v L
   rw[e]at this;exact absurd this (qz (by rw[D.1];exact hd))
  .intro j;rcases YG j n with g|g
   .exact zg (by omega)
   .exact D.beyond g
theorem Base.clo:∀{u:V2},Base p n W u->∀v∈u,Gen p n W (Dp u (dep v)) λj=>p*at_ v j
 |_,.nil=>λv D=>(by cases D)
 |_,.cons (v:=v) (u:=u) D ha hc hb=>λw hw=>by
  rcases YH.1 hw with rfl|hw
  .rw[zEx ha];exact hc
  .refine zY (λt l=>?_) (hb.clo w hw);rw[Dp,List.mem_filter]at l ⊢;exact⟨Yl _ l.1,l.2⟩
theorem zRJ(o:OkW p n W){u:V2}{z:V1}(l:Base p n W u)(D:El p n z)(h:Gen p n W u (at_ z)):Gen p n W (Fp u (dep z)) (at_ z):=by
 have E:=(zKj o l D).2 h;rw[zEB o l.els l.asc D]at E;have I:=zAe o (u:=Fp u (dep z)) (λv J=>l.els v (zCp.1 J).1) D;refine(zM _).eqv _ _ (Eqv.of_eq λj=>?_) I;rw[E j];omega
theorem zPn(o:OkW p n W)(hp:p=2\/p=3\/p=5\/p=7){L u:V2}{x:V1}(E:Canon p n W L u)(I:El p n x)(yI:Gen p n W L λj=>p*at_ x j)(h0:¬∀j,at_ (redL p W u x) j=0):
  ∃w,Base p n W w/\(∀f,Gen p n W (x::L) f↔Gen p n W w f)/\w.length=u.length+1:=by
 have l:=E.base;have R:∀f,Gen p n W (x::L) f↔Gen p n W (u++[x]) f:=λf=>by
  have Z:∀v∈L,Gen p n W (u++[x]) (at_ v):=λv hv=>zY (λw hw=>by simp[hw]) ((E.gen _).1 (zX hv));have e2:∀v∈u,Gen p n W (x::L) (at_ v):=λv hv=>zY (λw hw=>by simp[hw]) ((E.gen _).2 (zX hv));refine⟨ZK λv hv=>?_,ZK λv hv=>?_⟩
  .rcases YH.1 hv with rfl|hv
   .exact zX (by simp)
   .exact Z v hv
  .simp only[YY,YN]at hv;rcases hv with hv|rfl
   .exact e2 v hv
   .exact zX (by simp)
 have g1:Grow p n W (x::L) u [x]:=⟨l.led,l.asc,λv hv=>by rw[YN.1 hv];exact I,λv hv=>.inl (l.clo v hv),R⟩
 have g2:=g1.reduce o;have D:=QL o l.els I;have fT:=(zAf o l.led l.asc I).1;have X:=zAe o l.els I;generalize redL p W u x=x' at *
 have hd:dep x'<n:=by
  rcases YG (dep x') n with h|h
  .exact h
  .exact absurd (λj=>by
    rcases YG j n with g|g
    .exact zg (by omega)
    .exact D.beyond g) h0
 have Y:=qz (v:=x') (by rw[D.1];exact hd);have fJ:∀v∈u,dep v≠dep x':=λv hv e=>Y (by rw[<-e];exact fT v hv);have Co:=D.at0 o (dep x');obtain⟨k,bQ,dq,hk⟩:=zDo hp (a:=at_ x' (dep x')) (by omega) (by omega);have J:=g2.take o hd fJ hk;have Q:=J.els _ (YN.2 rfl);obtain⟨y1,y2⟩:=ZR o D k;obtain⟨z1,z2⟩:=ZR o y1 p;generalize norm p W (lmix k x' 0 x')=y at *
 generalize norm p W (lmix p y 0 y)=z at *
 have V:Gen p n W u (at_ z):=by
  have q1:=(E.gen _).1 yI;have q2:=(zM u).sub q1 ((zM u).mul p _ X);have q3:=(zM u).mul k _ q2;refine(zM u).eqv _ _ (z2.trans ((y2.mul p).trans (Eqv.of_eq λj=>?_))) q3;grind
 have U:=zRJ o l Q V;have S:El p n (List.replicate n 0):=⟨by simp,λt ht=>by rw[Y9 ht];have:=o.pr.1;omega⟩
 have hdz:dep z<=dep (List.replicate n (0:Int)):=by
  have h2:=zAU (v:=List.replicate n (0:Int)) (d:=n) (by simp) λj _=>qF n j
  have:=QG z
  rw[Q.1]at this;omega
 have g4:=J.replace (x:=List.replicate n 0) S hdz (by
  refine(zM _).eqv _ _ (Eqv.of_eq λj=>?_) (zY (λw hw=>?_) U)
  .rw[qF];omega
  .rw[zCp]at hw ⊢;exact⟨q9.2 (.inr hw.1),hw.2⟩)
 have M:=g4.drop λj=>qF n j;exact⟨insD u y,M.base,λf=>by have:=M.gen f;rwa[Y0]at this,Zk u y⟩
theorem zOR(o:OkW p n W)(J:p=2\/p=3\/p=5\/p=7){L u:V2}{x:V1}(M:Canon p n W L u)(Q:El p n x)(R:Gen p n W L λj=>p*at_ x j)(l:¬∀j,at_ (redL p W u x) j=0):∃out,Canon p n W (x::L) out/\out.length=u.length+1:=by
 obtain⟨w,D,E,I⟩:=zPn o J M Q R l;have h:=zEP o D;refine⟨_,h.1.trans E,?_⟩;rw[<-I]
 have:=congrArg List.length h.2
 simpa using this
end Go.Lie
namespace Go.Proofs.YtnfnaniemocleaaGreat
open Go.ChangeShapes Go.WideShapes Go.ChangeAt Go.RowKit Go.Ab Go.Joins Go.Lie Go.Proofs
theorem own:ownKnob Tryz.prog.godebug=none:=by kernel_rfl
theorem laidOut:laidOutB Tryz.prog=true:=by kernel_rfl
end Go.Proofs.YtnfnaniemocleaaGreat
namespace Go.Proofs
open Go.Ab Go.Lie
variable{cap capC capP:Cap}{p:Int}{cO pc:List PV}{c k m n sC sO sP tp:Nat}{H h σ:PHeap}{vB vO vP vx vy:PV}{K:PV->PHeap->Prop}{v x y:V1}{W xs:V2}{B:V3}
section
variable{s:Nat}
theorem zA.fzITx{P:Program}{f:FuncId}{args:List PV}{D:V1->Prop}(c:∀K':PV->PHeap->Prop,(∀z,D z->ResI σ K' z)->zA P f args σ K')(k:∀z v t,D z->FI v z->Own σ.top t v->σ.top<=t->K v (σ.up t)):zA P f args σ K:=
 zA.gh (c _ λz l=>⟨λE=>by subst E;exact Gh.ret (k _ _ σ.top l ⟨true,.nils,rfl⟩ (Own.empty _ _ _ _ _) (na _)),λcap L=>Gh.own (zC σ _) (by simp[PHeap.new]) (na _) (zL _ _) L.ok (Owns.pis _ _ _) λo t I J=>k _ _ t l ⟨true,_,rfl⟩ I J⟩)
theorem zDI{l:Nat}{w:Bool}{av:AV}{k:Int}{x:V1}(hs:PtrR σ s p vP vB)(Z:FII vP W)(o:OkW p n W)(bh:ipow p n<=729)(E:El p n x)(hl:l=x.length)
  (L:∀z,DivL p n W k x z->ResI σ K z):zA Tryz.prog 218 [.ptr s 0,.fz w av l (pis x),.int .i64 k] σ K:=by
 have V:=o.le;have Q:=o.pr;have M:=E.1;have X:σ.rd1 s 0=some (.int .i64 p):=by rw[zI hs.obj];rfl
 subst hl;refine zD mix Tryz.func218 ?_;simp only[Z3,seval,-ae];refine Zu rfl (by omega) ?_;by_cases I:isZ x
 .simp only[Z3,seval,-ae,I,decide_true];have hd:DivL p n W k x x:=⟨E,λ_=>rfl,λ_=>by
   refine Eqv.of_eq λj=>?_;rw[zCe I,UL]⟩
  refine Qc rfl (by omega) ⟨λR=>?_,λcap D=>?_⟩
  .simp only[Z3,seval,-ae];exact(L x hd).1 R
  .simp only[Z3,seval,-ae];exact(L x hd).2 cap D
 .have hn:0<n:=by
   rcases Nat.eq_zero_or_pos n with h|h
   .exact absurd (by rw[YF (M.trans h)];intro y hy;cases hy) I
   .exact h
  have tP:2<=ipow p n:=by
   obtain⟨J,rfl⟩:∃J,n=J+1:=⟨n-1,by omega⟩
   have S:∀k:Nat,1<=ipow p k:=λk=>by
    induction k with
    |zero=>simp[ipow]
    |succ k ih=>
     have:=Yw (show(1:Int)<=p by have:=Q.1;omega) (show 0<=ipow p k by omega)
     rw[ipow];omega
   have:=Yw (show(2:Int)<=p from Q.1) (show 0<=ipow p J by have:=S J;omega)
   have:=S J
   rw[ipow];omega
  simp only[Z3,seval,-ae,I,decide_false,X,M];refine zB5 Q V ?_;simp only[Z3,seval,-ae];refine zA6 (by omega) (by omega) ?_;simp only[Z3,seval,-ae];refine zEu (Ya _ (by omega)) (Y4 _ (by omega)) (by omega) λy yb S h2 Y=>?_;simp only[Z3,seval,-ae];have hd:DivL p n W k x (lmul p W y x):=DivL.mk' o E I (m:=ipow p n) (by
   rw[zCg];exact zAk o λj hj=>E.beyond hj) λD=>by
    obtain⟨z,w',U⟩:=zCm D hn;rw[<-zCg]at U;have em:=Int.mul_ediv_add_emod k (ipow p n);obtain⟨t,ht⟩:=Y ⟨z,w'-k / ipow p n*z,by grind⟩;exact⟨t+k / ipow p n*y,by grind⟩
  refine zCF hs Z o E M.symm (by omega) ⟨λR=>?_,λcap D=>?_⟩
  .simp only[Z3,seval,-ae];exact(L _ hd).1 R
  .simp only[Z3,seval,-ae];exact(L _ hd).2 cap D
theorem CodeL.zero{xs:V2}(h:CodeL p W B xs 0):(isLie p W B/\Els p W.length xs)/\isLz p W.length W B:=by
 rcases h with ⟨_,h⟩|⟨_,_,h⟩|⟨l,D,_⟩
 .omega
 .omega
 .exact⟨l,D⟩
theorem zKp{v:PV}{x:V1}{w:Bool}{a:AV}(l:FI v x):FII (.fz w a 1 [v]) [x]:=⟨w,a,[v],rfl,by simpa using (All2.nil _).snoc l⟩
theorem zBM{v u:PV}{x y:V1}{w:Bool}{a:AV}(l:FI v x)(D:FI u y):FII (.fz w a 2 [v,u]) [x,y]:=⟨w,a,[v,u],rfl,by simpa using ((All2.nil _).snoc l).snoc D⟩
theorem SzL.one{x:V1}(h:x.length<=1048576):SzL [x]:=⟨by simp,λy l=>by rw[YN.1 l];exact h⟩
theorem SzL.two{x y:V1}(h:x.length<=1048576)(g:y.length<=1048576):SzL [x,y]:=⟨by simp,λz l=>by simp at l;rcases l with rfl|rfl<;>assumption⟩
end
section
variable{f g:Vec}
def Lw(p:Int)(n:Nat)(W:V2)(B:V3)(k:Nat)(f:Vec):Prop:=∃u,Low p n W B k u/\Gen p n W u f
structure Rg(p:Int)(n:Nat)(W:V2)(B:V3)(c:Nat):Prop where
 o:OkW p n W
 q:OkB p n B
 nf:Zc p W B n
 cls:Cls p n W B c
theorem zIS:∀{m:Nat} {u:V2},Low p n W B m u->∀k,k<=m->∃v,Low p n W B k v
 |0,u,h,k,hk=>by
  have:k=0:=by omega
  subst this;exact⟨u,h⟩
 |m+1,u,h,k,hk=>by
  by_cases e:k=m+1
  .subst e;exact⟨u,h⟩
  .cases h with
   |succ h hc=>exact zIS h k (by omega)
theorem Rg.low(r:Rg p n W B c)(k:Nat):∃u,Low p n W B k u:=by
 rcases Nat.le_total k c with x|x
 .exact zIS r.cls.1 k x
 .obtain⟨u,⟨h,_⟩|h⟩:=zK5 r.o r.q r.cls k
  .exact⟨u,h⟩
  .exact⟨[],by omega⟩
theorem Rg.sub(r:Rg p n W B c)(k:Nat):IsSub p n W (Lw p n W B k):=by
 obtain⟨u,l⟩:=r.low k;have hs:=zM (p:=p) (n:=n) (W:=W) u;have e:∀{f:Vec},Lw p n W B k f->Gen p n W u f:=λ{f} ⟨v,E,D⟩=>by rw[l.unique r.o E];exact D
 exact⟨⟨u,l,hs.zero⟩,λf g a b=>⟨u,l,hs.add _ _ (e a) (e b)⟩,λk f a=>⟨u,l,hs.mul _ _ (e a)⟩,λf g a b=>⟨u,l,hs.eqv _ _ a (e b)⟩⟩
theorem Rg.all(r:Rg p n W B c){x:V1}(l:El p n x):Lw p n W B 0 (at_ x):=⟨_,.zero,zNs r.o l⟩
theorem Rg.brk(r:Rg p n W B c)(D:Lw p n W B k f)(g:Vec):Lw p n W B (k+1) (brv B n f g):=by
 obtain⟨u,l,E⟩:=D;obtain⟨v,I⟩:=r.low (k+1);cases I with
 |succ h hc=>
  rw[h.unique r.o l]at hc;exact⟨v,.succ l hc,zQO r.o r.q r.nf hc E g⟩
theorem Rg.brk2(r:Rg p n W B c)(l:Lw p n W B k g)(f:Vec):Lw p n W B (k+1) (brv B n f g):=
 (r.sub _).eqv _ _ (Eqv.of_eq λt=>ZA f g t) ((r.sub _).mul (-1) _ (r.brk l f))
theorem Rg.top(r:Rg p n W B c)(I:c<=k)(E:Lw p n W B k f):Eqv p n W f λ_=>0:=by
 obtain⟨u,J,l⟩:=E;obtain⟨v,⟨L,D⟩|h⟩:=zK5 r.o r.q r.cls k
 .rw[J.unique r.o L,D I]at l;exact zQV l
 .omega
theorem Rg.zero(r:Rg p n W B c)(D:c<=k){z:V1}(E:El p n z)(l:Lw p n W B k (at_ z)):isZ z:=zJV r.o E (r.top D l)
theorem Rg.bL(r:Rg p n W B c){x y:V1}(l:Lw p n W B k (at_ x)):Lw p n W B (k+1) (at_ (br p W B n x y)):=(r.sub _).eqv _ _ (zD3 r.o r.q x y) (r.brk l _)
theorem Rg.bR(r:Rg p n W B c){x y:V1}(l:Lw p n W B k (at_ y)):Lw p n W B (k+1) (at_ (br p W B n x y)):=(r.sub _).eqv _ _ (zD3 r.o r.q x y) (r.brk2 l _)
theorem Rg.addL(r:Rg p n W B c){x y:V1}(E:El p n x)(I:El p n y)(l:Lw p n W B k (at_ x))(D:Lw p n W B k (at_ y)):Lw p n W B k (at_ (ladd p W x y)):=(r.sub _).eqv _ _ (zIU r.o E I) ((r.sub _).add _ _ l D)
theorem Rg.mulL(r:Rg p n W B c){x:V1}(D:El p n x)(m:Int)(l:Lw p n W B k (at_ x)):Lw p n W B k (at_ (lmul p W m x)):=(r.sub _).eqv _ _ (zFE r.o D m) ((r.sub _).mul m _ l)
def Zm(p:Int)(W:V2)(B:V3)(n:Nat)(x y:V1):V1:=ladd p W (br p W B n x (br p W B n x y)) (br p W B n y (lmul p W (-1) (br p W B n x y)))
theorem Qx(o:OkW p n W)(q:OkB p n B){x y:V1}:El p n (Zm p W B n x y):=zP o (br_el o q) (br_el o q)
theorem Rg.thd(r:Rg p n W B c){x y:V1}(l:Lw p n W B k (at_ (br p W B n x y))):Lw p n W B (k+1) (at_ (Zm p W B n x y)):=
 r.addL (br_el r.o r.q) (br_el r.o r.q) (r.bR l) (r.bR (r.mulL (br_el r.o r.q) (-1) l))
theorem zQc{p:Int}(l:isP p)(h:p≠2):Cop p 2/\Cop p (-2):=by
 rcases l with rfl|rfl|rfl|rfl
 .exact absurd rfl h
 .exact⟨⟨2,1,by decide⟩,⟨1,-1,by decide⟩⟩
 .exact⟨⟨3,1,by decide⟩,⟨2,-1,by decide⟩⟩
 .exact⟨⟨4,1,by decide⟩,⟨3,-1,by decide⟩⟩
theorem zMI{p:Int}(D:isP p)(h:p≠2)(l:p≠3):Cop p 12/\Cop p (-12):=by
 rcases D with rfl|rfl|rfl|rfl
 .exact absurd rfl h
 .exact absurd rfl l
 .exact⟨⟨3,7,by decide⟩,⟨2,-5,by decide⟩⟩
 .exact⟨⟨3,5,by decide⟩,⟨4,-7,by decide⟩⟩
theorem Rg.two(r:Rg p n W B c)(D:isP p)(I:(c:Int)<p){z:V1}(E:El p n z)(h:Lw p n W B 1 (at_ z)):isZ z\/(Cop p 2/\Cop p (-2)):=by
 by_cases l:p=2
 .exact .inl (r.zero (by omega) E h)
 .exact .inr (zQc D l)
theorem Rg.twelve(r:Rg p n W B c)(I:isP p)(J:(c:Int)<p){z:V1}(l:El p n z)(h:Lw p n W B 2 (at_ z)):isZ z\/(Cop p 12/\Cop p (-12)):=by
 by_cases D:p=2
 .exact .inl (r.zero (by omega) l h)
 .by_cases E:p=3
  .exact .inl (r.zero (by omega) l h)
  .exact .inr (zMI I D E)
noncomputable def dv(p:Int)(n:Nat)(W:V2)(k:Int)(x:V1):V1:=Classical.epsilon (DivL p n W k x)
theorem dv_eq(o:OkW p n W){k:Int}{x z:V1}(D:El p n x)(h:DivL p n W k x z)(l:isZ x\/Cop p k):z=dv p n W k x:=
 h.unique o D (Uj ⟨z,h⟩) l
theorem zRS(o:OkW p n W){k:Int}{x:V1}(l:El p n x):∃z,DivL p n W k x z:=by
 by_cases D:isZ x
 .exact⟨x,l,λ_=>rfl,λ_=>Eqv.of_eq λj=>by rw[zCe D,UL]⟩
 .by_cases I:Cop p k
  .have hn:0<n:=by
    rcases Nat.eq_zero_or_pos n with h|h
    .exact absurd (by rw[YF (l.1.trans h)];intro y E;cases E) D
    .exact h
   obtain⟨y,w,E⟩:=zCm I hn;exact⟨_,DivL.mk' o l D (y:=y) (zAk o λj J=>l.beyond J) λ_=>⟨w,E⟩⟩
  .exact⟨x,l,λh=>absurd h D,λh=>absurd h I⟩
theorem zK2(o:OkW p n W){k:Int}{x:V1}(l:El p n x):DivL p n W k x (dv p n W k x):=Uj (zRS o l)
theorem dv_el(o:OkW p n W){k:Int}{x:V1}(l:El p n x):El p n (dv p n W k x):=(zK2 o l).el
noncomputable def bch(p:Int)(n:Nat)(W:V2)(B:V3)(x y:V1):V1:=
 ladd p W (ladd p W (ladd p W x y) (dv p n W 2 (br p W B n x y))) (dv p n W 12 (Zm p W B n x y))
theorem zJD(o:OkW p n W)(q:OkB p n B){x y:V1}(l:El p n x)(D:El p n y):El p n (bch p n W B x y):=
 zP o (zP o (zP o l D) (dv_el o (br_el o q))) (dv_el o (Qx o q))
theorem Rg.brD(r:Rg p n W B c){x y:V1}(l:El p n x):Lw p n W B 1 (at_ (br p W B n x y)):=r.bL (r.all l)
theorem Rg.of_lie(l:isLie p W B)(I:isLz p W.length W B):∃c,Rg p W.length W B c/\(c:Int)<p:=by
 obtain⟨c,D,E⟩:=I;exact⟨c,⟨l.1.w,l.1.b,l.2,D⟩,E⟩
end
section
variable{s:Nat}
structure Lz(p:Int)(n:Nat)(W:V2)(B:V3)(c:Nat):Prop where
 r:Rg p n W B c
 hp:isP p
 hc:(c:Int)<p
 pow:ipow p n<=729
theorem Lz.of(l:isLie p W B)(E:isLz p W.length W B):∃c,Lz p W.length W B c:=by
 obtain⟨c,r,D⟩:=Rg.of_lie l E;exact⟨c,r,l.1.1,D,l.1.2.2.2.1⟩
theorem Lz.d2(z:Lz p n W B c)(l:El p n x):isZ (br p W B n x y)\/Cop p 2:=(z.r.two z.hp z.hc (br_el z.r.o z.r.q) (z.r.brD l)).imp id (·.1)
theorem Lz.d12(z:Lz p n W B c)(l:El p n x):isZ (Zm p W B n x y)\/Cop p 12:=(z.r.twelve z.hp z.hc (Qx z.r.o z.r.q) (z.r.thd (z.r.brD l))).imp id (·.1)
theorem zMP(z:Lz p n W B c)(hs:PtrR σ s p vP vB)(l:IsR vP vB W B)(D:El p n x)(L:El p n y)(bj:FI vx x)(cT:FI vy y)
  (hk:∀a M Q R t,FI M (ladd p W x y)->FI Q (dv p n W 2 (br p W B n x y))->FI R (dv p n W 12 (Zm p W B n x y))->Own σ.top t (.fz true a 3 [M,Q,R])->σ.top<=t->K (.fz true a 3 [M,Q,R]) (σ.up t)):
  zA Tryz.prog 175 [.ptr s 0,vx,vy] σ K:=by
 have o:=z.r.o;have q:=z.r.q;have bp:=D.1;have eZ:=L.1;obtain⟨wx,ax,rfl⟩:=bj;obtain⟨wy,ay,rfl⟩:=cT;refine zA.gh ?_;have bel:=br_el o q (a:=x) (b:=y);refine zD mix Tryz.func175 ?_;simp only[Z3,seval,-ae];refine qY hs l o q D L rfl rfl λM=>?_;simp only[Z3,seval,-ae];refine qY hs l o q D bel rfl bel.1.symm λQ=>?_;simp only[Z3,seval,-ae];refine QK hs l.P o bel bel.1.symm (by decide) λR=>?_;have m1:El p n (lmul p W (-1) (br p W B n x y)):=zP o bel bel;simp only[Z3,seval,-ae];refine qY hs l o q L m1 rfl m1.1.symm λv4=>?_;simp only[Z3,seval,-ae];have Y:El p n (br p W B n x (br p W B n x y)):=br_el o q;have Z:El p n (br p W B n y (lmul p W (-1) (br p W B n x y))):=br_el o q;refine Qa hs l.P o Y Z Y.1.symm Z.1.symm λv5=>?_;simp only[Z3,seval,-ae];refine zA.fzIT (λK'=>zD5 hs l.P o D L rfl rfl) λw1 t1 J o1 S=>?_;have dx:PtrR (σ.up t1) s p vP vB:=⟨hs.obj,hs.lt⟩;simp only[Z3,seval,-ae];refine zA.fzITx (λK'=>zDI dx l.P o z.pow bel bel.1.symm) λz2 w2 t2 d2 E o2 U=>?_;have jz:PtrR (σ.up t2) s p vP vB:=⟨hs.obj,hs.lt⟩;simp only[Z3,seval,-ae];have V:=Qx o q (x:=x) (y:=y);refine zA.fzITx (λK'=>zDI jz l.P o z.pow (x:=Zm p W B n x y) V V.1.symm) λz3 w3 t3 d3 I o3 X=>?_;rw[dv_eq o bel d2 (z.d2 D)]at E;rw[dv_eq o V d3 (z.d12 D)]at I;simp only[zKm]at o2 U o3 X;simp only[Z3,seval,-ae,J.cells,J.one,E.cells,E.one,I.cells,I.one];have MF:=(((Owns.nil σ.top σ.top).snoc o1 (na _) S).snoc o2 S U).snoc o3 (Y7 S U) X;exact Gh.own (cs:=[w1,w2,w3]) ((Keep.refl σ).new _ |>.up (by simp only[zH6];omega)) (by simp only[Z3,seval,-ae]) (na _) ⟨J.bel 0,E.bel 0,I.bel 0,trivial⟩ (by simp[capOK]) (MF.mono (na _) (na _)) λo4 t4 h1 h2=>hk _ w1 w2 w3 t4 J E I h1 h2
theorem zKZ(z:Lz p n W B c)(hs:PtrR σ s p vP vB)(R:IsR vP vB W B)(V:El p n x)(X:El p n y)(I:FI vx x)(J:FI vy y)
  (S:∀a l D E,FI l (ladd p W x y)->FI D (dv p n W 2 (br p W B n x y))->FI E (dv p n W 12 (Zm p W B n x y))->K (.fz true a 3 [l,D,E]) σ):
  zA Tryz.prog 175 [.ptr s 0,vx,vy] σ K:=
 zA.gh (zMP z hs R V X I J λa l D E t L M Q _ U=>Gh.fin0 ((Keep.refl σ).up U) trivial (S a l D E L M Q))
theorem zRa(z:Lz p n W B c)(hs:PtrR σ s p vP vB)(l:IsR vP vB W B)(L:El p n x)(M:El p n y)(Q:FI vx x)(V:FI vy y)(J:ResI σ K (bch p n W B x y)):
  zA Tryz.prog 99 [.ptr s 0,vx,vy] σ K:=by
 have o:=z.r.o;have q:=z.r.q;refine zD mix Tryz.func99 ?_;simp only[Z3,seval,-ae];refine zKZ z hs l L M Q V λa v1 v2 v3 Y Z f3=>?_;obtain⟨w1,a1,rfl⟩:=Y;obtain⟨w2,a2,rfl⟩:=Z;obtain⟨w3,a3,rfl⟩:=f3;have D:El p n (ladd p W x y):=zP o L M;have E:=dv_el o (k:=2) (br_el o q (a:=x) (b:=y));have X:=dv_el o (k:=12) (Qx o q (x:=x) (y:=y));have I:El p n (ladd p W (ladd p W x y) (dv p n W 2 (br p W B n x y))):=zP o D E;have R:(0:Int)<((3:Nat):Int):=by decide
 have S:(1:Int)<((3:Nat):Int):=by decide
 have U:(2:Int)<((3:Nat):Int):=by decide
 simp only[Z3,seval,-ae,R,S,U];refine Qa hs l.P o D E rfl rfl λv4=>?_;simp only[Z3,seval,-ae];refine zD5 hs l.P o I X I.1.symm rfl ⟨λh0=>?_,λcap hc=>?_⟩
 .simp only[Z3,seval,-ae];exact J.1 h0
 .simp only[Z3,seval,-ae];exact J.2 cap hc
theorem zKC(z:Lz p n W B c)(l:IsR vP vB W B)(D:El p n x)(E:El p n y)(bj:FI vx x)(cT:FI vy y)
  (hk:∀a J L M,FI J (ladd p W x y)->FI L (dv p n W 2 (br p W B n x y))->FI M (dv p n W 12 (Zm p W B n x y))->K (.fz true a 3 [J,L,M]) σ):
  zA Tryz.prog 177 [.agg [.int .i64 p,vP,vB],vx,vy] σ K:=by
 have o:=z.r.o;have q:=z.r.q;have bp:=D.1;have eZ:=E.1;have h1:=l.P.one;have h2:=l.B.one;obtain⟨wx,ax,rfl⟩:=bj;obtain⟨wy,ay,rfl⟩:=cT;refine zA.gh ?_;have bel:=br_el o q (a:=x) (b:=y);refine zD mix Tryz.func177 ?_;simp only[Z3,seval,-ae,h1,h2];refine zo l o q D E rfl rfl λJ=>?_;simp only[Z3,seval,-ae];refine zo l o q D bel rfl bel.1.symm λL=>?_;simp only[Z3,seval,-ae];refine zo l o q E bel rfl bel.1.symm λM=>?_;simp only[Z3,seval,-ae];have R:El p n (br p W B n x (br p W B n x y)):=br_el o q;have S:El p n (br p W B n y (br p W B n x y)):=br_el o q;refine z8 l o R S R.1.symm S.1.symm (by decide) (by decide) λv4=>?_;have I:=Qx o q (x:=x) (y:=y);have Mp:=third o q z.r.nf (x:=x) (y:=y) bel;rw[<-Mp];simp only[Z3,seval,-ae];refine z8 l o D E rfl rfl (by decide) (by decide) λU=>?_;simp only[Z3,seval,-ae];refine zBB l o z.pow bel bel.1.symm λY V z2 d2=>?_;simp only[Z3,seval,-ae];refine zBB l o z.pow (x:=Zm p W B n x y) I I.1.symm λZ X z3 Q=>?_;have db:=dv_eq o bel d2 (z.d2 D);have oh:=dv_eq o I Q (z.d12 D);subst db;subst oh;simp only[Z3,seval,-ae];exact Gh.finF (s:=σ.next+1) (cs:=[.fz true U n (pis (ladd p W x y)),.fz Y V n (pis (dv p n W 2 (br p W B n x y))),.fz Z X n (pis (dv p n W 12 (Zm p W B n x y)))]) (((zC σ _).new _)) (by simp only[Z3,seval,-ae]) (by omega) ⟨trivial,trivial,trivial,trivial⟩ (by simp[capOK]) λo4=>hk _ _ _ _ ⟨true,U,by rw[show(ladd p W x y).length=n from(zP o D E).1]⟩ ⟨Y,V,by rw[d2.el.1]⟩ ⟨Z,X,by rw[Q.el.1]⟩
theorem zNe(z:Lz p n W B c)(l:IsR vP vB W B)(D:El p n x)(E:El p n y)(M:FI vx x)(U:FI vy y)(hk:∀v,FI v (bch p n W B x y)->K v σ):
  zA Tryz.prog 103 [.agg [.int .i64 p,vP,vB],vx,vy] σ K:=by
 have o:=z.r.o;have q:=z.r.q;have h1:=l.P.one;have h2:=l.B.one;refine zA.gh ?_;refine zD mix Tryz.func103 ?_;simp only[Z3,seval,-ae,h1,h2];refine zKC z l D E M U λa v1 v2 v3 X Y Z=>?_;obtain⟨w1,a1,rfl⟩:=X;obtain⟨w2,a2,rfl⟩:=Y;obtain⟨w3,a3,rfl⟩:=Z;have I:El p n (ladd p W x y):=zP o D E;have J:=dv_el o (k:=2) (br_el o q (a:=x) (b:=y));have V:=dv_el o (k:=12) (Qx o q (x:=x) (y:=y));have L:El p n (ladd p W (ladd p W x y) (dv p n W 2 (br p W B n x y))):=zP o I J;have Q:(0:Int)<((3:Nat):Int):=by decide
 have R:(1:Int)<((3:Nat):Int):=by decide
 have S:(2:Int)<((3:Nat):Int):=by decide
 simp only[Z3,seval,-ae,Q,R,S];refine z8 l o I J rfl rfl (by decide) (by decide) λv4=>?_;simp only[Z3,seval,-ae];refine z8 l o (a:=ladd p W (ladd p W x y) (dv p n W 2 (br p W B n x y))) L V L.1.symm rfl (by decide) (by decide) λv5=>?_;simp only[Z3,seval,-ae];exact Gh.fin0 (zC σ _) trivial (hk _ ⟨true,v5,by rw[(zJD o q D E).1];rfl⟩)
theorem zNd(o:OkW p n W)(D:IsR vP vB W B)(l:El p n x)(E:FI vx x)(L:∀v,FI v (lmul p W (-1) x)->K v σ):
  zA Tryz.prog 186 [.agg [.int .i64 p,vP,vB],vx] σ K:=by
 have I:=D.P.one;have J:=D.B.one;have R:=l.1;obtain⟨S,Q,rfl⟩:=E;refine zA.gh ?_;refine zD mix Tryz.func186 ?_;simp only[Z3,seval,-ae,I,J];refine z8 D o l l rfl rfl (by decide) (by decide) λM=>?_;simp only[Z3,seval,-ae];exact Gh.fin0 (zC σ _) trivial (L _ ⟨true,M,by rw[show(lmul p W (-1) x).length=n from(zP o l l).1]⟩)
end
section
variable{s:Nat}
theorem rows3{l D E:PV}{I J L:V1}{w:Bool}{a:AV}(M:FI l I)(Q:FI D J)(R:FI E L):FII (.fz w a 3 [l,D,E]) [I,J,L]:=⟨w,a,_,rfl,by simpa using (((All2.nil _).snoc M).snoc Q).snoc R⟩
theorem zRD(o:OkW p n W)(l:El p n x):El p n (lmul p W (-1) x):=zP o l l
theorem els3{D E I:V1}(J:El p n D)(L:El p n E)(M:El p n I):Els p n [D,E,I]:=λy l=>by simp at l;rcases l with rfl|rfl|rfl<;>assumption
theorem zJY(o:OkW p n W)(hs:PtrR σ s p vP vB)(E:FII vP W)(l:El p n x)(D:FI vx x){k:Int}(J:-1000000000<=k/\k<=1000000000)(I:∀v,FI v (lmul p W k x)->K v σ):zA Tryz.prog 100 [.ptr s 0,.int .i64 k,vx] σ K:=by
 obtain⟨M,L,rfl⟩:=D;exact QK hs E o l rfl J λv=>I _ ⟨_,_,by rw[show(lmul p W k x).length=n from(zP o l l).1]⟩
end
def CodR(p:Int)(W:V2)(B:V3)(xs:V2){α:Type}(nil val z:α)(c:Int):Prop:=
 (∃d,CodeL p W B xs d/\d≠0/\c=d/\z=nil)\/(CodeL p W B xs 0/\c=0/\z=val)
section
variable{s:Nat}
theorem lmix0{k:Int}{a b:V1}(h:b.length=a.length):lmix k a 0 b=lmix k a 0 a:=by
 unfold lmix;refine Uo (by simp[h]) λi l D=>?_;simp
theorem zIu(D:El p n x)(l:isP p)(i:Nat):0<=at_ x i/\at_ x i<=1000000:=by
 have:=l.bd
 rcases YG i x.length with h|h
 .have:=D.2 _ (YK h);rw[at_eq h];omega
 .rw[at_ge h];omega
theorem pisA{i:Nat}(h:i<x.length):(pis x)[i]? = some (.int .i64 (at_ x i)):=by rw[zK,gi h,at_eq h];rfl
noncomputable def ptG(p:Int)(n:Nat)(W:V2)(B:V3)(e:V1):Nat->V1
 |0=>List.replicate n 0
 |i+1=>bch p n W B (ptG p n W B e i) (lmul p W (at_ e i) (unitL n i))
theorem zBZ(o:OkW p n W)(q:OkB p n B)(e:V1):∀{i:Nat},i<=n->El p n (ptG p n W B e i)
 |0,_=>zCX o.pr
 |i+1,hi=>zJD o q (zBZ o q e (by omega)) (zP o (qA o.pr (by omega)) (qA o.pr (by omega)))
theorem zHc(z:Lz p n W B c)(hs:PtrR σ s p vP vB)(X:IsR vP vB W B)(Z:El p n x)(bj:FI vx x)(hk:ResI σ K (ptG p n W B x n)):zA Tryz.prog 53 [.ptr s 0,vx] σ K:=by
 have o:=z.r.o;have q:=z.r.q;have be:=o.le;have bp:=Z.1;obtain⟨D,l,rfl⟩:=bj;refine zA.gh ?_;have an:¬s=σ.next:=Nat.ne_of_lt hs.lt;refine zD mix Tryz.func53 ?_;simp only[Z3,seval,-ae,bp,YT,zf,mk8 (n:=n) (by omega),mkL (n:=n) (by omega)];refine zF (λm vs h'=>∃i v,i<=n/\m=n-i/\vs=[.ptr s 0,.fz D l n (pis x),v,.fz D l n (pis x),.int .i64 n,.int .i64 (i:Nat)]/\Keep σ h'/\PAcc σ.next 1 h' v n (pis (ptG p n W B x i))) n ?_ ?_
 .refine⟨0,_,by omega,by omega,rfl,zC σ _,.inr ?_⟩;exact PSl.new σ.next 1 (h:=σ) (n:=n) (cs:=pis (List.replicate n 0)) (by rw[zJ];simp) (na _)
 .rintro m vs h' ⟨i,v,hi,rfl,rfl,Q,Y⟩
  simp only[Z3,seval,-ae];refine iteI (λE=>?_) λaF=>?_
  .have cg:=zBZ (B:=B) o q x hi;have J:=qA (n:=n) o.pr E;have hb:=zIu Z z.hp i;have V:i<x.length:=by omega
   have e:∀{M:PV} {H:PHeap},Keep σ H->PAcc σ.next 1 H M n (pis (ptG p n W B x (i+1)))->∃n',n'<n-i/\∃L v,L<=n/\n'=n-L/\[PV.ptr s 0,.fz D l n (pis x),M,.fz D l n (pis x),.int .i64 n,.int .i64 ((i+1:Nat):Int)]=[.ptr s 0,.fz D l n (pis x),v,.fz D l n (pis x),.int .i64 n,.int .i64 (L:Nat)]/\Keep σ H/\PAcc σ.next 1 H v n (pis (ptG p n W B x L)):=λ{M H} k1 k2=>
    ⟨_,by omega,i+1,M,by omega,rfl,rfl,k1,k2⟩
   have ne:=zP o (k:=at_ x i) (m:=0) J J;have I:=(zJD o q cg ne).1;simp only[Z3,seval,-ae,E,pisA V];refine qC (by omega) E λa1=>?_;simp only[Z3,seval,-ae,pisA V];refine zJY o (hs.keep Q) X.P J ⟨true,a1,by rw[J.1]⟩ (k:=at_ x i) (by omega) λv1 U=>?_;simp only[Z3,seval,-ae];rcases Y with ⟨rfl,h0,h1⟩|⟨s',cap,rfl,S,q2,q3,q4,q5⟩
   .omega
   .refine zA.frz (s:=s') (cs:=pis (ptG p n W B x i)) q2 (zL _ _) λo1=>?_;have uh:=S.ok;simp only[sbs,sb,uh,and_self,if_true,U.sb];have R:Keep σ (h'.kill s'):=Q.kill q4;refine zRa z (hs.keep R) X cg ne ⟨true,_,by rw[cg.1]⟩ U ⟨λh2=>?_,λcap S=>?_⟩
    .exact absurd I (by rw[show bch p n W B (ptG p n W B x i) (norm p W (lmix (at_ x i) (unitL n i) 0 (unitL n i)))=[] from h2];simp;omega)
    .simp only[Z3,seval,-ae,WX E];refine e (R.new _) (.inr ⟨_,cap,by rw[show(bch p n W B (ptG p n W B x i) (lmul p W (at_ x i) (unitL n i))).length=n from I];rfl,by rw[<-I];exact S,by simp only[Z3,seval,-ae];rfl,by rw[zJ,Nat.mul_one];exact I,R.next,by simp[PHeap.new]⟩)
  .have aU:i=n:=by omega
   subst aU;exact Y.res Q (zBZ (B:=B) o q x (na _)).1.symm hk
theorem zJ7(z:Lz p n W B c)(l:IsR vP vB W B)(M:El p n x)(R:FI vx x)(Y:∀v,FI v (ptG p n W B x n)->K v σ):zA Tryz.prog 55 [.agg [.int .i64 p,vP,vB],vx] σ K:=by
 have o:=z.r.o;have q:=z.r.q;have be:=o.le;have J:=o.len;have S:=M.1;have U:=l.P.one;have V:=l.B.one;obtain⟨wx,Q,rfl⟩:=R;refine zA.gh ?_;refine zD mix Tryz.func55 ?_;simp only[Z3,seval,-ae,U,V,S];refine zBC l J (by omega) λv0=>?_;simp only[Z3,seval,-ae];refine zF (λm vs h'=>∃i v,i<=n/\m=n-i/\vs=[.fz wx Q n (pis x),.ptr σ.next 0,v,.int .i64 (i:Nat)]/\h'=σ.new [.int .i64 p,vP,vB]/\FI v (ptG p n W B x i)) n ?_ ?_
 .exact⟨0,_,by omega,by omega,rfl,rfl,⟨true,v0,by rw[show ptG p n W B x 0=List.replicate n 0 from rfl,YT];rfl⟩⟩
 .rintro m vs h' ⟨i,v,X,rfl,rfl,rfl,I⟩
  simp only[Z3,seval,-ae];refine iteI (λE=>?_) λaF=>?_
  .have cg:=zBZ (B:=B) o q x X;have D:=qA (n:=n) o.pr E;have hb:=zIu M z.hp i;have L:i<x.length:=by omega
   have ne:=zP o (k:=at_ x i) (m:=0) D D;simp only[Z3,seval,-ae,E,pisA L];refine qo l J (by omega) E λa1=>?_;simp only[Z3,seval,-ae,pisA L];obtain⟨w0,a0,rfl⟩:=I;refine z8 l o D cg D.1.symm rfl (k:=at_ x i) (m:=0) (by omega) (by decide) λv1=>?_;rw[lmix0 (cg.1.trans D.1.symm)];simp only[Z3,seval,-ae];refine zNe z l cg ne ⟨_,_,rfl⟩ ⟨true,v1,by rw[ne.1]⟩ λv' Z=>?_;simp only[Z3,seval,-ae,WX E];exact⟨_,by omega,i+1,v',by omega,rfl,rfl,Z⟩
  .have aU:i=n:=by omega
   subst aU;exact Gh.fin0 (zC σ _) (I.bel _) (Y v I)
end
section
variable{s:Nat}
theorem zJS(D:IsR vP vB W B)(S:SzR W B)(l:FI vx x)(jr:x.length<=1048576)
  (L:∀v z c t,CodR p W B [x] [] (ptG p W.length W B x W.length) z c->FI v z->Own σ.top t v->σ.top<=t->K (.tup [v,.int .i64 c]) (σ.up t)):zA Tryz.prog 16 [.agg [.int .i64 p,vP,vB],vx] σ K:=by
 have U:=D.P.one;have V:=D.B.one;refine zA.gh ?_;refine zD mix Tryz.func16 ?_;simp only[Z3,seval,-ae,U,V,l.one,l.cells];have E:Keep σ (((σ.new [.int .i64 p,vP,vB]).new [vx]).kill (σ.next+1)):=((zC σ _).new _).kill (by omega);have hs:PtrR (((σ.new [.int .i64 p,vP,vB]).new [vx]).kill (σ.next+1)) σ.next p vP vB:=⟨by simp only[Z3,seval,-ae],by simp only[Z3,seval,-ae];omega⟩
 refine zA.frz (s:=σ.next+1) (cs:=[vx]) (by simp only[Z3,seval,-ae]) ⟨l.bel 0,trivial⟩ λo=>?_;simp only[sbs,sb,capOK,and_self,if_true,decide_true,na,l.sb];refine zHX (xs:=[x]) hs D S (zKp l) (SzL.one jr) λc J=>?_;by_cases I:c=0;rotate_left
 .simp only[Z3,seval,-ae,I];exact Gh.fin0T (t:=σ.top) E E.top ⟨trivial,trivial,trivial⟩ λ_=>L _ [] _ σ.top (.inl ⟨c,J,I,rfl,rfl⟩) ⟨_,_,rfl⟩ (Own.empty _ _ _ _ _) (na _)
 subst I;obtain⟨⟨Y,X⟩,hz⟩:=J.zero;obtain⟨cc,lz⟩:=Lz.of Y hz;have R:=X x (by simp);simp only[Z3,seval,-ae];refine zA.fzIT (λK'=>zHc lz hs D R l) λv t Q Z M=>?_;simp only[Z3,seval,-ae];exact Gh.fin0T (t:=t) (E.up M) (na _) ⟨Q.bel _,trivial,trivial⟩ λ_=>L _ _ _ t (.inr ⟨J,rfl,rfl⟩) Q Z M
theorem zJ6(l:IsR vP vB W B)(R:SzR W B)(D:FI vx x)(Z:x.length<=1048576)
  (L:∀v z c,CodR p W B [x] [] (ptG p W.length W B x W.length) z c->FI v z->K (.tup [v,.int .i64 c]) σ):zA Tryz.prog 17 [.agg [.int .i64 p,vP,vB],vx] σ K:=by
 have S:=l.P.one;have U:=l.B.one;refine zA.gh ?_;refine zD mix Tryz.func17 ?_;simp only[Z3,seval,-ae,S,U,D.one,D.cells];have J:Keep σ (((σ.new [.int .i64 p,vP,vB]).new [vx]).kill (σ.next+1)):=((zC σ _).new _).kill (by omega);refine zA.frz (s:=σ.next+1) (cs:=[vx]) (by simp only[Z3,seval,-ae]) ⟨D.bel 0,trivial⟩ λo=>?_;simp only[sbs,sb,capOK,and_self,if_true,decide_true,na,l.P.sb,l.B.sb,D.sb];refine zLw (xs:=[x]) l R (zKp D) (SzL.one Z) λc I=>?_;by_cases E:c=0;rotate_left
 .simp only[Z3,seval,-ae,E];exact Gh.fin0 J ⟨trivial,trivial,trivial⟩ (L _ [] _ (.inl ⟨c,I,E,rfl,rfl⟩) ⟨_,_,rfl⟩)
 subst E;obtain⟨⟨X,V⟩,Y⟩:=I.zero;obtain⟨cc,lz⟩:=Lz.of X Y;have Q:=V x (by simp);simp only[Z3,seval,-ae];refine zJ7 lz l Q D λv M=>?_;simp only[Z3,seval,-ae];exact Gh.fin0 J ⟨M.bel _,trivial,trivial⟩ (L _ _ _ (.inr ⟨I,rfl,rfl⟩) M)
end
section
structure LS where
 s:Nat
 cap:Cap
 cs:List PV
def LS.pv(q:LS):PV:=.sl q.s 0 q.cs.length q.cap
def LS.ok(h:PHeap)(b:Nat)(q:LS):Prop:=full 1 q.cap q.cs.length/\h.obj q.s=some q.cs/\b<=q.s/\q.s<h.next
def LS.pvo:Option LS->PV
 |none=>.fz true .nils 0 []
 |some q=>q.pv
def LS.slots:List (Option LS)->List Nat
 |[]=>[]
 |none::ls=>LS.slots ls
 |some q::ls=>q.s::LS.slots ls
theorem LS.slots_app:∀(a b:List (Option LS)),LS.slots (a++b)=LS.slots a++LS.slots b
 |[],b=>rfl
 |none::a,b=>by simp only[Yo,LS.slots,LS.slots_app a b]
 |some q::a,b=>by simp only[Yo,LS.slots,LS.slots_app a b]
theorem LS.mem_slots{s:Nat}:∀{ls:List (Option LS)},s∈LS.slots ls↔∃q,some q∈ls/\q.s=s
 |[]=>by simp[LS.slots]
 |none::ls=>by simp[LS.slots,LS.mem_slots (ls:=ls)]
 |some q::ls=>by
  simp only[LS.slots,YH,LS.mem_slots (ls:=ls)];constructor
  .rintro(rfl|⟨D,h1,l⟩)
   .exact⟨q,.inl rfl,rfl⟩
   .exact⟨D,.inr h1,l⟩
  .rintro⟨D,h1|h1,l⟩
   .cases h1;exact .inl l.symm
   .exact .inr ⟨D,h1,l⟩
theorem LS.ok.move{h l:PHeap}{b:Nat}{q:LS}(a:q.ok h b)(E:l.obj q.s=h.obj q.s)(D:h.next<=l.next):q.ok l b:=⟨a.1,by rw[E];exact a.2.1,a.2.2.1,Yk a.2.2.2 D⟩
theorem Q7{b e m:Nat}{h D:PHeap}{v:PV}{cs:List PV}(a:PAcc b e h v m cs)(R:∀s off l c,v=.sl s off l c->D.obj s=h.obj s)(Q:h.next<=D.next):PAcc b e D v m cs:=by
 rcases a with a|⟨s,cap,rfl,I,E,J,L,M⟩
 .exact .inl a
 .exact .inr ⟨s,cap,rfl,I,by rw[R s 0 _ cap rfl];exact E,J,L,Yk M Q⟩
theorem zAi{b e m:Nat}{h:PHeap}{v:PV}{cs:List PV}(a:PAcc b e h v m cs){s off l:Nat}{c:Cap}(D:v=.sl s off l c):s<h.next:=by
 rcases a with ⟨rfl,_⟩|⟨Q,cap,rfl,J,I,L,M,E⟩
 .cases D
 .cases D;exact E
structure TI(σ h:PHeap)(p0 sO:Nat)(vO vP vC:PV)(cO pc:List PV)(ls:List (Option LS)):Prop where
 keep:Keep σ h
 obj:h.obj p0=some [vO,vP,vC]
 p0b:σ.next<=p0/\p0<h.next
 oO:h.obj sO=some cO
 sOb:σ.next<=sO/\sO<h.next
 pO:p0≠sO
 accP:PAcc σ.next 1 h vP pc.length pc
 accC:PAcc σ.next 1 h vC ls.length (ls.map LS.pvo)
 ok:∀q,some q∈ls->q.ok h σ.next
 nd:(LS.slots ls).Nodup
 neP:∀s,s∈LS.slots ls\/s=p0\/s=sO->∀off l c,vP≠.sl s off l c
 neC:∀s,s∈LS.slots ls\/s=p0\/s=sO->∀off l c,vC≠.sl s off l c
 neL:p0∉LS.slots ls/\sO∉LS.slots ls
 nePC:∀s off l c,vP=.sl s off l c->∀off l c,vC≠.sl s off l c
variable{h:PHeap}{p0 sO:Nat}{vO vP vC:PV}{cO pc:List PV}{ls:List (Option LS)}
theorem TI.lt(a:TI σ h p0 sO vO vP vC cO pc ls){s:Nat}(hs:s∈LS.slots ls):σ.next<=s/\s<h.next:=by
 obtain⟨q,l,rfl⟩:=LS.mem_slots.1 hs
 have:=a.ok q l
 exact⟨this.2.2.1,this.2.2.2⟩
theorem TI.keepI{l:PHeap}(a:TI σ h p0 sO vO vP vC cO pc ls)(k:Keep h l):TI σ l p0 sO vO vP vC cO pc ls:=
  ⟨a.keep.trans k,by rw[k.obj _ a.p0b.2];exact a.obj,⟨a.p0b.1,Yk a.p0b.2 k.next⟩,by rw[k.obj _ a.sOb.2];exact a.oO,⟨a.sOb.1,Yk a.sOb.2 k.next⟩,a.pO,a.accP.keep k,a.accC.keep k,
   λq D=>(a.ok q D).move (k.obj _ (a.ok q D).2.2.2) k.next,a.nd,a.neP,a.neC,a.neL,a.nePC⟩
theorem TI.pushP{K:PV×PHeap->Prop}{row:PV}(a:TI σ h p0 sO vO vP vC cO pc ls)(aI:vO.one=true/\vC.one=true)(hb:pc.length<=1000)
  (k:∀D E,D.one=true->D.cells=[D]->E.wr p0 1 [D]=some (E.set p0 [vO,D,vC])->TI σ (E.set p0 [vO,D,vC]) p0 sO vO D vC cO (pc++[row]) ls->h.next<E.next->K (D,E)):
  optK (qB 1 24 (h.new [row]) vP (.sl h.next 0 1 (.known 1))) K:=by
 refine PAcc.pushS (σb:=σ) (bytes:=24) a.keep a.accP rfl (by omega) (by omega) λD E k2 J L R Q=>?_;have I:=a.p0b;have hs:=a.sOb;have Z:E.obj p0=some [vO,vP,vC]:=by rw[L _ I.2 (a.neP _ (.inr (.inl rfl)))];exact a.obj
 refine k D E J.one J.cells (by rw[zT Z,if_pos ⟨by simp,by simp[J.one]⟩];rfl) ⟨k2.set I.1 _,by rw[zG,if_pos rfl],⟨I.1,by show p0<E.next;omega⟩,?_,⟨hs.1,by show sO<E.next;omega⟩,a.pO,?_,?_,λq X=>?_,a.nd,λs hs=>?_,a.neC,a.neL,λs off l c e=>?_⟩ Q
 .rw[zG,if_neg (Ne.symm a.pO),L _ hs.2 (a.neP _ (.inr (.inr rfl)))];exact a.oO
 .have a3:PAcc σ.next 1 (E.set p0 [vO,D,vC]) D (pc.length+1) (pc++[row]):=Q7 J.acc (λs off l c e=>by rw[zG,if_neg λM=>R p0 I.2 off l c (by rw[e,M])]) (na _);simpa using a3
 .refine Q7 a.accC (λs off l c e=>?_) (Y8 Q);have ow:s≠p0:=λM=>a.neC p0 (.inr (.inl rfl)) off l c (by rw[e,M]);rw[zG,if_neg ow,L s (zAi a.accC e) λU Y S e'=>a.nePC s U Y S e' off l c e]
 .have aR:=a.ok q X;have V:q.s∈LS.slots ls:=LS.mem_slots.2 ⟨q,X,rfl⟩;refine aR.move ?_ (Y8 Q);rw[zG,if_neg λe=>a.neL.1 (by rw[<-e];exact V),L _ aR.2.2.2 (a.neP _ (.inl V))]
 .have:s<h.next:=by
   rcases hs with hs|rfl|rfl
   .exact(a.lt hs).2
   .exact I.2
   .omega
  exact R s this
 .intro U Y S e';exact R s (zAi a.accC e') off l c e
theorem TI.pushC{K:PV×PHeap->Prop}{o:Option LS}(a:TI σ h p0 sO vO vP vC cO pc ls)(aI:vO.one=true/\vP.one=true)(hb:ls.length<=1000)
  (L:∀q,o=some q->q.ok h σ.next/\q.s∉LS.slots ls/\q.s≠p0/\q.s≠sO/\(∀off l c,vP≠.sl q.s off l c)/\∀off l c,vC≠.sl q.s off l c)
  (k:∀D E,D.one=true->D.cells=[D]->E.wr p0 2 [D]=some (E.set p0 [vO,vP,D])->TI σ (E.set p0 [vO,vP,D]) p0 sO vO vP D cO pc (ls++[o])->h.next<E.next->K (D,E)):
  optK (qB 1 24 (h.new [LS.pvo o]) vC (.sl h.next 0 1 (.known 1))) K:=by
 refine PAcc.pushS (σb:=σ) (bytes:=24) a.keep a.accC rfl (by omega) (by omega) λD E k2 R Q X S=>?_;have M:=a.p0b;have hs:=a.sOb;have j5:E.obj p0=some [vO,vP,vC]:=by rw[Q _ M.2 (a.neC _ (.inr (.inl rfl)))];exact a.obj
 have U:∀s,s∈LS.slots (ls++[o])->s∈LS.slots ls\/∃q,o=some q/\q.s=s:=λs hs=>by
  rw[LS.slots_app,YY]at hs;refine hs.imp id λhs=>?_;obtain⟨q,hq,e⟩:=LS.mem_slots.1 hs;exact⟨q,(YN.1 hq).symm,e⟩
 refine k D E R.one R.cells (by rw[zT j5,if_pos ⟨by simp,by simp[R.one]⟩];rfl) ⟨k2.set M.1 _,by rw[zG,if_pos rfl],⟨M.1,by show p0<E.next;omega⟩,?_,⟨hs.1,by show sO<E.next;omega⟩,a.pO,?_,?_,λq hq=>?_,?_,λs hs=>?_,λs hs=>?_,⟨λI=>?_,λI=>?_⟩,λs off l c e=>?_⟩ S
 .rw[zG,if_neg (Ne.symm a.pO),Q _ hs.2 (a.neC _ (.inr (.inr rfl)))];exact a.oO
 .refine Q7 a.accP (λs off l c e=>?_) (Y8 S);have ow:s≠p0:=λJ=>a.neP p0 (.inr (.inl rfl)) off l c (by rw[e,J]);rw[zG,if_neg ow,Q s (zAi a.accP e) (a.nePC s off l c e)]
 .have a3:PAcc σ.next 1 (E.set p0 [vO,vP,D]) D (ls.length+1) (ls.map LS.pvo++[LS.pvo o]):=Q7 R.acc (λs off l c e=>by rw[zG,if_neg λJ=>X p0 M.2 off l c (by rw[e,J])]) (na _);simpa using a3
 .rcases YY.1 hq with hq|hq
  .have aR:=a.ok q hq;have I:q.s∈LS.slots ls:=LS.mem_slots.2 ⟨q,hq,rfl⟩;refine aR.move ?_ (Y8 S);rw[zG,if_neg λe=>a.neL.1 (by rw[<-e];exact I),Q _ aR.2.2.2 (a.neC _ (.inl I))]
  .obtain⟨Y,h3,Z,h5,h6,h7⟩:=L q (YN.1 hq).symm;refine Y.move ?_ (Y8 S);rw[zG,if_neg Z,Q _ Y.2.2.2 h7]
 .rw[LS.slots_app,List.nodup_append];refine⟨a.nd,?_,λx hx y V e=>?_⟩
  .cases o<;>simp[LS.slots]
  .cases o with
   |none=>cases V
   |some q=>
    simp only[LS.slots,YN]at V;exact(L q rfl).2.1 (by rw[<-V,<-e];exact hx)
 .rcases hs with hs|hs
  .rcases U s hs with hs|⟨q,e,rfl⟩
   .exact a.neP s (.inl hs)
   .exact(L q e).2.2.2.2.1
  .exact a.neP s (.inr hs)
 .have:s<h.next:=by
   rcases hs with hs|rfl|rfl
   .rcases U s hs with hs|⟨q,e,rfl⟩
    .exact(a.lt hs).2
    .exact(L q e).1.2.2.2
   .exact M.2
   .omega
  exact X s this
 .rcases U _ I with I|⟨q,e,J⟩
  .exact a.neL.1 I
  .exact(L q e).2.2.1 J
 .rcases U _ I with I|⟨q,e,J⟩
  .exact a.neL.2 I
  .exact(L q e).2.2.2.1 J
 .exact X s (zAi a.accP e)
end
section
variable{ls:List (Option LS)}
def zD7(n:Nat)(ls:List (Option LS)):Prop:=∀j (h:j<ls.length),(j+1=n->ls[j]=none)/\(j+1<n->∃q,ls[j]=some q/\q.cs.length=n-1-j)
theorem zD7.snoc{o:Option LS}(h:zD7 n ls)(l:ls.length+1=n->o=none)(D:ls.length+1<n->∃q,o=some q/\q.cs.length=n-1-ls.length):zD7 n (ls++[o]):=by
 intro j E;rw[YV,Yz]at E;rcases YG j ls.length with x|x
 .rw[Ut x];exact h j x
 .have e:j=ls.length:=by omega
  subst e;rw[Ul (na _)];simp only[Yv,List.getElem_cons_zero];exact⟨l,D⟩
end
section
variable{ls:List (Option LS)}{rows cur:List SR}{Rs:List (List SR)}
structure BF(σ H:PHeap)(tp sO sP sC:Nat)(ls:List (Option LS)):Prop where
 b:∀s,s∈[tp,sO,sP,sC]++LS.slots ls->σ.next<=s/\s<H.next
 nd:([tp,sO,sP,sC]++LS.slots ls).Nodup
def cont(Rs:List (List SR))(cur:List SR)(j:Nat)(q:LS):List PV:=
 if j<Rs.length then(Rs.getD j []).map SR.pv else if j=Rs.length then cur.map SR.pv++q.cs.drop cur.length else q.cs
structure LI(σ H h:PHeap)(tp sO sP sC:Nat)(vO:PV)(capP capC:Cap)(n:Nat)(cO:List PV)(pc:List PV)(ls:List (Option LS))(rows:List SR)(Rs:List (List SR))(cur:List SR):Prop where
 keep:Keep σ h
 nx:H.next<=h.next
 tpo:h.obj tp=some [vO,.sl sP 0 n capP,.sl sC 0 n capC]
 oO:h.obj sO=some cO
 oP:h.obj sP=some (rows.map SR.pv++pc.drop rows.length)
 oC:h.obj sC=some (ls.map LS.pvo)
 oL:∀j q,ls[j]? = some (some q)->h.obj q.s=some (cont Rs cur j q)
 ok:∀q,q∈rows\/q∈Rs.flatten\/q∈cur->q.ok h H.next
 nd:(qZ (rows++(Rs.flatten++cur))).Nodup
theorem LS.mem_of_get{j:Nat}{q:LS}(h:ls[j]? = some (some q)):q.s∈LS.slots ls:=LS.mem_slots.2 ⟨q,Yf h,rfl⟩
theorem LI.keepI{D:PHeap}(b:BF σ H tp sO sP sC ls)(a:LI σ H h tp sO sP sC vO capP capC n cO pc ls rows Rs cur)(k:Keep h D):LI σ H D tp sO sP sC vO capP capC n cO pc ls rows Rs cur:=by
 have E:=a.nx;have o:∀s,s∈[tp,sO,sP,sC]++LS.slots ls->D.obj s=h.obj s:=λs hs=>k.obj s (by have:=(b.b s hs).2;omega);refine⟨a.keep.trans k,Y7 a.nx k.next,by rw[o tp (by simp)];exact a.tpo,by rw[o sO (by simp)];exact a.oO,by rw[o sP (by simp)];exact a.oP,by rw[o sC (by simp)];exact a.oC,λj q l=>?_,λq l=>(a.ok q l).keep k,a.nd⟩;rw[o q.s (YY.2 (.inr (LS.mem_of_get l)))];exact a.oL j q l
theorem LS.slots_inj:∀{ls:List (Option LS)} {i j:Nat} {q l:LS},(LS.slots ls).Nodup->ls[i]? = some (some q)->ls[j]? = some (some l)->q.s=l.s->i=j
 |[],i,j,q,l,_,h,_,_=>by simp at h
 |o::ls,0,0,q,l,_,_,_,_=>rfl
 |none::ls,0,j+1,q,l,_,h,_,_=>by simp at h
 |none::ls,i+1,0,q,l,_,_,h,_=>by simp at h
 |some r::ls,0,j+1,q,l,hn,h,g,e=>by
  simp only[List.getElem?_cons_zero,YD,List.getElem?_cons_succ,LS.slots,List.nodup_cons]at h g hn;subst h;exact absurd (LS.mem_of_get g) (by rw[<-e];exact hn.1)
 |some r::ls,i+1,0,q,l,hn,h,g,e=>by
  simp only[List.getElem?_cons_zero,YD,List.getElem?_cons_succ,LS.slots,List.nodup_cons]at h g hn;subst g;exact absurd (LS.mem_of_get h) (by rw[e];exact hn.1)
 |none::ls,i+1,j+1,q,l,hn,h,g,e=>by have:=LS.slots_inj (ls:=ls) hn (by simpa using h) (by simpa using g) e;omega
 |some r::ls,i+1,j+1,q,l,hn,h,g,e=>by
  simp only[LS.slots,List.nodup_cons]at hn
  have:=LS.slots_inj (ls:=ls) hn.2 (by simpa using h) (by simpa using g) e
  omega
theorem zIx{a b:List PV}:(a++b).drop (a.length+1)=b.drop 1:=by
 rw[<-List.drop_drop,List.drop_left'];rfl
theorem zBV{q:SR}{s:Nat}{cs:List PV}(a:q.ok h H.next)(hs:s<H.next):q.ok (h.set s cs) H.next:=⟨a.1,by rw[zG,if_neg (by have:=a.2.2.1;omega)];exact a.2.1,a.2.2.1,a.2.2.2⟩
theorem zPB{q:SR}(l:q∈rows++(Rs.flatten++cur)):q∈rows\/q∈Rs.flatten\/q∈cur:=by
 simpa only[YY]using l
theorem LI.fresh(a:LI σ H h tp sO sP sC vO capP capC n cO pc ls rows Rs cur):h.next∉qZ (rows++(Rs.flatten++cur)):=λl=>by
 obtain⟨q,D,e⟩:=Yj.1 l
 have:=(a.ok q (zPB D)).2.2.2
 omega
theorem LI.putP(b:BF σ H tp sO sP sC ls)(a:LI σ H h tp sO sP sC vO capP capC n cO pc ls rows Rs cur)(M:full 1 cap x.length)(X:rows.length<pc.length):
  (h.new (pis x)).wr sP rows.length [.sl h.next 0 x.length cap]=some ((h.new (pis x)).set sP ((rows++[(⟨h.next,cap,x⟩:SR)]).map SR.pv++pc.drop (rows.length+1)))/\
  LI σ H ((h.new (pis x)).set sP ((rows++[(⟨h.next,cap,x⟩:SR)]).map SR.pv++pc.drop (rows.length+1))) tp sO sP sC vO capP capC n cO pc ls (rows++[(⟨h.next,cap,x⟩:SR)]) Rs cur:=by
 have l:=a.keepI b (zC h (pis x));have I:=a.nx;have D:=b.b sP (by simp);have E:=b.nd;simp only[Yo,Ys,List.nodup_cons,YH,not_or]at E;obtain⟨⟨Y,Q,Z,n4⟩,⟨R,n6,n7⟩,⟨S,U⟩,_⟩:=E;have V:=l.oP;refine⟨?_,l.keep.set D.1 _,l.nx,by rw[zG,if_neg Q];exact l.tpo,by rw[zG,if_neg R];exact l.oO,by rw[zG,if_pos rfl,YV,Yz],by rw[zG,if_neg (Ne.symm S)];exact l.oC,λj q hq=>?_,λq hq=>?_,?_⟩
 .rw[zT V,if_pos ⟨by simp only[YV,YL,UK,Yz];omega,rfl⟩];congr 2;have J:(rows.map SR.pv++pc.drop rows.length).take rows.length=rows.map SR.pv:=by
   have:(rows.map SR.pv).length=rows.length:=YL _
   rw[<-this,List.take_left'];rfl
  have L:(rows.map SR.pv++pc.drop rows.length).drop (rows.length+1)=pc.drop (rows.length+1):=by
   have:=zIx (a:=rows.map SR.pv) (b:=pc.drop rows.length)
   rwa[YL,List.drop_drop]at this
  rw[Yz,J,L,Yh];rfl
 .have hm:=LS.mem_of_get hq;rw[zG,if_neg λe=>U (by rw[<-e];exact hm)];exact l.oL j q hq
 .have new:SR.ok (h.new (pis x)) H.next (⟨h.next,cap,x⟩:SR):=⟨M,by rw[zH,if_pos rfl],I,YP _⟩
  rcases hq with hq|hq
  .rcases YY.1 hq with hq|hq
   .exact zBV (l.ok q (.inl hq)) D.2
   .rw[YN.1 hq];exact zBV new D.2
  .exact zBV (l.ok q (.inr hq)) D.2
 .have hp:(qZ ((rows++[(⟨h.next,cap,x⟩:SR)])++(Rs.flatten++cur))).Perm (h.next::qZ (rows++(Rs.flatten++cur))):=by
   simp only[qZ,Yb,Yh,YO,Y3,Yo,Ys];exact List.perm_middle
  exact hp.nodup_iff.2 (List.nodup_cons.2 ⟨a.fresh,a.nd⟩)
theorem LI.putC{l:LS}(b:BF σ H tp sO sP sC ls)(a:LI σ H h tp sO sP sC vO capP capC n cO pc ls rows Rs cur)(Z:full 1 cap x.length)(J:ls[Rs.length]? = some (some l))(hl:cur.length<l.cs.length):
  (h.new (pis x)).wr l.s cur.length [.sl h.next 0 x.length cap]=some ((h.new (pis x)).set l.s ((cur++[(⟨h.next,cap,x⟩:SR)]).map SR.pv++l.cs.drop (cur.length+1)))/\
  LI σ H ((h.new (pis x)).set l.s ((cur++[(⟨h.next,cap,x⟩:SR)]).map SR.pv++l.cs.drop (cur.length+1))) tp sO sP sC vO capP capC n cO pc ls rows Rs (cur++[(⟨h.next,cap,x⟩:SR)]):=by
 have D:=a.keepI b (zC h (pis x));have S:=a.nx;have I:=LS.mem_of_get J;have E:=b.b l.s (YY.2 (.inr I));have L:=b.nd;simp only[Yo,Ys,List.nodup_cons,YH,not_or]at L;obtain⟨⟨n1,n2,n3,n4⟩,⟨n5,n6,n7⟩,⟨n8,n9⟩,Q,R⟩:=L;have M:=D.oL _ _ J;have Y:cont Rs cur Rs.length l=cur.map SR.pv++l.cs.drop cur.length:=by unfold cont;rw[if_neg (Uk _),if_pos rfl]
 rw[Y]at M;refine⟨?_,D.keep.set E.1 _,D.nx,by rw[zG,if_neg λe=>n4 (by rw[e];exact I)];exact D.tpo,by rw[zG,if_neg λe=>n7 (by rw[e];exact I)];exact D.oO,by rw[zG,if_neg λe=>n9 (by rw[e];exact I)];exact D.oP,by rw[zG,if_neg λe=>Q (by rw[e];exact I)];exact D.oC,λj q hq=>?_,λq hq=>?_,?_⟩
 .rw[zT M,if_pos ⟨by simp only[YV,YL,UK,Yz];omega,rfl⟩];congr 2;have U:(cur.map SR.pv++l.cs.drop cur.length).take cur.length=cur.map SR.pv:=by
   have:(cur.map SR.pv).length=cur.length:=YL _
   rw[<-this,List.take_left'];rfl
  have V:(cur.map SR.pv++l.cs.drop cur.length).drop (cur.length+1)=l.cs.drop (cur.length+1):=by
   have:=zIx (a:=cur.map SR.pv) (b:=l.cs.drop cur.length)
   rwa[YL,List.drop_drop]at this
  rw[Yz,U,V,Yh];rfl
 .by_cases e:j=Rs.length
  .subst e;rw[J]at hq;cases hq;rw[zG,if_pos rfl];unfold cont;rw[if_neg (Uk _),if_pos rfl,YV,Yz]
  .have an:q.s≠l.s:=λX=>by
    exact e (LS.slots_inj R hq J X)
   rw[zG,if_neg an,D.oL j q hq];unfold cont;rw[if_neg (show ¬j=Rs.length from e),if_neg (show ¬j=Rs.length from e)]
 .have new:SR.ok (h.new (pis x)) H.next (⟨h.next,cap,x⟩:SR):=⟨Z,by rw[zH,if_pos rfl],S,YP _⟩
  rcases hq with hq|hq|hq
  .exact zBV (D.ok q (.inl hq)) E.2
  .exact zBV (D.ok q (.inr (.inl hq))) E.2
  .rcases YY.1 hq with hq|hq
   .exact zBV (D.ok q (.inr (.inr hq))) E.2
   .rw[YN.1 hq];exact zBV new E.2
 .have hp:(qZ (rows++(Rs.flatten++(cur++[(⟨h.next,cap,x⟩:SR)])))).Perm (h.next::qZ (rows++(Rs.flatten++cur))):=by
   simp only[qZ,Yh,YO,Y3];rw[<-Yb,<-Yb,Yb (List.map SR.s rows)];exact List.perm_append_singleton _ _
  exact hp.nodup_iff.2 (List.nodup_cons.2 ⟨a.fresh,a.nd⟩)
theorem LI.close(a:LI σ H h tp sO sP sC vO capP capC n cO pc ls rows Rs cur)(l:∀q,ls[Rs.length]? = some (some q)->cur.length=q.cs.length):LI σ H h tp sO sP sC vO capP capC n cO pc ls rows (Rs++[cur]) []:=by
 refine⟨a.keep,a.nx,a.tpo,a.oO,a.oP,a.oC,λj q hq=>?_,λq hq=>a.ok q ?_,?_⟩
 .rw[a.oL j q hq];unfold cont;rw[YV,Yz];rcases Nat.lt_trichotomy j Rs.length with x|x|x
  .rw[if_pos x,if_pos (by omega)];simp[YB,Yy x]
  .subst x;rw[if_neg (Uk _),if_pos rfl,if_pos (by omega),Uu (by rw[l q hq];exact na _)];simp[YB]
  .rw[if_neg (by omega),if_neg (by omega),if_neg (by omega)];split<;>simp
 .rcases hq with hq|hq|hq
  .exact .inl hq
  .simp only[List.flatten_append,List.flatten_cons,List.flatten_nil,Y0,YY]at hq;exact .inr hq
  .cases hq
 .have:=a.nd
  simpa [List.flatten_append]using this
end
section
variable{a:Nat->Nat}{b:Nat}{ls:List (Option LS)}{rows:List SR}{Rs:List (List SR)}
def lrT:Option LS->List SR->TR
 |none,_=>.nil
 |some q,R=>TR.rows q.s q.cap R
def Fit1:Option LS->List SR->Prop
 |none,R=>R=[]
 |some q,R=>R.length=q.cs.length
def Fits(ls:List (Option LS))(Rs:List (List SR)):Prop:=All2 Fit1 ls Rs
theorem Fits.tl{o:Option LS}{R:List SR}(h:Fits (o::ls) (R::Rs)):Fit1 o R/\Fits ls Rs:=
 ⟨h.2 0 o R rfl rfl,by have:=h.1;simpa using this,λk a b l D=>h.2 (k+1) a b (by simpa using l) (by simpa using D)⟩
theorem zIQ:∀{ls:List (Option LS)} {Rs:List (List SR)},Fits ls Rs->TR.pvs (List.zipWith lrT ls Rs)=ls.map LS.pvo
 |[],[],_=>rfl
 |[],R::Rs,h=>by have:=h.1;simp at this
 |o::ls,[],h=>by have:=h.1;simp at this
 |none::ls,R::Rs,h=>by
  simp only[List.zipWith_cons_cons,TR.pvs,YO,zIQ h.tl.2];rfl
 |some q::ls,R::Rs,h=>by
  have l:R.length=q.cs.length:=h.tl.1;simp only[List.zipWith_cons_cons,TR.pvs,YO,zIQ h.tl.2];simp only[lrT,TR.rows,TR.pv,LS.pvo,LS.pv,YL,l]
theorem zFD:∀{ls:List (Option LS)} {Rs:List (List SR)},Fits ls Rs->(TR.slotss (List.zipWith lrT ls Rs)).Perm (LS.slots ls++qZ Rs.flatten)
 |[],[],_=>List.Perm.refl _
 |[],R::Rs,h=>by have:=h.1;simp at this
 |o::ls,[],h=>by have:=h.1;simp at this
 |none::ls,R::Rs,h=>by
  have l:R=[]:=h.tl.1;subst l;simp only[List.zipWith_cons_cons,TR.slotss,lrT,TR.slots,Ys,List.flatten_cons,LS.slots];exact zFD h.tl.2
 |some q::ls,R::Rs,h=>by
  have D:=zFD h.tl.2;simp only[List.zipWith_cons_cons,TR.slotss,lrT,TR.rows,TR.slots,TR.rows_slots,List.flatten_cons,LS.slots,Yo];refine List.Perm.cons _ ?_;have e:qZ (R++Rs.flatten)=qZ R++qZ Rs.flatten:=by simp[qZ]
  rw[e];refine((D.append_left (qZ R)).trans ?_);rw[<-Yb,<-Yb];exact List.perm_append_comm.append_right _
theorem zNY:∀{ls:List (Option LS)} {Rs:List (List SR)},(∀(j:Nat) (o:Option LS) (R:List SR),ls[j]? = some o->Rs[j]? = some R->(lrT o R).ok h b)->TR.oks h b (List.zipWith lrT ls Rs)
 |[],_,_=>trivial
 |o::ls,[],_=>trivial
 |o::ls,R::Rs,k=>⟨k 0 o R rfl rfl,zNY λj E R' l D=>k (j+1) E R' (by simpa using l) (by simpa using D)⟩
theorem zKw:∀{ls:List (Option LS)} {Rs:List (List SR)},Fits ls Rs->All2 FII (TR.fzs a (List.zipWith lrT ls Rs)) (Rs.map λR=>R.map SR.x)
 |[],[],_=>All2.nil _
 |[],R::Rs,h=>by have:=h.1;simp at this
 |o::ls,[],h=>by have:=h.1;simp at this
 |o::ls,R::Rs,h=>by
  have E:=zKw h.tl.2;refine⟨by simp only[List.zipWith_cons_cons,TR.fzs,YO,YS,E.1],λk c y l D=>?_⟩;cases k with
  |zero=>
   simp only[List.zipWith_cons_cons,TR.fzs,YO,List.getElem?_cons_zero,YD]at l D;rw[<-l,<-D];cases o with
   |none=>
    have I:R=[]:=h.tl.1;subst I;exact⟨true,.nils,[],rfl,All2.nil _⟩
   |some q=>exact TR.rows_FII
  |succ k=>
   simp only[List.zipWith_cons_cons,TR.fzs,YO,List.getElem?_cons_succ]at l D;exact E.2 k c y l D
end
section
variable{s:Nat}
theorem zMO(o:OkW p n W)(q:OkB p n B)(hs:PtrR σ s p vP vB)(E:IsR vP vB W B)(J:El p n x)(L:El p n y)(l:FI vx x)(D:FI vy y)(I:∀v,FI v (br p W B n x y)->K v σ):zA Tryz.prog 58 [.ptr s 0,vx,vy] σ K:=by
 obtain⟨R,M,rfl⟩:=l;obtain⟨S,Q,rfl⟩:=D;exact qY hs E o q J L rfl rfl λv=>I _ ⟨_,_,by rw[(br_el o q).1]⟩
end
section
variable{f g:Vec}
theorem zMM(f g:Vec)(t:Nat):brv B n f g t=sumN n λk=>f k*brv B n (at_ (unitL n k)) g t:=by
 rw[ZA,zD2 f g,<-ZV];refine qL λk l=>?_;rw[ZA g (at_ (unitL n k))];grind
end
section
open Go.Grp
theorem zIg(p:Int):∀n,ipow p n=p ^ n
 |0=>by simp[ipow]
 |n+1=>by rw[Int.pow_succ,<-zIg p n];simp only[ipow];try rw[UB]
end
theorem zHo{P:Program}{c:IC}{Q:Exit->PEnv->PHeap->Prop}{e:PEnv}{h:PHeap}(id:Nat)(J:PEnv->PHeap->Prop)(D:∀l:Exit->PEnv->PHeap->Prop,(∀e h,J e h->l (.exit id) e h)->vp P c l e h)(E:∀e h,J e h->Q (.exit id) e h):vp P c Q e h:=D Q E
section
variable{s:Nat}
structure ST(T h:PHeap)(p0:Nat)(fs:List (PV×List PV))(ls:List LS):Prop where
 keep:Keep T h
 obj:h.obj p0=some (fs.map Prod.fst)
 p0b:T.next<=p0/\p0<h.next
 acc:∀f,f∈fs->PSl T.next 1 h f.1 f.2.length f.2
 ne:∀f,f∈fs->∀off l c,f.1≠.sl p0 off l c
 dis:∀(i j:Nat) f g,fs[i]? = some f->fs[j]? = some g->i≠j->∀s off l c,f.1=.sl s off l c->∀off l c,g.1≠.sl s off l c
 lok:∀q,q∈ls->q.ok h T.next
 lne:∀q,q∈ls->q.s≠p0/\∀f,f∈fs->∀off l c,f.1≠.sl q.s off l c
variable{T:PHeap}{p0:Nat}{fs:List (PV×List PV)}{ls:List LS}
theorem zAg{b e m:Nat}{h D:PHeap}{v:PV}{cs:List PV}(a:PSl b e h v m cs)(R:∀s off l c,v=.sl s off l c->D.obj s=h.obj s)(Q:h.next<=D.next):PSl b e D v m cs:=by
 obtain⟨s,cap,rfl,I,E,J,L,M⟩:=a;exact⟨s,cap,rfl,I,by rw[R s 0 _ cap rfl];exact E,J,L,Yk M Q⟩
theorem QD{b e m:Nat}{h:PHeap}{v:PV}{cs:List PV}(a:PSl b e h v m cs){s off l:Nat}{c:Cap}(D:v=.sl s off l c):s<h.next:=zAi a.acc D
theorem ST.keepI{l:PHeap}(a:ST T h p0 fs ls)(k:Keep h l):ST T l p0 fs ls:=
 ⟨a.keep.trans k,by rw[k.obj _ a.p0b.2];exact a.obj,⟨a.p0b.1,Yk a.p0b.2 k.next⟩,λf E=>(a.acc f E).keep k,a.ne,a.dis,λq D=>(a.lok q D).move (k.obj _ (a.lok q D).2.2.2) k.next,a.lne⟩
theorem ST.more{q:LS}(a:ST T h p0 fs ls)(I:q.ok h T.next)(J:q.s≠p0/\∀f,f∈fs->∀off l c,f.1≠.sl q.s off l c):ST T h p0 fs (ls++[q]):=
 ⟨a.keep,a.obj,a.p0b,a.acc,a.ne,a.dis,λE D=>(YY.1 D).elim (a.lok E) λe=>by rw[YN.1 e];exact I,λE D=>(YY.1 D).elim (a.lne E) λe=>by rw[YN.1 e];exact J⟩
theorem ST.push{K:PV×PHeap->Prop}{bytes j:Nat}{v x:PV}{cs:List PV}(a:ST T h p0 fs ls)(hj:fs[j]? = some (v,cs))(hb:cs.length<=1000)(oZ:bytes<=24)(aI:∀f,f∈fs->f.1.one=true)
    (k:∀D L,D.one=true->D.cells=[D]->L.wr p0 j [D]=some (L.set p0 ((fs.set j (D,cs++[x])).map Prod.fst))->ST T (L.set p0 ((fs.set j (D,cs++[x])).map Prod.fst)) p0 (fs.set j (D,cs++[x])) ls->K (D,L)):
    optK (qB 1 bytes (h.new [x]) v (.sl h.next 0 1 (.known 1))) K:=by
  have hm:(v,cs)∈fs:=Yf hj;obtain⟨Z,iY⟩:=Yn.1 hj;have gM:(cs.length+1)*bytes<=1001*24:=Nat.mul_le_mul (by omega) oZ;refine PAcc.pushS (σb:=T) (bytes:=bytes) a.keep (a.acc _ hm).acc rfl (by show(cs.length+1)*bytes<=_;omega) (by show cs.length+1<=_;omega) λD L k2 X o2 V l2=>?_;have S:=a.p0b;have j5:L.obj p0=some (fs.map Prod.fst):=by rw[o2 _ S.2 (a.ne _ hm)];exact a.obj
  have dX:(fs.set j (D,cs++[x])).map Prod.fst=(fs.map Prod.fst).set j D:=by rw[List.map_set]
  have Y:∀f,f∈fs.set j (D,cs++[x])->f=(D,cs++[x])\/∃i,i≠j/\fs[i]? = some f:=λf E=>by
    obtain⟨i,I⟩:=List.getElem?_of_mem E;rw[Yi]at I;split at I
    . first
      |(cases I;exact .inl rfl)
      | (split at I
         .cases I;exact .inl rfl
         .cases I)
    .rename_i e;exact .inr ⟨i,λJ=>e J.symm,I⟩
  refine k D L X.one X.cells ?_ ⟨k2.set S.1 _,by rw[zG,if_pos rfl],⟨S.1,by show p0<L.next;omega⟩,λf E=>?_,λf E=>?_,λi1 i2 f g E M an s off l c e=>?_,λq Q=>?_,λq Q=>⟨(a.lne q Q).1,λf E=>?_⟩⟩
  . rw[zT j5,if_pos ⟨by rw[YL,Yz];omega,by simp only[List.all_cons,List.all_nil,X.one];rfl⟩,dX]
    congr 2;rw[Yb,UF,Yz,take_set _ (by rw[YL];exact Z)]
  . rcases Y f E with rfl|⟨i,I,R⟩
    . have a3:PSl T.next 1 (L.set p0 ((fs.set j (D,cs++[x])).map Prod.fst)) D (cs.length+1) (cs++[x]):=zAg X (λs off l c e=>by rw[zG,if_neg λJ=>V p0 S.2 off l c (by rw[e,J])]) (na _)
      simpa using a3
    . have U:=Yf R
      refine zAg (a.acc f U) (λs off l c e=>?_) (Y8 l2);rw[zG,if_neg λJ=>a.ne f U off l c (by rw[e,J]),o2 s (QD (a.acc f U) e) (a.dis i j f _ R hj I s off l c e)]
  . rcases Y f E with rfl|⟨i,I,R⟩
    .exact V p0 S.2
    .exact a.ne f (Yf R)
  . rw[Yi]at E M
    by_cases e1:j=i1
    . rw[if_pos e1,if_pos Z]at E
      cases E;rw[if_neg λJ=>an (e1.symm.trans J)]at M;have Fz:=Yf M;intro dD l' c' e';exact V s (QD (a.acc g Fz) e') off l c e
    . rw[if_neg e1]at E
      have U:=Yf E;by_cases J:j=i2
      . rw[if_pos J,if_pos Z]at M
        cases M;exact V s (QD (a.acc f U) e)
      . rw[if_neg J]at M
        exact a.dis i1 i2 f g E M an s off l c e
  . have aR:=a.lok q Q
    refine aR.move ?_ (Y8 l2);rw[zG,if_neg (a.lne q Q).1,o2 _ aR.2.2.2 ((a.lne q Q).2 _ hm)]
  . rcases Y f E with rfl|⟨i,I,R⟩
    .exact V _ (a.lok q Q).2.2.2
    .exact(a.lne q Q).2 f (Yf R)
theorem Q8:∀cs:List PV,TR.pvs (cs.map TR.leaf)=cs
 |[]=>rfl
 |c::cs=>by simp only[YO,TR.pvs,TR.pv,Q8 cs]
theorem zAA{a:Nat->Nat}:∀cs:List PV,TR.fzs a (cs.map TR.leaf)=cs
 |[]=>rfl
 |c::cs=>by simp only[YO,TR.fzs,TR.fz,zAA cs]
theorem Q9{b:Nat}:∀{cs:List PV},Bels 0 cs->TR.okFs h b (cs.map TR.leaf)
 |[],_=>trivial
 |c::cs,hb=>⟨hb.1,Q9 hb.2⟩
def LS.tr(q:LS):TR:=.lst q.s q.cap (q.cs.map TR.leaf)
theorem LS.tr_pvs:∀ls:List LS,TR.pvs (ls.map LS.tr)=ls.map LS.pv
 |[]=>rfl
 |q::ls=>by simp only[YO,TR.pvs,LS.tr_pvs ls];simp only[LS.tr,TR.pv,YL,LS.pv]
theorem LS.tr_okF{b:Nat}{q:LS}(l:q.ok h b)(D:Bels 0 q.cs):(LS.tr q).okF h b:=⟨⟨by rw[YL];exact l.1,by rw[Q8];exact l.2.1,l.2.2.1,l.2.2.2⟩,Q9 D⟩
theorem LS.trs_okF{b:Nat}:∀{ls:List LS},(∀q,q∈ls->q.ok h b/\Bels 0 q.cs)->TR.okFs h b (ls.map LS.tr)
 |[],_=>trivial
 |q::ls,k=>⟨LS.tr_okF (k q (UW ..)).1 (k q (UW ..)).2,LS.trs_okF λD l=>k D (Yl _ l)⟩
def zGR(ls:List LS)(l:V3):Prop:=All2 (λ(q:LS) (R:V2)=>All2 FI q.cs R) ls l
theorem zCG{a:Nat->Nat}{ls:List LS}{l:V3}(k:zGR ls l):All2 FII (TR.fzs a (ls.map LS.tr)) l:=by
 have L:∀ls:List LS,(TR.fzs a (ls.map LS.tr)).length=ls.length:=λls=>by rw[TR.fzs_length,YL]
 have J:∀(ls:List LS) (i:Nat),(TR.fzs a (ls.map LS.tr))[i]? = ls[i]?.map λq=>(LS.tr q).fz a:=by
  intro ls
  induction ls with
  |nil=>intro i;simp[TR.fzs]
  |cons q ls ih=>
   intro i;cases i with
   |zero=>simp[TR.fzs]
   |succ i=>simpa [TR.fzs]using ih i
 refine⟨by rw[L];exact k.1,λi c R E I=>?_⟩;rw[J]at E;obtain⟨q,M,rfl⟩:=YJ.1 E;have D:=k.2 i q R M I;exact⟨true,.sl (a q.s) 0 q.cs.length q.cap,q.cs,by simp only[LS.tr,TR.fz,zAA,YL];rw[D.1],D⟩
end
end Go.Proofs
