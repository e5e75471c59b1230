/- . -/
import Derived.Test.YtgkbfiilhocioaaGreatFP9
open Nat renaming le_refl→vM
open Int renaming reduceNatCast'->ae
set_option maxRecDepth 100000
namespace Go.Grp
end Go.Grp
set_option linter.unusedSimpArgs false
set_option linter.unusedVariables false
namespace Go.Proofs
open Go.Ab Go.Lie Go.Grp
variable{p:Int}{n c:Nat}{W:V2}{B:V3}{u g:V2}{x y:V1}
theorem zero_sub:IsSub p n W λf=>Eqv p n W f λ_=>0:=
 ⟨Eqv.refl _,λf g h1 h2=>(h1.add h2).trans (Eqv.of_eq λt=>by omega),λk f h=>(h.mul k).trans (Eqv.of_eq λt=>by simp),λf g e h=>e.trans h⟩
theorem zEs(o:OkW p n W)(q:OkB p n B)(nf:qE p W B n){f:Vec}(h:Eqv p n W f λ_=>0)(g:Vec):Eqv p n W (brv B n f g) λ_=>0:=(Z4 o q nf g h).trans (Eqv.of_eq λt=>by
 have:=zq (B:=B) (n:=n) 0 (λ_=>0) g t
 simpa using this)
def Cen0(p:Int)(n:Nat)(W:V2)(B:V3)(f:Vec):Prop:=∀g,Eqv p n W (brv B n f g) λ_=>0
theorem Cen0.sub(o:OkW p n W)(q:OkB p n B)(nf:qE p W B n):IsSub p n W (Cen0 p n W B):=by
 refine⟨λg=>zEs o q nf (Eqv.refl _) g,λf f' h h' g=>?_,λk f h g=>?_,λf f' h h' g=>(Z4 o q nf g h).trans (h' g)⟩
 .exact(Eqv.of_eq λt=>ZM f f' g t).trans (((h g).add (h' g)).trans (Eqv.of_eq λt=>by omega))
 .exact(Eqv.of_eq λt=>zq k f g t).trans (((h g).mul k).trans (Eqv.of_eq λt=>by simp))
theorem zQL(o:OkW p n W)(q:OkB p n B)(nf:qE p W B n)(h:cz p n W B (units n) x):Cen0 p n W B (at_ x):=λg=>by
 refine Zk zero_sub (λw hw=>?_) (zFg o q nf (u:=[x]) (zQ (by simp)) g);obtain⟨a,ha,b,hb,rfl⟩:=Q0.1 hw;rw[List.mem_singleton.1 ha];exact Eqv.of_eq λj=>h b hb j
theorem zQK(z:Lz p n W B c)(hx:El p n x):cz p n W B (units n) x↔CenA (rO p n) (lgPs p n W B n) (lgCs p n W B n) [] (vcG p n W B x):=by
 have o:=z.r.o;have q:=z.r.q;have nf:=z.r.nf;have g:=lg_LG z;have gx:=(gS_el z).2 (vc_el z hx);constructor
 .intro h;have h0:=zQL o q nf h;have F:Fil p n W B λk=>if k=0 then Cen0 p n W B elseλf=>Eqv p n W f λ_=>0:=by
   refine⟨λk=>?_,λk f hf=>?_,λk f g hf=>?_⟩
   .by_cases e:k=0
    .simp only[e,if_true];exact Cen0.sub o q nf
    .simp only[e,if_false];exact zero_sub
   .simp only[Nat.succ_ne_zero,if_false]at hf;by_cases e:k=0
    .simp only[e,if_true];exactλg=>zEs o q nf hf g
    .simp only[e,if_false];exact hf
   .simp only[Nat.succ_ne_zero,if_false];by_cases e:k=0
    .simp only[e,if_true]at hf;exact hf g
    .simp only[e,if_false]at hf;exact zEs o q nf hf g
  intro a ha;have ga:=Z6 g.s a ha;have ea:El p n a:=(gS_el z).1 ga;have pa:=pt_el z a;obtain⟨w,hw,hq⟩:=z.conj_fil F hx pa;have Bu:Eqv p n W w λ_=>0:=by
   have:=hw 0 (.inl (by simpa using h0))
   simpa using this
  have hc:=Qh o q hx pa;have e:conj p n W B x (ptG p n W B a n)=x:=qQ o hc.1 hx.1 hc.2 hx.2 (hq.trans (((Eqv.refl (at_ x)).add Bu).trans (Eqv.of_eq λt=>by omega)));have e2:=zC2 z hx pa;rw[e,vc_pt z ea]at e2;rw[(zKh g gx ga).2 e2.symm];exact(GC.sub (L:=[]) g.F (λx hx=>by cases hx)).one
 .intro h b hb;have eb:=ZW o.pr b hb;have triv:=zKd z (GC.sub (L:=[]) g.F (λx hx=>by cases hx));have gz:∀{y},gS (rO p n) y->GC (rO p n) (lgPs p n W B n) (lgCs p n W B n) [] y->y=zv (rO p n):=λ{y} hy hg=>(zIK hy.len).1 ((zIS g hy).1 hg);have one:GC (rO p n) (lgPs p n W B n) (lgCs p n W B n) [] (zv (rO p n)):=(GC.sub (L:=[]) g.F (λx hx=>by cases hx)).one;have hB:gB (rO p n) (lgPs p n W B n) (lgCs p n W B n) (λa=>gS (rO p n) a/\rcj p n W B (vcG p n W B x) a=vcG p n W B x):=QA g.s g.F g.cent (λx hx=>hx.1) ⟨g.F.g.one,cnj_one g gx⟩ λa b ha hb=>⟨g.F.g.cl ha.1 hb.1,by
   show gcnj _ _ _ _ _=_;rw[zKj g gx ha.1 hb.1,show gcnj _ _ _ _ a=_ from ha.2];exact hb.2⟩
  have aj:∀a,gS (rO p n) a->rcj p n W B (vcG p n W B x) a=vcG p n W B x:=λa ha=>(zHR g hB (λi hi=>by
   have dq:Grp.unit (rO p n) i∈ql (rO p n):=List.mem_map.2 ⟨i,List.mem_range.2 hi,rfl⟩;have ui:=Z6 g.s _ dq;exact⟨ui,(zKh g gx ui).1 (gz (g.F.g.com_in gx ui) (h _ dq))⟩) ha).2
  have e0:El p n (List.replicate n 0):=ZO o.pr;have rJ:conj p n W B x b=x:=zL5 z (Qh o q hx eb) hx (by rw[zC2 z hx eb];exact aj _ ((gS_el z).2 (vc_el z eb)));have DL:comm p n W B x b=List.replicate n 0:=by
   rw[<-z.conj_comm hx eb,rJ];exact z.inv_l hx
  have c0:∀w,El p n w->El p n (comm p n W B (List.replicate n 0) w)/\GC (rO p n) (lgPs p n W B n) (lgCs p n W B n) [] (vcG p n W B (comm p n W B (List.replicate n 0) w)):=λw hw=>by
   rw[<-z.conj_comm e0 hw];refine triv.cl _ _ (triv.mul _ _ triv.zero) ⟨Qh o q e0 hw,?_⟩;rw[zC2 z e0 hw,zDh z,show rcj p n W B (zv (rO p n)) _=zv (rO p n) from zKN g ((gS_el z).2 (vc_el z hw))];exact one
  have hE:=triv.br z hx eb (by rw[DL];exact triv.zero) (by rw[DL];exact c0 x hx) (by rw[DL];exact c0 b eb)
  have:=gz ((gS_el z).2 (vc_el z hE.1)) hE.2
  rw[<-zDh z]at this;rw[zL5 z hE.1 e0 this];exactλj=>zn n j
theorem zGZ{W:V2}{ce r d:V2}(z:Lz p W.length W B c)(h:CzL p W B (units W.length) ce):Canon p W.length W ce ce/\(∀x∈ce,∀y∈ce,Gen p W.length W ce (at_ (br p W B W.length x y)))/\
  (CanG (rO p W.length) (rG p W.length W B (ce.map λe=>vcG p W.length W B e)) d->EleG (rO p W.length) (lgPs p W.length W B W.length) (lgCs p W.length W B W.length) (CenA (rO p W.length) (lgPs p W.length W B W.length) (lgCs p W.length W B W.length) []) r->d=r):=by
 obtain⟨P,L,hp,hc,hL⟩:=h;have o:=z.r.o;have q:=z.r.q;have nf:=z.r.nf;have g:=lg_LG z;have dA:=z.hp.bd;have cI:=(zJ6 (by omega) hp o q nf hc hL).1;refine⟨hc.self,cI,λhd ⟨L',Fh,hr⟩=>?_⟩;have fN:∀y,El p W.length y->(Gen p W.length W ce (at_ y)↔cz p W.length W B (units W.length) y):=λy hy=>
  ⟨λhf=>(zFp o q).2 (Zk (zEq o q nf _) (λx hx=>(zFp o q).1 ((hL x).1 hx).2) ((hc.gen _).2 hf)),λyA=>(hc.gen _).1 (zQ ((hL y).2 ⟨by subst hp;exact zFo (by omega) hy,yA⟩))⟩
 have Ke:∀l∈ce.map (λe=>vcG p W.length W B e),gS (rO p W.length) l:=λl hl=>by
  obtain⟨e,he,rfl⟩:=List.mem_map.1 hl;exact(gS_el z).2 (vc_el z (hc.base.els e he))
 have hH:=GC.sub g.F Ke;have hg:∀x,rG p W.length W B (ce.map λe=>vcG p W.length W B e) x↔gS (rO p W.length) x/\CenA (rO p W.length) (lgPs p W.length W B W.length) (lgCs p W.length W B W.length) [] x:=λx=>by
  rw[zMA z hc.base cI,gS_el z];refine and_congr_right λhx=>?_;rw[fN _ (pt_el z x),zQK z (pt_el z x),vc_pt z hx]
 have he:∀x,GC (rO p W.length) (lgPs p W.length W B W.length) (lgCs p W.length W B W.length) L' x↔rG p W.length W B (ce.map λe=>vcG p W.length W B e) x:=λx=>
  ⟨λhx=>hx _ hH λl hl=>(hg l).2 ((Fh l).1 hl),λhx=>GC.mem ((Fh x).2 ((hg x).1 hx))⟩
 exact hd.unique g.s g.F hH ⟨hr.asc,λv hv=>(he v).1 (hr.mem v hv),hr.one,hr.red,λx hx hd=>hr.all x ((he x).2 hx) hd⟩
end Go.Proofs
namespace Go.Proofs
open Go.Ab Go.Lie Go.Grp
variable{σ h:PHeap}{K:PV->PHeap->Prop}{p:Int}{c:Nat}{W:V2}{B:V3}{vP vB vU:PV}{u x:V2}{s:Nat}
abbrev RSub(p:Int)(W:V2)(B:V3)(u:V2):Prop:=ZE (rO p W.length) (lgPs p W.length W B W.length) (lgCs p W.length W B W.length) u
def SgR(p:Int)(W:V2)(B:V3)(u z:V2)(c:Int):Prop:=
 (CodeL p W B [] c/\c≠0/\z=[])\/(CodeL p W B [] 0/\¬RSub p W B u/\z=[]/\c=1)\/(CodeL p W B [] 0/\RSub p W B u/\Canon p W.length W (u.map λe=>ptG p W.length W B e W.length) z/\c=0)
theorem SgR.unique{z z':V2}{c c':Int}(h:SgR p W B u z c)(g:SgR p W B u z' c'):z=z'/\c=c':=by
 rcases h with ⟨h1,h2,h3⟩|⟨h1,h2,h3,h4⟩|⟨h1,h2,h3,h4⟩<;>rcases g with ⟨g1,g2,g3⟩|⟨g1,g2,g3,g4⟩|⟨g1,g2,g3,g4⟩
 .exact⟨by rw[h3,g3],h1.unique g1⟩
 .exact absurd (h1.unique g1) h2
 .exact absurd (h1.unique g1) h2
 .exact absurd (g1.unique h1) g2
 .exact⟨by rw[h3,g3],by rw[h4,g4]⟩
 .exact absurd g2 h2
 .exact absurd (g1.unique h1) g2
 .exact absurd h2 g2
 .exact⟨h3.unique h1.zero.1.1.1.w g3,by rw[h4,g4]⟩
theorem zPF(hR:IsR vP vB W B)(dU:SzR W B)(hU:FII vU u)(hJ:SzL u)
  (hk:∀v z c,SgR p W B u z c->FII v z->K (.tup [v,.int .i64 c]) σ):zA Tryz.prog 23 [.agg [.int .i64 p,vP,vB],vU] σ K:=by
 have h1:=hR.P.one;have h2:=hR.B.one;refine zA.gh ?_;refine zD mix Tryz.func23 ?_
 conv=>arg 2;cbv
 refine zF rfl ?_;simp only[Z3,seval,-ae,h1,h2];have aq:Keep σ (σ.new [.int .i64 p,vP,vB]):=zC σ _;have hs:PtrR (σ.new [.int .i64 p,vP,vB]) σ.next p vP vB:=⟨by simp only[Z3,seval,-ae],Nat.lt_succ_self _⟩
 have cJ:(σ.new [.int .i64 p,vP,vB]).next=σ.next+1:=rfl;generalize σ.new [.int .i64 p,vP,vB]=T at *
 refine zCs (xs:=[]) hs hR dU ⟨true,.nils,[],rfl,All2.nil _⟩ ⟨by simp,λy hy=>by cases hy⟩ λc hc=>?_;by_cases cD:c=0;rotate_left
 .simp only[Z3,seval,-ae,cD];exact Gh.fin0 aq ⟨trivial,trivial,trivial⟩ (hk _ [] _ (.inl ⟨hc,cD,rfl⟩) ⟨true,.nils,[],rfl,All2.nil _⟩)
 subst cD;obtain⟨⟨hl,_⟩,hz⟩:=hc.zero;obtain⟨cc,lz⟩:=Lz.of hl hz;have o:=lz.r.o;have aN:=o.le;have g:=lg_LG lz;have cq:=hJ.l;simp only[Z3,seval,-ae];refine zAy lz hs hR λvO vQ vC t f1 f2 f3 ho ht=>?_;have bw:IsPr vO vQ vC (rO p W.length) (lgPs p W.length W B W.length) (lgCs p W.length W B W.length):=⟨f1,f2,f3⟩;have sr:=lg_bd (.inr ⟨hc,rfl,rfl,rfl,rfl⟩:LGR p W B (rO p W.length) (lgPs p W.length W B W.length) (lgCs p W.length W B W.length) 0);have k0:=bw.O.one;have k1:=bw.P.one;have k2:=bw.C.one;simp only[Z3,seval,-ae,k0,k1,k2,hU.one,hU.cells];have bV:Keep σ ((((T.new [vO,vQ,vC]).new [vU]).kill (T.next+1)).up t):=aq.trans ((((zC T _).new _).kill (by omega)).up ht);have fA:PtrR ((((T.new [vO,vQ,vC]).new [vU]).kill (T.next+1)).up t) σ.next p vP vB:=hs.keep ((((zC T _).new _).kill (by omega)).up ht);have rF:PtrG ((((T.new [vO,vQ,vC]).new [vU]).kill (T.next+1)).up t) T.next vO vQ vC:=⟨by simp only[Z3,seval,-ae],by simp only[Z3,seval,-ae];omega⟩
 refine zA.frz (s:=T.next+1) (cs:=[vU]) (by simp only[Z3,seval,-ae]) ⟨hU.bel 0,trivial⟩ λo1=>?_;rw[show(((T.new [vO,vQ,vC]).new [vU]).up t).kill (T.next+1)=(((T.new [vO,vQ,vC]).new [vU]).kill (T.next+1)).up t from rfl];generalize (((T.new [vO,vQ,vC]).new [vU]).kill (T.next+1)).up t=H at *
 simp only[sbs,Go.Ab.sb,capOK,and_self,if_true,decide_true,vM];refine zBo g rF bw sr hU hJ λt ht=>?_;cases t with
 |false=>
  simp only[Z3,seval,-ae];exact Gh.fin0 bV ⟨trivial,trivial,trivial⟩ (hk _ [] _ (.inr (.inl ⟨hc,λe=>(by have:=ht.2 e;cases this),rfl,rfl⟩)) ⟨true,.nils,[],rfl,All2.nil _⟩)
 |true=>
 have hu:=ht.1 rfl;have bg:∀e∈u,El p W.length e:=λe he=>(gS_el lz).1 (hu.1 e he);obtain⟨wu,au,ru,rfl,dt⟩:=hU;have hU:FII (.fz wu au u.length ru) u:=⟨wu,au,ru,rfl,dt⟩;simp only[Z3,seval,-ae];refine zG (λm us h=>∃(i:Nat) (vL:PV) (rows:List PV),i<=u.length/\m=u.length-i/\us=[.ptr σ.next 0,vL,.fz wu au u.length ru,.int .i64 u.length,.int .i64 i]/\Keep H h/\PAcc H.next 1 h vL i rows/\All2 FI rows ((u.take i).map λe=>ptG p W.length W B e W.length)) u.length ?_ ?_
 .exact⟨0,_,[],by omega,by omega,rfl,Keep.refl _,PAcc.nil _ _ _,by simpa using All2.nil _⟩
 rintro m us h ⟨i,vL,rows,hi,rfl,rfl,dR,ha,an⟩
 simp only[Z3,seval,-ae];refine iteI (λah=>?_) λaG=>?_;rotate_left
 .have aK:i=u.length:=by omega
  subst aK;rw[List.take_length]at an;have eL:Els p W.length (u.map λe=>ptG p W.length W B e W.length):=λx hx=>by
   obtain⟨e,_,rfl⟩:=List.mem_map.1 hx;exact pt_el lz e
  have fin:∀{g:PHeap} {v:PV} {Q:PV->PHeap->Prop},Keep H g->FII v (u.map λe=>ptG p W.length W B e W.length)->(∀w,Gh σ K (.tup [w,.int .i64 0]) g->Q w g)->zA Tryz.prog 109 [.ptr σ.next 0,v] g Q:=λ{g v Q} kg hv hQ=>
   zA4 (fA.keep kg) hR.P o lz.hp hv eL (by rw[List.length_map];omega) λv' out c hO=>hQ _ (Gh.fin0 (bV.trans kg) ⟨hO.bel _,trivial,trivial⟩ (hk v' out 0 (.inr (.inr ⟨hc,hu,c,rfl⟩)) hO))
  rcases ha with ⟨rfl,h1,h2⟩|⟨t,cap,rfl,jv,q2,q3,q4,q5⟩
  .have rU:u=[]:=List.eq_nil_of_length_eq_zero h1;subst rU;simp only[Z3,seval,-ae];refine fin dR ⟨true,.nils,[],rfl,All2.nil _⟩ λw hg=>?_;simp only[Z3,seval,-ae];exact hg
  .have cW:=fA.lt;have ar:σ.next≠t:=by omega
   simp only[Z3,seval,-ae];refine zA.frz q2 (an.bI 0) λo1=>?_;simp only[sbs,sb,jv.ok,and_self,if_true,ar,false_and,if_false];refine fin (dR.kill q4) ⟨true,_,rows,by rw[List.length_map],an⟩ λw hg=>?_;simp only[Z3,seval,-ae];exact hg
 obtain⟨w4,a4,hr⟩:=dt.rowI ah;have vK:=bg _ (List.getElem_mem ah);simp only[Z3,seval,-ae,ah,hr];refine zA.fzI (λK'=>zHE lz (fA.keep dR) hR vK ⟨w4,a4,rfl⟩) λa2=>?_;simp only[Z3,seval,-ae];refine PAcc.push (bytes:=24) dR ha (by omega) (by omega) λv' h3 k3 a3=>?_;simp only[Z3,seval,-ae,wrapS ah (by omega:u.length<=4611686018427387904)];refine⟨_,by omega,i+1,v',_,by omega,rfl,rfl,k3,a3.acc,?_⟩;rw[List.take_succ_eq_append_getElem ah,List.map_append];exact an.snoc ⟨_,_,rfl⟩
end Go.Proofs
namespace Go.Proofs
open Go.Ab Go.Lie Go.Grp
variable{σ h:PHeap}{K:PV->PHeap->Prop}{p:Int}{n c:Nat}{W:V2}{B:V3}{vP vB vU:PV}{u x:V2}{s:Nat}
def zBE(p:Int)(W:V2)(B:V3)(u:V2):Prop:=∀x∈u,∀y∈u,Gen p W.length W u (at_ (br p W B W.length x y))
def SrR(p:Int)(W:V2)(B:V3)(u z:V2)(c:Int):Prop:=
 (¬(isLie p W B/\Zy p W u)/\z=[]/\c=1)\/((isLie p W B/\Zy p W u)/\¬(isLz p W.length W B/\zBE p W B u)/\z=[]/\c=5)\/
 ((isLie p W B/\Zy p W u)/\(isLz p W.length W B/\zBE p W B u)/\CanG (rO p W.length) (GC (rO p W.length) (lgPs p W.length W B W.length) (lgCs p W.length W B W.length) (u.map λe=>vcG p W.length W B e)) z/\c=0)
theorem zE3(lz:Lz p n W B c)(hu:Els p n u):∀x∈u.map (λe=>vcG p n W B e),gS (rO p n) x:=λx hx=>by
 obtain⟨e,he,rfl⟩:=List.mem_map.1 hx;exact(gS_el lz).2 (vc_el lz (hu e he))
theorem SrR.unique{z z':V2}{c c':Int}(h:SrR p W B u z c)(g:SrR p W B u z' c'):z=z'/\c=c':=by
 rcases h with ⟨h1,h2,h3⟩|⟨h1,h2,h3,h4⟩|⟨h1,h2,h3,h4⟩<;>rcases g with ⟨g1,g2,g3⟩|⟨g1,g2,g3,g4⟩|⟨g1,g2,g3,g4⟩
 .exact⟨by rw[h2,g2],by rw[h3,g3]⟩
 .exact absurd g1 h1
 .exact absurd g1 h1
 .exact absurd h1 g1
 .exact⟨by rw[h3,g3],by rw[h4,g4]⟩
 .exact absurd g2 h2
 .exact absurd h1 g1
 .exact absurd h2 g2
 .obtain⟨cc,lz⟩:=Lz.of h1.1 h2.1;exact⟨h3.unique (lg_LG lz).s (lg_LG lz).F (GC.sub (lg_LG lz).F (zE3 lz h1.2.1)) g3,by rw[h4,g4]⟩
theorem SrR.bd{z:V2}{c:Int}(h:SrR p W B u z c):SzL z:=by
 rcases h with ⟨h1,rfl,h3⟩|⟨h1,h2,rfl,h4⟩|⟨h1,h2,h3,h4⟩
 .exact⟨by simp,λx hx=>by cases hx⟩
 .exact⟨by simp,λx hx=>by cases hx⟩
 .have o:=h1.1.1.w;have h5:=h3.len
  have:=o.le
  simp only[List.length_replicate]at h5;exact⟨by omega,λx hx=>by have:=(h3.one x hx).1.len;simp only[List.length_replicate]at this;omega⟩
theorem zIx(hR:IsR vP vB W B)(dU:SzR W B)(hU:FII vU u)(hJ:SzL u)
  (hk:∀v z c,SrR p W B u z c->FII v z->K (.tup [v,.int .i64 c]) σ):zA Tryz.prog 16 [.agg [.int .i64 p,vP,vB],vU] σ K:=by
 have h1:=hR.P.one;have h2:=hR.B.one;refine zA.gh ?_;refine zD mix Tryz.func16 ?_
 conv=>arg 2;cbv
 refine zF rfl ?_;simp only[Z3,seval,-ae,h1,h2,hU.one,hU.cells];refine zA.frz (s:=σ.next+1) (cs:=[vU]) (by simp only[Z3,seval,-ae]) ⟨hU.bel 0,trivial⟩ λo1=>?_;have aq:Keep σ (((σ.new [.int .i64 p,vP,vB]).new [vU]).kill (σ.next+1)):=((zC σ _).new _).kill (by omega);have hs:PtrR (((σ.new [.int .i64 p,vP,vB]).new [vU]).kill (σ.next+1)) σ.next p vP vB:=⟨by simp only[Z3,seval,-ae],by simp only[Z3,seval,-ae];omega⟩
 generalize ((σ.new [.int .i64 p,vP,vB]).new [vU]).kill (σ.next+1)=T at *
 simp only[sbs,Go.Ab.sb,capOK,and_self,if_true,decide_true,vM];have ie:∀{c:Int},SrR p W B u [] c->Gh σ K (.tup [.fz true .nils 0 [],.int .i64 c]) T:=λ{c} h=>Gh.fin0 aq ⟨trivial,trivial,trivial⟩ (hk _ [] _ h ⟨true,.nils,[],rfl,All2.nil _⟩);refine zCL (us:=[u]) hs hR dU ((All2.nil FII).snoc hU) (by simp) (by simp) (λx hx=>by rw[List.mem_singleton.1 hx];exact hJ) λt ht=>?_;have db:t=true↔isLie p W B/\Zy p W u:=by rw[ht];simp
 clear ht;cases t with
 |false=>
  simp only[Z3,seval,-ae];exact ie (.inl ⟨λe=>(by have:=db.2 e;cases this),rfl,rfl⟩)
 |true=>
 have hl:=db.1 rfl;have o:=hl.1.1.w;have q:=hl.1.1.b;have aN:=o.le;have cq:=hl.2.2.len;simp only[Z3,seval,-ae];refine zEL hs hR o q hl.1.1.1 λt ht=>?_;cases t with
 |false=>
  simp only[Z3,seval,-ae];exact ie (.inr (.inl ⟨hl,λe=>(by have:=ht.2 e.1;cases this),rfl,rfl⟩))
 |true=>
 have hz:=ht.1 rfl;clear ht;simp only[Z3,seval,-ae];refine zAz hs hR o q hU hU hU hl.2.1 hl.2.1 (by omega) (by omega) hl.2.2.base λt ht=>?_;cases t with
 |false=>
  simp only[Z3,seval,-ae];exact ie (.inr (.inl ⟨hl,λe=>(by have:=ht.2 e.2;cases this),rfl,rfl⟩))
 |true=>
 have cI:zBE p W B u:=ht.1 rfl;obtain⟨cc,lz⟩:=Lz.of hl.1 hz;have g:=lg_LG lz;have bg:=hl.2.1;simp only[Z3,seval,-ae];refine zAy lz hs hR λvO vQ vC t f1 f2 f3 ho ht=>?_;have bw:IsPr vO vQ vC (rO p W.length) (lgPs p W.length W B W.length) (lgCs p W.length W B W.length):=⟨f1,f2,f3⟩;have k0:=bw.O.one;have k1:=bw.P.one;have k2:=bw.C.one;obtain⟨wu,au,ru,rfl,dt⟩:=hU;simp only[Z3,seval,-ae,k0,k1,k2];have bV:Keep σ ((T.new [vO,vQ,vC]).up t):=aq.trans ((zC T _).up ht);have fA:PtrR ((T.new [vO,vQ,vC]).up t) σ.next p vP vB:=hs.keep ((zC T _).up ht);have rF:PtrG ((T.new [vO,vQ,vC]).up t) T.next vO vQ vC:=⟨by simp only[Z3,seval,-ae],Nat.lt_succ_self _⟩
 generalize (T.new [vO,vQ,vC]).up t=H at *
 refine zG (λm us h=>∃(i:Nat) (vL:PV) (rows:List PV),i<=u.length/\m=u.length-i/\us=[.ptr σ.next 0,.ptr T.next 0,vL,.fz wu au u.length ru,.int .i64 u.length,.int .i64 i]/\Keep H h/\PAcc H.next 1 h vL i rows/\All2 FI rows ((u.take i).map λe=>vcG p W.length W B e)) u.length ?_ ?_
 .exact⟨0,_,[],by omega,by omega,rfl,Keep.refl _,PAcc.nil _ _ _,by simpa using All2.nil _⟩
 rintro m us h ⟨i,vL,rows,hi,rfl,rfl,dR,ha,an⟩
 simp only[Z3,seval,-ae];refine iteI (λah=>?_) λaG=>?_;rotate_left
 .have aK:i=u.length:=by omega
  subst aK;rw[List.take_length]at an;have fin:∀{g':PHeap} {v:PV} {Q:PV->PHeap->Prop},Keep H g'->FII v (u.map λe=>vcG p W.length W B e)->(∀w,Gh σ K (.tup [w,.int .i64 0]) g'->Q w g')->zA Tryz.prog 96 [.ptr T.next 0,v] g' Q:=λ{g' v Q} kg hv hQ=>
   zDJ g (rF.keep kg) bw hv (zE3 lz bg) (by rw[List.length_map];omega) λv' z eg cG=>hQ _ (Gh.fin0 (bV.trans kg) ⟨eg.bel _,trivial,trivial⟩ (hk v' z 0 (.inr (.inr ⟨hl,⟨hz,cI⟩,cG,rfl⟩)) eg))
  rcases ha with ⟨rfl,h1,h2⟩|⟨t,cap,rfl,jv,q2,q3,q4,q5⟩
  .have rU:u=[]:=List.eq_nil_of_length_eq_zero h1;subst rU;simp only[Z3,seval,-ae];refine fin dR ⟨true,.nils,[],rfl,All2.nil _⟩ λw hg=>?_;simp only[Z3,seval,-ae];exact hg
  .have cW:=rF.lt;have ar:T.next≠t:=by omega
   simp only[Z3,seval,-ae];refine zA.frz q2 (an.bI 0) λo1=>?_;simp only[sbs,sb,jv.ok,and_self,if_true,ar,false_and,if_false];refine fin (dR.kill q4) ⟨true,_,rows,by rw[List.length_map],an⟩ λw hg=>?_;simp only[Z3,seval,-ae];exact hg
 obtain⟨w4,a4,hr⟩:=dt.rowI ah;have vK:=bg _ (List.getElem_mem ah);have eF:(vcG p W.length W B u[i]).length=W.length:=zHQ;simp only[Z3,seval,-ae,ah,hr];refine zA.fz (e:=1) (λK'=>zAx lz (fA.keep dR) hR vK ⟨w4,a4,rfl⟩) (zL _ _) λo cap=>?_;simp only[Z3,seval,-ae];refine PAcc.push (bytes:=24) dR ha (by omega) (by omega) λv' h3 k3 a3=>?_;simp only[Z3,seval,-ae,wrapS ah (by omega:u.length<=4611686018427387904)];refine⟨_,by omega,i+1,v',_,by omega,rfl,rfl,k3,a3.acc,?_⟩;rw[List.take_succ_eq_append_getElem ah,List.map_append];exact an.snoc ⟨_,_,by rw[eF]⟩
theorem zPE(hR:IsR vP vB W B)(dU:SzR W B)(hU:FII vU u)(hJ:SzL u)
  (hk:∀v z c,SrR p W B u z c->FII v z->K (.tup [v,.int .i64 c]) σ):zA Tryz.prog 13 [.agg [.int .i64 p,vP,vB],vU] σ K:=by
 have h1:=hR.P.one;have h2:=hR.B.one;refine zA.gh ?_;refine zN mix Tryz.func13 cf13 rfl ?_;dsimp only[if13,eI,qD,eD,mI0,kI0,LI0,bI0,cI0,nI0,sI0,C1,C2,mD0,lD0,xD0,G0,gm0,zI0,R0,S0];simp only[Z3,seval,-ae,h1,h2];have aq:Keep σ (σ.new [.int .i64 p,vP,vB]):=zC _ _;have jW:(σ.new [.int .i64 p,vP,vB]).rd σ.next 0 3=some [.int .i64 p,vP,vB]:=by simp only[Z3,seval,-ae]
 have Ck:σ.next<(σ.new [.int .i64 p,vP,vB]).next:=Nat.lt_succ_self _;generalize σ.new [.int .i64 p,vP,vB]=H at *
 have ie:∀{c:Int},SrR p W B u [] c->Gh σ K (.tup [.fz true .nils 0 [],.int .i64 c]) H:=λ{c} h=>Gh.fin0 aq ⟨trivial,trivial,trivial⟩ (hk _ [] _ h ⟨true,.nils,[],rfl,All2.nil _⟩);refine zKD hR dU hU hJ λt db=>?_;cases t with
 |false=>
  simp only[Z3,seval,-ae];exact ie (.inl ⟨λe=>(by have:=db.2 e;cases this),rfl,rfl⟩)
 |true=>
 have hl:=db.1 rfl;have o:=hl.1.1.w;have q:=hl.1.1.b;have aN:=o.le;have cq:=hl.2.2.len;have hp:=hl.1.1.1;simp only[Z3,seval,-ae,jW];refine zEd hR o q hp λt ht=>?_;cases t with
 |false=>
  simp only[Z3,seval,-ae,jW,h1,h2];exact ie (.inr (.inl ⟨hl,λe=>(by have:=ht.2 e.1;cases this),rfl,rfl⟩))
 |true=>
 have hz:=ht.1 rfl;clear ht;simp only[Z3,seval,-ae,jW,h1,h2];refine Qd hR o q hp hU hU hl.2.1 hl.2.1 (by omega) (by omega) λvb y cy hY=>?_;have dz:=cy.len;simp only[Z3,seval,-ae,jW,h1,h2];refine zH9 hR o hU hl.2.2.base hY cy.els (by omega) λt ht=>?_;replace ht:t=true↔zBE p W B u:=ht.trans ⟨λh a ha b hb=>qw h ((cy.gen _).1 (zQ (Q0.2 ⟨a,ha,b,hb,rfl⟩))),λh x hx=>by
  refine qw (λz hz=>?_) ((cy.gen _).2 (zQ hx));obtain⟨a,ha,b,hb,rfl⟩:=Q0.1 hz;exact h a ha b hb⟩
 cases t with
 |false=>
  simp only[Z3,seval,-ae,jW,h1,h2];refine ie (.inr (.inl ⟨hl,λe=>?_,rfl,rfl⟩))
  have:=ht.2 e.2
  cases this
 |true=>
 have cI:zBE p W B u:=ht.1 rfl;obtain⟨cc,lz⟩:=Lz.of hl.1 hz;have g:=lg_LG lz;have bg:=hl.2.1;obtain⟨wu,au,ru,rfl,dt⟩:=hU;have iF:∀{h:PHeap},Keep H h->h.rd σ.next 0 3=some [.int .i64 p,vP,vB]:=λ{h} k=>by rw[k.rd Ck];exact jW
 simp only[Z3,seval,-ae,jW,h1,h2];refine zG (λm us h=>∃(i:Nat) (vL:PV) (rows:List PV),i<=u.length/\m=u.length-i/\us=[.fz wu au u.length ru,.ptr σ.next 0,vL,.int .i64 i]/\Keep H h/\PSl H.next 1 h vL i rows/\All2 FI rows ((u.take i).map λe=>vcG p W.length W B e)) u.length ?_ ?_
 .exact⟨0,_,[],by omega,by omega,rfl,zC _ _,PSl.new _ 1 rfl (vM _),by simpa using All2.nil _⟩
 rintro m us h ⟨i,vL,rows,hi,rfl,rfl,dR,ha,an⟩
 have l3:=iF dR;simp only[Z3,seval,-ae];refine iteI (λah=>?_) λaG=>?_;rotate_left
 .have aK:i=u.length:=by omega
  subst aK;rw[List.take_length]at an;obtain⟨t,cap,rfl,jv,q2,q3,q4,q5⟩:=ha;simp only[Z3,seval,-ae,l3];refine zEE lz hR λvO vQ vC f1 f2 f3=>?_;have bw:IsPr vO vQ vC (rO p W.length) (lgPs p W.length W B W.length) (lgCs p W.length W B W.length):=⟨f1,f2,f3⟩;simp only[Z3,seval,-ae,l3];refine zA.frz q2 (an.bI 0) λo1=>?_;simp only[sbs,sb,jv.ok,and_self,if_true,bw.O.sb,bw.P.sb,bw.C.sb];refine zEH g bw ⟨true,_,rows,by rw[List.length_map],an⟩ ⟨by rw[List.length_map];omega,λx hx=>by have:=(zE3 lz bg x hx).len;simp only[List.length_replicate]at this;omega⟩ (zE3 lz bg) λv' z eg cG=>?_;simp only[Z3,seval,-ae];exact Gh.fin0 (aq.trans (dR.kill q4)) ⟨eg.bel _,trivial,trivial⟩ (hk v' z 0 (.inr (.inr ⟨hl,⟨hz,cI⟩,cG,rfl⟩)) eg)
 obtain⟨w4,a4,hr⟩:=dt.rowI ah;have vK:=bg _ (List.getElem_mem ah);simp only[Z3,seval,-ae,ah,hr,l3];refine zBU lz hR vK ⟨w4,a4,rfl⟩ λv2 f4=>?_;have y1:=f4.one;have y2:=f4.cells;simp only[Z3,seval,-ae,y1,y2,ah,hr,l3];refine PSl.push (bytes:=24) (σb:=H) dR ha (by omega) (by omega) λv' h3 k3 a3=>?_;simp only[Z3,seval,-ae,wrapS ah (by omega:u.length<=4611686018427387904)];refine⟨_,by omega,i+1,v',_,by omega,rfl,rfl,k3,a3,?_⟩;rw[List.take_succ_eq_append_getElem ah,List.map_append];exact an.snoc f4
end Go.Proofs
set_option linter.unusedSectionVars false
namespace Go.Proofs
open Go.Ab Go.Lie
variable{σ h:PHeap}{K:PV->PHeap->Prop}{vC vP vB:PV}{bs:V1}{s b n:Nat}{p:Int}{W:V2}{B:V3}{c:V2}
theorem zGK(so:So σ s vC bs)(hR:IsR vP vB W B)(dr:DrR p W B)
  (hk:∀v xs h,FII v xs->xs.length<=6->(∀x∈xs,x.length<=7)->Mv σ s h->So h s vC bs->K v h):zA Tryz.prog 140 [.ptr s 0,.agg [.int .i64 p,vP,vB]] σ K:=by
 have g1:=hR.P.one;have g2:=hR.B.one;have fE:=hR;have bK:=so.lt;have Ma:=dr.wl;have yo:=dr.p;have cV:=dr.sz;obtain⟨⟨wp,ap,rp,rfl,jf⟩,Dk⟩:=hR;refine zA.gh ?_;generalize hT:σ.new [.int .i64 p,.fz wp ap W.length rp,vB]=T;have cJ:T.next=σ.next+1:=by rw[<-hT];rfl
 have cg:Keep σ T:=by rw[<-hT];exact zC σ _
 have dp:So T s vC bs:=so.keep cg;have bQ:s<T.next:=dp.lt;have fU:T.obj σ.next=some [.int .i64 p,.fz wp ap W.length rp,vB]:=by rw[<-hT];simp only[Z3,seval,-ae]
 have jS:∀{g:PHeap},KM T s g->g.rd σ.next 0 3=some [.int .i64 p,.fz wp ap W.length rp,vB]/\g.rd1 σ.next 1=some (.fz wp ap W.length rp):=λ{g} k=>by
  have ob:=k.obj (t:=σ.next) (by omega) (by omega);rw[fU]at ob;exact⟨by rw[ze ob];rfl,by rw[zI ob];rfl⟩
 have fin:∀{g:PHeap} {v:PV} {xs:V2},KM T s g->So g s vC bs->FII v xs->xs.length<=6->(∀x∈xs,x.length<=7)->Gh σ K v g:=λ{g v xs} km sg hv hl hx=>by
  refine Gh.km ((so.kmK cg).trans bK km) sg bK λσ' m' cU kp=>?_;exact Gh.fin0 kp (hv.bel _) (hk v xs σ' hv hl hx m' cU)
 have A2:KM T s T:=dp.kmK (Keep.refl T);have mi:=(jS A2).1;refine zD mix Tryz.func140 ?_
 conv=>arg 2;cbv
 refine zF rfl ?_;simp only[Z3,seval,-ae,g1,g2];rw[hT];simp only[Z3,seval,-ae,mi];refine zAC fE cV λt ht=>?_;cases t with
 |false=>
  simp only[Z3,seval,-ae,mi];refine zCb dp fE (by omega) (by omega) λv xs h1 hv aW H8 m1 dP=>?_;simp only[Z3,seval,-ae];exact fin (A2.mv bQ m1) dP hv (by omega) λx hx=>by have:=H8 x hx;omega
 |true=>
 have hl:=ht.1 rfl;have o:=hl.1.w;have q:=hl.1.b;have aN:=o.le;simp only[Z3,seval,-ae,mi];refine zCb dp fE (by omega) (by omega) λvG gs h1 hG jI sU m1 dP=>?_;have iZ:=A2.mv bQ m1;have rd1:=(jS iZ).1;have xU:SzL gs:=⟨by omega,λx hx=>by have:=sU x hx;omega⟩
 have Ft:∀x∈gs,x.length<=7:=λx hx=>by have:=sU x hx;omega
 simp only[Z3,seval,-ae,rd1];refine Qc fE hG xU o.pr λt gQ=>?_;cases t with
 |false=>
  simp only[Z3,seval,-ae,rd1];exact fin iZ dP hG (by omega) Ft
 |true=>
 have he:=gQ.1 rfl;have nG:∀{xs:V2},Els p W.length xs->∀x∈xs,x.length<=7:=λ{xs} h x hx=>by rw[(h x hx).1];omega
 simp only[Z3,seval,-ae];refine zw dP (by decide) λy h2 hy m2 dy=>?_;have gk:=iZ.mv bQ m2;by_cases sF:y=0
 .simp only[Z3,seval,-ae,sF,decide_true];exact fin gk dy hG (by omega) Ft
 simp only[Z3,seval,-ae,sF,decide_false];refine zw dy (by decide) λz h3 hz m3 dO=>?_;have eY:=gk.mv bQ m3;have jy:=(jS eY).1;have tw:=(jS eY).2;by_cases ck:z=0
 .simp only[Z3,seval,-ae,ck,decide_true,jy];refine Qb fE o hl.1.1 hG he xU.l λv out c hv=>?_;simp only[Z3,seval,-ae];exact fin eY dO hv (by have:=c.len;omega) (nG c.els)
 by_cases cE:z=1
 .simp only[Z3,seval,-ae,ck,cE,decide_true,decide_false,jy];refine zFW fE o q hl.2 hl.1.1 hG he xU.l λv out c hv=>?_;simp only[Z3,seval,-ae];exact fin eY dO hv (by have:=c.len o;omega) (nG c.base.els)
 by_cases cf:z=2
 .simp only[Z3,seval,-ae,ck,cE,cf,decide_true,decide_false,jy,tw];refine Qi fE rfl (by omega) λvW hW=>?_;obtain⟨ww,aw,xX,rfl,eJ⟩:=hW;have wn:IntKind.i64.wrap ((W.length:Int)+1)=(W.length:Int)+1:=wrap64 (by omega) (by omega);simp only[Z3,seval,-ae,tw,wn];refine zw dO (by omega) λc h4 hc m4 dV=>?_;have ig:=eY.mv bQ m4;have G4:=(jS ig).1;have AA:=(jS ig).2;have cD:=hc.1;have oE:c<(W.length:Int)+1:=hc.lt (by omega);obtain⟨k,rfl⟩:=Int.eq_ofNat_of_zero_le cD;have bF:k<=W.length:=by omega
  have cq:=qG (n:=W.length);have dZ:((units W.length).drop k).length=W.length-k:=by rw[List.length_drop,cq]
  have jd:(xX.drop k).take (W.length-k)=xX.drop k:=List.take_of_length_le (by rw[List.length_drop,eJ.1,cq];omega);have bZ:k<=(units W.length).length:=by omega
  simp only[Z3,seval,-ae,G4,AA,cq,bF,jd,bZ];refine fin ig dV (xs:=(units W.length).drop k) ⟨false,pslA 1 aw k W.length,xX.drop k,by rw[dZ],eJ.drop k⟩ (by omega) (nG λx hx=>ZW o.pr x (List.mem_of_mem_drop hx))
 .simp only[Z3,seval,-ae,ck,cE,cf,decide_false,jy];refine zJj fE o q hl.2 hl.1.1 hG he xU.l λv out c hv=>?_;simp only[Z3,seval,-ae];exact fin eY dO hv (by have:=c.len o;omega) (nG c.base.els)
end Go.Proofs
namespace Go.Proofs
open Go.Ab Go.Lie Go.Grp
variable{σ:PHeap}{K:PV->PHeap->Prop}{p:Int}{W:V2}{B:V3}{vP vB vL vU vC:PV}{s:Nat}{u gens:V2}{x bs:V1}
theorem zKC(hR:IsR vP vB W B)(dU:SzR W B)(hl:isLie p W B)
  (hk:∀w z,CzL p W B (units W.length) z->FII w z->K (.tup [w,.int .i64 0]) σ):zA Tryz.prog 51 [.agg [.int .i64 p,vP,vB]] σ K:=by
 have h1:=hR.P.one;have h2:=hR.B.one;refine zA.gh ?_;refine zD mix Tryz.func51 ?_
 conv=>arg 2;cbv
 refine zF rfl ?_;simp only[Z3,seval,-ae,h1,h2];have aq:Keep σ (σ.new [.int .i64 p,vP,vB]):=zC σ _;have gT:PtrR (σ.new [.int .i64 p,vP,vB]) σ.next p vP vB:=⟨by simp only[Z3,seval,-ae],Nat.lt_succ_self _⟩
 have bJ:(σ.new [.int .i64 p,vP,vB]).rd σ.next 0 3=some [.int .i64 p,vP,vB]:=by simp only[Z3,seval,-ae]
 generalize σ.new [.int .i64 p,vP,vB]=H at *
 simp only[Z3,seval,-ae,bJ];refine zBW hR dU λt ht=>?_;obtain rfl:t=true:=ht.2 hl;clear ht;have o:=hl.1.w;have q:=hl.1.b;have aN:=o.le;have dA:=hl.1.1.bd;obtain⟨P,hP⟩:=Int.eq_ofNat_of_zero_le (show 0<=p by omega);have sK:P ^ W.length<=729:=by
  have h:=hl.1.2.2.2.1;rw[hP,ipowN]at h;omega
 simp only[Z3,seval,-ae];refine zAa gT hR.P rfl (by omega) λvW hW=>?_;simp only[Z3,seval,-ae];refine zJf gT hR o q hl.1.1 hP sK zP1 hW (ZW o.pr) (by rw[qG];omega) .nil λw z L c hL hz=>?_;simp only[Z3,seval,-ae];refine Gh.fin0 aq ⟨hz.bel _,trivial,trivial⟩ (hk w z ⟨P,L,hP,c,λx=>?_⟩ hz);rw[hL];refine and_congr_right λhx=>forall_congr' λb=>forall_congr' λhb=>?_;exact zEM o (br_el o q)
theorem zKB(hR:IsR vP vB W B)(dU:SzR W B)(hl:isLie p W B)
  (hk:∀w z,CzL p W B (units W.length) z->FII w z->K (.tup [w,.int .i64 0]) σ):zA Tryz.prog 52 [.agg [.int .i64 p,vP,vB]] σ K:=by
 have h1:=hR.P.one;have h2:=hR.B.one;refine zA.gh ?_;refine zN mix Tryz.func52 cf52 rfl ?_;dsimp only[if52,eI,qD,eD,kI0,LI0,nI0,C1,mD0,I0,zI0,R0,S0];simp only[Z3,seval,-ae,h1,h2];have aq:Keep σ (σ.new [.int .i64 p,vP,vB]):=zC σ _;have bJ:(σ.new [.int .i64 p,vP,vB]).rd σ.next 0 3=some [.int .i64 p,vP,vB]:=by simp only[Z3,seval,-ae]
 have gZ:(σ.new [.int .i64 p,vP,vB]).next=σ.next+1:=rfl;generalize σ.new [.int .i64 p,vP,vB]=H at *
 simp only[Z3,seval,-ae,bJ];refine zAC hR dU λt ht=>?_;obtain rfl:t=true:=ht.2 hl;clear ht;have o:=hl.1.w;have q:=hl.1.b;have aN:=o.le;have dA:=hl.1.1.bd;obtain⟨P,hP⟩:=Int.eq_ofNat_of_zero_le (show 0<=p by omega);have sK:P ^ W.length<=729:=by
  have h:=hl.1.2.2.2.1;rw[hP,ipowN]at h;omega
 have uR:(H.new []).rd σ.next 0 3=some [.int .i64 p,vP,vB]:=by rw[(zC H _).rd (by omega)];exact bJ
 simp only[Z3,seval,-ae,bJ,uR];refine Qi hR rfl (by omega) λvW hW=>?_;simp only[Z3,seval,-ae,bJ,uR,zD9,List.nil_append];refine zA.frz (s:=H.next) (cs:=[]) (by rw[zP,if_pos rfl]) trivial λo1=>?_;have e1:=hR.P.sb H.next o1 [];have e2:=hR.B.sb H.next o1 [];have e3:=hW.sb H.next o1 [];simp only[sbs,Go.Ab.sb,capOK,and_self,if_true,decide_true,vM,e1,e2,e3];have k1:Keep H ((H.new []).kill H.next):=(zC H _).kill (vM _);refine zJl hR o q hl.1.1 hP sK hW (ZW o.pr) (by rw[qG];omega) ⟨true,_,[],rfl,All2.nil _⟩ .nil λw z L c hL hz=>?_;simp only[Z3,seval,-ae];refine Gh.fin0 (aq.trans k1) ⟨hz.bel _,trivial,trivial⟩ (hk w z ⟨P,L,hP,c,λx=>?_⟩ hz);rw[hL];refine and_congr_right λhx=>forall_congr' λb=>forall_congr' λhb=>?_;exact zEM o (br_el o q)
theorem zBX(hb:FB vC bs)(hB:Byt bs)(hk:∀p vP vB W B vU u,DrR p W B->IsR vP vB W B->FII vU u->SzL u->K (.tup [.agg [.int .i64 p,vP,vB],vU]) σ):zA Tryz.prog 48 [vC] σ K:=by
 refine zA.gh ?_;generalize hT:σ.new [.int .i64 0,.fz true .nils 0 [],.fz true .nils 0 []]=T;have cJ:T.next=σ.next+1:=by rw[<-hT];rfl
 have cg:Keep σ T:=by rw[<-hT];exact zC σ _
 have fU:T.obj σ.next=some [.int .i64 0,.fz true .nils 0 [],.fz true .nils 0 []]:=by rw[<-hT];simp only[Z3,seval,-ae]
 refine zD mix Tryz.func48 ?_
 conv=>arg 2;cbv
 refine zF rfl ?_;simp only[Z3,seval,-ae,hb.one];rw[hT];refine zLi hb hB λsd uJ=>?_;have dP:So (T.new (srcC vC 0 sd)) T.next vC bs:=⟨0,sd,by rw[zP,if_pos rfl],Nat.lt_succ_self _,hb,hB,Nat.zero_le _,uJ⟩
 have iZ:KM (T.new (srcC vC 0 sd)) T.next (T.new (srcC vC 0 sd)):=dP.km;have HU:Keep T (T.new (srcC vC 0 sd)):=zC _ _;have dF:T.next<(T.new (srcC vC 0 sd)).next:=Nat.lt_succ_self _;generalize hU:T.new (srcC vC 0 sd)=U at *
 have MN:U.next=T.next+1:=by rw[<-hU];rfl
 simp only[Z3,seval,-ae];refine zJg dP λp vP vB W B h2 d hR m2 dy=>?_;have gk:=iZ.mv dF m2;have g1:=hR.P.one;have g2:=hR.B.one;have Kw:=gk.next;have dO:So (h2.new [.int .i64 p,vP,vB]) T.next vC bs:=dy.keep (zC _ _);have eY:KM U T.next (h2.new [.int .i64 p,vP,vB]):=gk.new _;have B9:(h2.new [.int .i64 p,vP,vB]).obj h2.next=some [.int .i64 p,vP,vB]:=by simp only[Z3,seval,-ae]
 have jy:∀{g:PHeap},KM (h2.new [.int .i64 p,vP,vB]) T.next g->g.rd h2.next 0 3=some [.int .i64 p,vP,vB]:=λ{g} k=>by
  have ob:=k.obj (t:=h2.next) (Nat.lt_succ_self _) (by omega);rw[B9]at ob;rw[ze ob];rfl
 have fin:∀{g:PHeap},KM (h2.new [.int .i64 p,vP,vB]) T.next g->g.wr σ.next 0 [.int .i64 p,vP,vB]=some (g.set σ.next [.int .i64 p,vP,vB])/\(g.set σ.next [.int .i64 p,vP,vB]).rd σ.next 0 3=some [.int .i64 p,vP,vB]/\Keep σ (g.set σ.next [.int .i64 p,vP,vB])/\(g.set σ.next [.int .i64 p,vP,vB]).rd h2.next 0 3=some [.int .i64 p,vP,vB]:=λ{g} k=>by
  have HM:KM U T.next g:=eY.trans dF k;have CZ:Keep T g:=HM.keepOf HU (vM _);have aI:g.obj σ.next=some [.int .i64 0,.fz true .nils 0 [],.fz true .nils 0 []]:=by rw[CZ.obj _ (by omega)];exact fU
  have:=CZ.next
  exact⟨by rw[qC aI,if_pos ⟨by simp,by simp only[List.all_cons,List.all_nil,g1,g2];rfl⟩];rfl,by rw[qh,if_pos rfl];rfl,(cg.trans CZ).set (vM _) _,by rw[qh,if_neg (by omega)];exact jy k⟩
 have sz:=d.sz;have dA:=d.p;have mO:=d.wl;have sH:T.next<(h2.new [.int .i64 p,vP,vB]).next:=dO.lt;have tail:∀{g:PHeap},KM (h2.new [.int .i64 p,vP,vB]) T.next g->So g T.next vC bs->∀{Q:PV->PHeap->Prop},(∀vU u g',FII vU u->SzL u->KM (h2.new [.int .i64 p,vP,vB]) T.next g'->Q vU g')->zA Tryz.prog 140 [.ptr T.next 0,.agg [.int .i64 p,vP,vB]] g Q:=λ{g} k GR {Q} hq=>
  zGK GR hR d λv xs h hv hl hx m so=>hq v xs h hv ⟨by omega,λx df=>by have:=hx x df;omega⟩ (k.mv sH m)
 simp only[Z3,seval,-ae,g1,g2];generalize hG:h2.new [.int .i64 p,vP,vB]=G at *
 refine zw dO (by decide) λc h4 hc m4 dV=>?_;have ig:=dO.km.mv sH m4;have r4:=jy ig;have cD:=hc.1;have rest:∀{E:Prop},E->E:=λh=>h;by_cases yA:c > 0;rotate_left
 .simp only[Z3,seval,-ae,yA,decide_false,r4];refine tail ig dV λvU u g' hu su kg=>?_;obtain⟨x1,x2,x3,x4⟩:=fin kg;have r5:=jy kg;simp only[Z3,seval,-ae,x1,x2,r5,x4,g1,g2];exact Gh.fin0 x3 ⟨⟨trivial,hR.P.bel _,hR.B.bel _,trivial⟩,hu.bel _,trivial⟩ (hk p vP vB W B vU u d hR hu su)
 simp only[Z3,seval,-ae,yA,decide_true,r4];refine zAC hR sz λt ht=>?_;cases t with
 |false=>
  simp only[Z3,seval,-ae,r4];refine tail ig dV λvU u g' hu su kg=>?_;obtain⟨x1,x2,x3,x4⟩:=fin kg;have r5:=jy kg;simp only[Z3,seval,-ae,x1,x2,r5,x4,g1,g2];exact Gh.fin0 x3 ⟨⟨trivial,hR.P.bel _,hR.B.bel _,trivial⟩,hu.bel _,trivial⟩ (hk p vP vB W B vU u d hR hu su)
 |true=>
 have hl:=ht.1 rfl;clear ht;have o:=hl.1.w;simp only[Z3,seval,-ae,r4];refine zCb dV hR (by omega) (by omega) λvL gens h6 EC jI sU m6 Au=>?_;have tO:=ig.mv sH m6;have r6:=jy tO;simp only[Z3,seval,-ae,r6];refine Qc hR EC ⟨by omega,λx hx=>by have:=sU x hx;omega⟩ o.pr λt ht=>?_;cases t with
 |false=>
  simp only[Z3,seval,-ae,r6];refine tail tO Au λvU u g' hu su kg=>?_;obtain⟨x1,x2,x3,x4⟩:=fin kg;have r5:=jy kg;simp only[Z3,seval,-ae,x1,x2,r5,x4,g1,g2];exact Gh.fin0 x3 ⟨⟨trivial,hR.P.bel _,hR.B.bel _,trivial⟩,hu.bel _,trivial⟩ (hk p vP vB W B vU u d hR hu su)
 |true=>
 have he:=ht.1 rfl;simp only[Z3,seval,-ae,r6];refine zFW hR o hl.1.b hl.2 hl.1.1 EC he (by omega) λvU u hu fu=>?_;obtain⟨x1,x2,x3,x4⟩:=fin tO;have cq:=hu.toGrw.len o;have aN:=o.le;simp only[Z3,seval,-ae,x1,x2,r6,x4,g1,g2];exact Gh.fin0 x3 ⟨⟨trivial,hR.P.bel _,hR.B.bel _,trivial⟩,fu.bel _,trivial⟩ (hk p vP vB W B vU u d hR fu ⟨by omega,λx hx=>by have:=(hu.base.els x hx).1;omega⟩)
end Go.Proofs
namespace Go.Proofs.YtgkbfiilhocioaaGreat
open Go.ChangeShapes Go.WideShapes Go.ChangeAt Go.RowKit Go.Ab Go.Joins Go.Lie Go.Proofs
variable{H:Type}{enc:TypeId×Value->H}{W w0:World}{j:Inj}{h:AHeap}
theorem cell8:Tryz.prog.cellsOf 5=1:=by kernel_rfl
theorem lay8:Lay1 enc Tryz.prog W 5 (λpv (n:Int)=>pv=.int .u8 n/\0<=n/\n<=255):=by
 intro w0 j h held fuel v x m hx;obtain⟨n,hn,_,hw⟩:=DataW.trod_int Tryz.underlying5 hx;simp only[List.cons.injEq,and_true]at hn;subst hn;simp only[Lit.wf,Bool.and_eq_true,decide_eq_true_eq]at hw;have h1:IntKind.u8.min=0:=by rfl
 have h2:IntKind.u8.max=255:=by rfl
 rw[h1,h2]at hw;exact⟨j,h,.int .u8 n,n,m,Inj.le.refl _,Ext.refl m.wf,rfl,trivial,rfl,rfl,hw.1,hw.2⟩
theorem FL.bytes{v:PV}{xs:V1}(h:FL (λpv (n:Int)=>pv=.int .u8 n/\0<=n/\n<=255) v xs):FB v xs:=by
 obtain⟨w,a,rows,rfl,hr⟩:=h;refine⟨w,a,?_⟩;congr 1;apply List.ext_getElem?;intro k;rw[List.getElem?_map];rcases Nat.lt_or_ge k xs.length with x|x
 .obtain⟨pv,h1,h2⟩:=hr.get x;rw[h1,gi x,h2.1];rfl
 .rw[List.getElem?_eq_none (by rw[hr.1];exact x),List.getElem?_eq_none x];rfl
theorem layB:Lay1 enc Tryz.prog W 37 (λv (xs:V1)=>FB v xs/\∀b∈xs,0<=b/\b<=255):=by
 intro w0 j h held fuel v x m hx;obtain⟨j',h',pv,a,g1,g2,g3,g4,g5,g6,g7,g8⟩:=zNE Tryz.underlying37 cell8 lay8 w0 j h held fuel v x m hx;exact⟨j',h',pv,a,g1,g2,g3,g4,g5,g6,FL.bytes g7,g7.all λ_ _ k=>k.2⟩
end Go.Proofs.YtgkbfiilhocioaaGreat
