/- Proofs that a group splits: the program's contract. -/
import Derived.Test.YtjlpbpfaihhamaaGreatBP45
import Derived.Test.YtjlpbpfaihhamaaGreatBP44
import Derived.Test.YtjlpbpfaihhamaaGreatBP30
import Derived.Test.YtjlpbpfaihhamaaGreatBP43
open Int renaming reduceNatCast'→iQ0
set_option maxRecDepth 100000
namespace Go.Grp
end Go.Grp
set_option linter.unusedSimpArgs false
set_option linter.unusedVariables false
set_option linter.unusedSectionVars false
namespace Go.Ab
theorem PAcc.fin2T {σ0 h:PHeap} {K:PV→PHeap→Prop} {b e n:Nat} {v:PV} {cs:List PV} {kk:IntKind} {r:Int} (hk:Keep σ0 h) (hb0:σ0.next≤b) (a:PAcc b e h v n cs) (hb:Bels 0 cs)
  (k:∀a t,h.top≤t→K (.tup [.fz true a n cs,.int kk r]) (σ0.up t)):Gh σ0 K (.tup [v,.int kk r]) h:=by
 rcases a with ⟨rfl,rfl,rfl⟩|⟨s,cap,rfl,hc,q2,q3,q4,q5⟩
 ·exact Gh.fin0T hk (Nat.le_refl _) ⟨trivial,trivial,trivial⟩ fun _=>k _ h.top (Nat.le_refl _)
 ·refine Gh.freeze q2 (by omega) hb fun o h1 hc' _=>?_
  simp only [sb,sbs];rw [if_pos ⟨trivial,trivial,hc.ok⟩];exact Gh.fin0T (t:=max h.top (o+1)) ((hk.kill (by omega)).up (by simp only [PHeap.kill];omega)) (Nat.le_refl _) ⟨trivial,trivial,trivial⟩ fun w=>k _ _ (by omega)
end Go.Ab
namespace Go.Proofs
open Go.Ab Go.Lie Go.Grp Go.Lat
variable {σ h:PHeap} {K:PV→PHeap→Prop} {O x y:List Int} {P:List (List Int)} {C:List (List (List Int))} {u v w:List (List Int)} {vO vP vC vL vU vV vW vx vy:PV} {sp N a b m t d:Nat} {F L:List Nat} {M Z:List (List (List Int))}
def latP (O:List Int) (P:List (List Int)) (C:List (List (List Int))) (M:List (List (List Int))):Prop:=M.Perm ((allM (nEl O) (tbM O P C)).map (seqM O))∧M.Pairwise fun u v=>¬ltS O v u
theorem latP.sub (g:LG O P C) (h:latP O P C M):∀w∈M,qJ O P C w:=fun w hw=>by
 obtain⟨m,h1,rfl⟩:=List.mem_map.1 (h.1.mem_iff.1 hw);exact(zCL g ((zIr (tb g)).sub _ h1)).1
theorem latP.unique (g:LG O P C) (h:latP O P C M) (h':latP O P C Z):M=Z:=
 zCq (lt:=ltS O) (h.1.trans h'.1.symm) h.2 h'.2 fun a ha b hb h1 h2=>zOg g (h.sub g a ha).2 (h.sub g b hb).2 h1 h2
noncomputable def cpl (O:List Int) (P:List (List Int)) (C:List (List (List Int))) (u w:List (List Int)):Bool:=@decide (szU O u*szU O w=ordF O O.length∧TrivM O P C u w) (Classical.propDecidable _)
theorem zNN {t:Bool} (h:t=true↔szU O u*szU O w=ordF O O.length∧TrivM O P C u w):cpl O P C u w=t:=by
 unfold cpl;cases t with
 | true=>exact @decide_eq_true _ (Classical.propDecidable _) (h.1 rfl)
 | false=>exact @decide_eq_false _ (Classical.propDecidable _) fun q=>by cases h.2 q
theorem zG1 (hs:PtrG σ sp vO vP vC) (hR:IsPr vO vP vC O P C) (sz:SzP O P C) (hU:FII vU u) (szu:SzL u)
  (h1:¬((qi O P C∧Cons O P C)∧qJ O P C u)→K (.int .i64 1) σ) (h5:∀g:LG O P C,qJ O P C u→¬NorG O P C u→K (.int .i64 5) σ) (h0:∀g:LG O P C,qJ O P C u→NorG O P C u→K (.int .i64 0) σ):
  zA Tryz.prog 90 [.ptr sp 0,vU] σ K:=by
 have spl:sp<σ.next:=hs.lt;have n1:¬sp=σ.next:=by omega
 have oU:=hU.one;have sU:=hU;obtain⟨wu,au,ru,rfl,hru⟩:=hU;have sbU:∀s o cs,sb s o cs (PV.fz wu au u.length ru)=.fz wu au u.length ru:=fun s o cs=>sU.sb _ _ _
 refine zA.gh ?_;refine zB mix Tryz.func90 ?_;simp only [pwA,seval,-iQ0];have cap1:capOK (.known 1) 1=true:=rfl;refine zA.frz (s:=σ.next) (cs:=[.fz wu au u.length ru]) (by rw [zH,if_pos rfl]) ⟨sU.bel 0,trivial⟩ fun o=>?_
 simp only [sbs,Go.Ab.sb,cap1,and_self,if_true,nm_eq,n1,if_false];have kH:Keep σ ((σ.new [.fz wu au u.length ru]).kill σ.next):=(zC _ _).kill (Nat.le_refl _);generalize (σ.new [.fz wu au u.length ru]).kill σ.next=H at *
 have hsH:=hs.keep kH;refine zGV (LL:=[u]) hsH hR sz (@All2.snoc _ _ FII [] [] _ _ (All2.nil _) sU) (by simp) (fun U hU=>by rw [List.mem_singleton.1 hU];exact szu) fun t ht=>?_
 cases t with
 | false=>
  simp only [pwA,seval,-iQ0];exact Gh.fin0 kH trivial (h1 fun q=>by
   have:=ht.2 ⟨q.1,fun U hU=>by rw [List.mem_singleton.1 hU];exact q.2⟩
   cases this)
 | true=>
 obtain⟨gp,hsub⟩:=ht.1 rfl;have g:LG O P C:=⟨gp.1,gp.2⟩;have su:=hsub u (by simp)
 simp only [pwA,seval,-iQ0];refine zJi g hsH hR sU su fun t hn=>?_
 cases t with
 | false=>
  simp only [pwA,seval,-iQ0];exact Gh.fin0 kH trivial (h5 g su fun q=>by cases hn.2 q)
 | true=>
  simp only [pwA,seval,-iQ0];exact Gh.fin0 kH trivial (h0 g su (hn.1 rfl))
theorem zHO (hR:IsPr vO vP vC O P C) (sz:SzP O P C) (hU:FII vU u) (szu:SzL u) (hk:∀t:Bool,(t=true↔(qi O P C∧Cons O P C)∧qJ O P C u)→K (.bool t) σ):
  zA Tryz.prog 143 [.agg [vO,vP,vC],vU] σ K:=by
 have g0:=hR.O.one;have g1:=hR.P.one;have g2:=hR.C.one;have oU:=hU.one;refine zA.gh ?_;refine zB mix Tryz.func143 ?_;simp only [pwA,seval,-iQ0,g0,g1,g2,oU];refine zJf hR sz fun t ht=>?_
 cases t with
 | false=>
  simp only [pwA,seval,-iQ0];exact Gh.fin0 (zC σ _) trivial (hk false ⟨fun q=>(by cases q),fun q=>by cases ht.2 q.1⟩)
 | true=>
 have g:LG O P C:=⟨(ht.1 rfl).1,(ht.1 rfl).2⟩;simp only [pwA,seval,-iQ0,g0,g1,g2,oU];refine zOk g hR hU szu fun t h2=>?_
 simp only [pwA,seval,-iQ0];exact Gh.fin0 (zC σ _) trivial (hk t ⟨fun q=>⟨ht.1 rfl,h2.1 q⟩,fun q=>h2.2 q.2⟩)
theorem zK8 (hR:IsPr vO vP vC O P C) (sz:SzP O P C) (hU:FII vU u) (szu:SzL u)
  (h1:¬((qi O P C∧Cons O P C)∧qJ O P C u)→K (.int .i64 1) σ) (h5:∀g:LG O P C,qJ O P C u→¬NorG O P C u→K (.int .i64 5) σ) (h0:∀g:LG O P C,qJ O P C u→NorG O P C u→K (.int .i64 0) σ):
  zA Tryz.prog 86 [.agg [vO,vP,vC],vU] σ K:=by
 have g0:=hR.O.one;have g1:=hR.P.one;have g2:=hR.C.one;have oU:=hU.one;refine zA.gh ?_;refine zB mix Tryz.func86 ?_;simp only [pwA,seval,-iQ0,g0,g1,g2,oU];refine zHO hR sz hU szu fun t ht=>?_
 cases t with
 | false=>
  simp only [pwA,seval,-iQ0];exact Gh.fin0 (zC σ _) trivial (h1 fun q=>by cases ht.2 q)
 | true=>
 obtain⟨gp,su⟩:=ht.1 rfl;have g:LG O P C:=⟨gp.1,gp.2⟩;simp only [pwA,seval,-iQ0,g0,g1,g2,oU];refine zIJ g hR hU su fun t hn=>?_
 cases t with
 | false=>
  simp only [pwA,seval,-iQ0];exact Gh.fin0 (zC σ _) trivial (h5 g su fun q=>by cases hn.2 q)
 | true=>
  simp only [pwA,seval,-iQ0];exact Gh.fin0 (zC σ _) trivial (h0 g su (hn.1 rfl))
theorem zMo (g:LG O P C) (hR:IsPr vO vP vC O P C) (hb:nEl O≤32) (hk:∀vS M,FIII vS M→latP O P C M→K vS σ):zA Tryz.prog 87 [.agg [vO,vP,vC]] σ K:=by
 have g0:=hR.O.one;have g1:=hR.P.one;have g2:=hR.C.one;refine zA.gh ?_;refine zB mix Tryz.func87 ?_;simp only [pwA,seval,-iQ0,g0,g1,g2];refine zK6 g hR hb fun vS vM h' M k1 fS hp hs=>?_
 have oS:=fS.one;simp only [pwA,seval,-iQ0,oS];exact Gh.fin0 ((zC σ _).trans k1) (fS.bel _) (hk vS M fS ⟨hp,hs⟩)
theorem zMn (hL:FIII vL M) (hl:M.length≤4294967296) (szM:∀w∈M,SzL w) (hk:∀v,FIII v M→K v σ):zA Tryz.prog 88 [vL] σ K:=by
 obtain⟨wl,al,rl,rfl,hrl⟩:=hL;refine zA.gh ?_;refine zB mix Tryz.func88 ?_;simp only [pwA,seval,-iQ0];refine zD (fun m vs h'=>∃(i:Nat) (v:PV) (rows:List PV),i≤M.length∧m=M.length-i∧vs=[.fz wl al M.length rl,v,.int .i64 (i:Nat)]∧Keep σ h'∧PSl σ.next 1 h' v i rows∧All2 FII rows (M.take i)) M.length ?_ ?_
 ·exact⟨0,_,[],by omega,by omega,rfl,zC σ _,PSl.new σ.next 1 rfl (Nat.le_refl _),(by simpa using All2.nil _)⟩
 rintro m vs h' ⟨i,v,rows,hi,rfl,rfl,hkp,ha,hall⟩
 by_cases hlt:i<M.length
 rotate_left
 ·obtain rfl:i=M.length:=by omega
  rw [List.take_length]at hall
  simp only [pwA,seval,-iQ0,hlt];exact PSl.fin hkp ha (hall.bels fun v x hv=>hv.bel 0) fun o cap=>hk _ ⟨true,_,rows,rfl,hall⟩
 obtain⟨c,hc1,hc2⟩:=hrl.at hlt;have hil:=inb hlt;have wi:IntKind.i64.wrap ((i:Int)+1)=((i+1:Nat):Int):=wrapS (show i<4294967297 by omega) (by omega)
 have oc:=hc2.one;simp only [pwA,seval,-iQ0,hlt,hil,hc1,oc];refine zAz hc2 (szM _ (List.getElem_mem hlt)) fun v2 hv2=>?_
 have o2:=hv2.one;have c2:=hv2.cells;simp only [pwA,seval,-iQ0,o2,c2];refine PSl.push (bytes:=24) (σb:=σ) hkp ha (by omega) (by omega) fun v3 h3 k3 a3=>?_
 simp only [pwA,seval,-iQ0,wi];exact⟨_,by omega,i+1,v3,_,by omega,rfl,rfl,k3,a3,by rw [List.take_succ_eq_append_getElem hlt];exact hall.snoc hv2⟩
end Go.Proofs
namespace Go.Grp
end Go.Grp
namespace Go.Proofs
open Go.Ab Go.Lie Go.Grp Go.Lat
variable {σ h:PHeap} {K:PV→PHeap→Prop} {O x y:List Int} {P:List (List Int)} {C:List (List (List Int))} {u v w:List (List Int)} {vO vP vC vL vU vV vW vx vy vM:PV} {sp su sv sl sL N a b m t d:Nat} {F L:List Nat} {M Z:List (List (List Int))} {cap:Cap} {rows:List PV}
def CplR (O:List Int) (P:List (List Int)) (C:List (List (List Int))) (u:List (List Int)) (Z:List (List (List Int))) (c:Int):Prop:=
 (¬((qi O P C∧Cons O P C)∧qJ O P C u)∧Z=[]∧c=1)∨(∃_:LG O P C,qJ O P C u∧((¬NorG O P C u∧Z=[]∧c=5)∨(NorG O P C u∧32<nEl O∧Z=[]∧c=3)∨(NorG O P C u∧nEl O≤32∧(∃M,latP O P C M∧Z=M.filter (cpl O P C u))∧c=0)))
theorem CplR.unique {Z Z':List (List (List Int))} {c c':Int} (h:CplR O P C u Z c) (h':CplR O P C u Z' c'):Z=Z'∧c=c':=by
 rcases h with ⟨a1,rfl,rfl⟩|⟨g,a0,a⟩<;>rcases h' with ⟨b1,rfl,rfl⟩|⟨g',b0,b⟩
 ·exact⟨rfl,rfl⟩
 ·exact absurd ⟨⟨g'.pr,g'.co⟩,b0⟩ a1
 ·exact absurd ⟨⟨g.pr,g.co⟩,a0⟩ b1
 ·rcases a with ⟨a1,rfl,rfl⟩ | ⟨a1,a2,rfl,rfl⟩ | ⟨a1,a2,⟨M,hM,rfl⟩,rfl⟩<;>rcases b with ⟨b1,rfl,rfl⟩ | ⟨b1,b2,rfl,rfl⟩ | ⟨b1,b2,⟨M',hM',rfl⟩,rfl⟩
  ·exact⟨rfl,rfl⟩
  ·exact absurd b1 a1
  ·exact absurd b1 a1
  ·exact absurd a1 b1
  ·exact⟨rfl,rfl⟩
  ·omega
  ·exact absurd a1 b1
  ·omega
  ·rw [hM.unique g hM']
   exact⟨rfl,rfl⟩
theorem CplR.sub {Z:List (List (List Int))} (h:CplR O P C u Z 0):∃_:LG O P C,qJ O P C u∧∀w∈Z,qJ O P C w:=by
 rcases h with ⟨_,_,h⟩|⟨g,a0,a⟩
 ·cases h
 ·refine⟨g,a0,?_⟩
  rcases a with ⟨_,_,h⟩|⟨_,_,_,h⟩|⟨_,_,⟨M,hM,rfl⟩,_⟩
  ·cases h
  ·cases h
  ·exact fun w hw=>hM.sub g w (List.mem_filter.1 hw).1
theorem zF7 (g:LG O P C) (hs:PtrG σ sp vO vP vC) (hR:IsPr vO vP vC O P C) (hsu:σ.obj su=some [vU]) (hU:FII vU u) (hu:qJ O P C u) (hsv:σ.obj sv=some [.ptr sl 0]) (hsl:σ.obj sl=some [vV,.sl sL 0 rows.length cap,vM]) (hsL:σ.obj sL=some rows)
  {i:Nat} (hi:i<rows.length) (hi2:i≤4294967296) (hl:rows.length≤4294967296) (hW:rows[i]? = some vW) (fW:FII vW w) (hw:qJ O P C w) (hk:K (.bool (cpl O P C u w)) σ):
  zA Tryz.prog 93 [.int .i64 i,.ptr sp 0,.ptr su 0,.ptr sv 0] σ K:=by
 have r0:σ.rd1 su 0=some vU:=by rw [zF hsu];rfl
 have r1:σ.rd1 sv 0=some (.ptr sl 0):=by rw [zF hsv];rfl
 have r2:σ.rd1 sl 1=some (.sl sL 0 rows.length cap):=by rw [zF hsl];rfl
 have r3:σ.rd1 sL i=some vW:=by rw [zF hsL];exact hW
 have hI:=inb hi;have oU:=hU.one;have oW:=fW.one;refine zB mix Tryz.func93 ?_;simp only [pwA,seval,-iQ0,r0,r1,r2,r3,hi,hI,oU,oW];refine zFm g hs hR hU hu fW hw fun t ht=>?_
 simp only [pwA,seval,-iQ0];rw [zNN ht]at hk
 exact hk
theorem zNB (g:LG O P C) (hs:PtrG σ sp vO vP vC) (hR:IsPr vO vP vC O P C) (hsu:σ.obj su=some [vU]) (hU:FII vU u) (hu:qJ O P C u) (hsv:σ.obj sv=some [.ptr sl 0]) (hsl:σ.obj sl=some [vV,.sl sL 0 rows.length cap,vM]) (hsL:σ.obj sL=some rows)
  (l1:su<σ.next) (l2:sv<σ.next) (l3:sl<σ.next) (l4:sL<σ.next) (hl:rows.length≤4294967296) (hM:All2 FII rows M) (hMs:∀w∈M,qJ O P C w)
  (hk:∀v h' rz,Keep σ h'→h'.top=σ.top→PAcc σ.next 1 h' v rz.length rz→All2 FII rz (M.filter (cpl O P C u))→(∀r∈rz,r∈rows)→K v h'):
  zA Tryz.prog 92 [.ptr sl 0,.clo 93 [] [.ptr sp 0,.ptr su 0,.ptr sv 0]] σ K:=by
 have r2:σ.rd1 sl 1=some (.sl sL 0 rows.length cap):=by rw [zF hsl];rfl
 refine zB mix Tryz.func92 ?_;simp only [pwA,seval,-iQ0,r2];refine zD (fun m vs h'=>∃(i:Nat) (v:PV) (rz:List PV),i≤rows.length∧m=rows.length-i∧vs=[.clo 93 [] [.ptr sp 0,.ptr su 0,.ptr sv 0],v,.sl sL 0 rows.length cap,.int .i64 rows.length,.int .i64 i]∧Keep σ h'∧h'.top=σ.top∧PAcc σ.next 1 h' v rz.length rz∧All2 FII rz ((M.take i).filter (cpl O P C u))∧(∀r∈rz,r∈rows)∧rz.length≤i) rows.length ?_ ?_
 ·exact⟨0,_,[],by omega,rfl,rfl,Keep.refl σ,rfl,PAcc.nil _ _ _,(by simpa using All2.nil _),fun r hr=>(by cases hr),by simp⟩
 rintro m vs h' ⟨i,v,rz,hi,rfl,rfl,hkp,htop,ha,hz,hin,hzl⟩
 by_cases hlt:i<rows.length
 rotate_left
 ·obtain rfl:i=rows.length:=by omega
  simp only [pwA,seval,-iQ0,hlt];refine hk v h' rz hkp htop ha ?_ hin;rw [List.take_of_length_le (by rw [hM.1];exact Nat.le_refl _)]at hz
  exact hz
 have hil:=inb hlt;have wi:IntKind.i64.wrap ((i:Int)+1)=((i+1:Nat):Int):=wrapS (show i<4294967297 by omega) (by omega)
 have hlM:i<M.length:=by rw [←hM.1];exact hlt
 obtain⟨c,hc1,hc2⟩:=hM.at hlM;have oc:=hc2.one;have cc:=hc2.cells;have rc:h'.rd1 sL i=some c:=by rw [zF ((hkp.obj _ l4).trans hsL)];exact hc1
 have tk:=List.take_succ_eq_append_getElem hlM;simp only [pwA,seval,-iQ0,hlt,hil,rc,oc,cc];refine⟨by decide +kernel,?_⟩
 simp only [List.nil_append,List.singleton_append];refine zF7 g (hs.keep hkp) hR ((hkp.obj _ l1).trans hsu) hU hu ((hkp.obj _ l2).trans hsv) ((hkp.obj _ l3).trans hsl) ((hkp.obj _ l4).trans hsL) hlt (by omega) hl hc1 hc2 (hMs _ (List.getElem_mem hlM)) ?_
 cases hq:cpl O P C u M[i]with
 | false=>
  simp only [pwA,seval,-iQ0,wi];refine⟨_,by omega,i+1,v,rz,by omega,rfl,rfl,hkp,htop,ha,?_,hin,by omega⟩
  rw [tk,List.filter_append,List.filter_cons_of_neg (by rw [hq];decide),List.filter_nil,List.append_nil]
  exact hz
 | true=>
  simp only [pwA,seval,-iQ0,oc,cc];refine zAU (PAcc.push (bytes:=24) (σb:=σ) hkp ha (by omega) (by omega) fun v2 h2 k2 a2 t2=>?_)
  have t2':h2.top=h'.top:=t2;simp only [pwA,seval,-iQ0,wi];refine⟨_,by omega,i+1,v2,rz++[c],by omega,rfl,rfl,k2,t2'.trans htop,(by rw [List.length_append];exact a2.acc),?_,?_,by rw [List.length_append];simp;omega⟩
  ·rw [tk,List.filter_append,List.filter_cons_of_pos hq,List.filter_nil]
   exact hz.snoc hc2
  ·intro r hr
   rcases List.mem_append.1 hr with hr|hr
   ·exact hin r hr
   ·rw [List.mem_singleton.1 hr];exact List.mem_of_getElem? hc1
end Go.Proofs
namespace Go.Grp
end Go.Grp
namespace Go.Proofs
open Go.Ab Go.Lie Go.Grp Go.Lat
variable {σ h:PHeap} {K:PV→PHeap→Prop} {O x y:List Int} {P:List (List Int)} {C:List (List (List Int))} {u v w:List (List Int)} {vO vP vC vL vU vV vW vx vy vM:PV} {sp su sv sl sL N a b m t d:Nat} {F L:List Nat} {M Z:List (List (List Int))} {cap:Cap} {rows:List PV}
theorem qJ.sz (g:LG O P C) (h:qJ O P C w):SzL w:=by
 have hn6:=g.s.le;have hl:=h.len;exact⟨by omega,fun y hy=>by have:=(h.2.one y hy).1.len;omega⟩
theorem latP.len (hb:nEl O≤32) (g:LG O P C) (h:latP O P C M):M.length≤4294967296:=by
 have h1:=h.1.length_eq;rw [List.length_map]at h1
 have h2:=(zIr (tb g)).len;have h3:(2:Nat) ^ nEl O≤2 ^ 32:=Nat.pow_le_pow_right (by omega) hb
 have h4:(2:Nat) ^ 32=4294967296:=by decide
 omega
theorem zHP (hR:IsPr vO vP vC O P C) (sz:SzP O P C) (hU:FII vU u) (szu:SzL u)
  (hk:∀wv av Z rz c t,CplR O P C u Z c→All2 FII rz Z→(∀r∈rz,Own σ.top t r)→σ.top≤t→K (.tup [.fz wv av rz.length rz,.int .i64 c]) (σ.up t)):zA Tryz.prog 42 [.agg [vO,vP,vC],vU] σ K:=by
 have g0:=hR.O.one;have g1:=hR.P.one;have g2:=hR.C.one;have oU:=hU.one;have nilE:∀{c:Int} {g:PHeap},Keep σ g→CplR O P C u [] c→Gh σ K (.tup [.fz true .nils 0 [],.int .i64 c]) g:=fun {c g} kk h=>
  Gh.fin0T kk kk.top ⟨trivial,trivial,trivial⟩ fun _=>hk true .nils [] [] c σ.top h (All2.nil _) (fun r hr=>by cases hr) (Nat.le_refl _)
 refine zA.gh ?_;refine zB mix Tryz.func42 ?_;have cU:=hU.cells;simp only [pwA,seval,-iQ0,g0,g1,g2,oU,cU];have hkp:Keep σ ((σ.new [vO,vP,vC]).new [vU]):=(zC _ _).new _;have nH:((σ.new [vO,vP,vC]).new [vU]).next=σ.next+2:=rfl;have tH:((σ.new [vO,vP,vC]).new [vU]).top=σ.top:=rfl;have e0:((σ.new [vO,vP,vC]).new [vU]).obj σ.next=some [vO,vP,vC]:=by simp only [pwA,seval,-iQ0]
 have e1:((σ.new [vO,vP,vC]).new [vU]).obj (σ.next+1)=some [vU]:=by simp only [pwA,seval,-iQ0]
 generalize (σ.new [vO,vP,vC]).new [vU]=H at *
 have r1:H.rd1 (σ.next+1) 0=some vU:=by rw [zF e1];rfl
 have hs:PtrG H σ.next vO vP vC:=⟨e0,by omega⟩
 simp only [pwA,seval,-iQ0,r1];refine zG1 hs hR sz hU szu (fun n=>?_) (fun g su n=>?_) fun g su n=>?_
 ·simp only [pwA,seval,-iQ0]
  exact nilE hkp (.inl ⟨n,rfl,rfl⟩)
 ·simp only [pwA,seval,-iQ0]
  exact nilE hkp (.inr ⟨g,su,.inl ⟨n,rfl,rfl⟩⟩)
 simp only [pwA,seval,-iQ0];refine zIG g hs hR sz (fun hb=>?_) fun hb sl sL h' cap rows vM M k1 l1 l2 ol oL l3 hown hrM hMp hMs=>?_
 ·simp only [pwA,seval,-iQ0]
  exact nilE (hkp.new _) (.inr ⟨g,su,.inr (.inl ⟨n,hb,rfl,rfl⟩)⟩)
 have hM:latP O P C M:=⟨hMp,hMs⟩;have hlen:=hM.len hb g;have hrl:rows.length=M.length:=hrM.1;have k1n:=k1.next;have ns:¬sl=h'.next:=by omega
 simp only [pwA,seval,-iQ0];have k2:Keep H (h'.new [.ptr sl 0]):=k1.new _;have t2:(h'.new [.ptr sl 0]).top=h'.top:=rfl;have n2:(h'.new [.ptr sl 0]).next=h'.next+1:=rfl;have o1:(h'.new [.ptr sl 0]).obj h'.next=some [.ptr sl 0]:=by rw [zH,if_pos rfl]
 have o2:∀t,t<h'.next→(h'.new [.ptr sl 0]).obj t=h'.obj t:=fun t ht=>by rw [zH,if_neg (by omega)]
 generalize h'.new [.ptr sl 0]=H2 at *
 have r3:H2.rd1 h'.next 0=some (.ptr sl 0):=by rw [zF o1];rfl
 simp only [pwA,seval,-iQ0,r3];refine zNB g (hs.keep k2) hR ((k2.obj _ (by omega)).trans e1) hU su o1 ((o2 _ l2).trans ol) ((o2 _ l3).trans oL) (by omega) (by omega) (by omega) (by omega) (by omega) hrM (hM.sub g) fun v h3 rz k3 t3 a3 hz hin=>?_
 have o3:=a3.one;simp only [pwA,seval,-iQ0,o3];refine PAcc.fin2T (hkp.trans (k2.trans k3)) (by omega) a3 (hz.bels fun v x hv=>hv.bel 0) fun a t ht=>hk true a _ rz 0 t (.inr ⟨g,su,.inr (.inr ⟨n,hb,⟨M,hM,rfl⟩,rfl⟩)⟩) hz (fun r hr=>(hown r (hin r hr)).mono (by omega) (by omega)) ?_
 have:=k1.top
 omega
theorem zHQ (hR:IsPr vO vP vC O P C) (sz:SzP O P C) (hU:FII vU u) (szu:SzL u) (hk:∀vZ Z c,CplR O P C u Z c→FIII vZ Z→K (.tup [vZ,.int .i64 c]) σ):zA Tryz.prog 37 [.agg [vO,vP,vC],vU] σ K:=by
 have g0:=hR.O.one;have g1:=hR.P.one;have g2:=hR.C.one;have oU:=hU.one;have nilE:∀{c:Int} {g:PHeap},Keep σ g→CplR O P C u [] c→Gh σ K (.tup [.fz true .nils 0 [],.int .i64 c]) g:=fun {c g} kk h=>
  Gh.fin0 kk ⟨trivial,trivial,trivial⟩ (hk _ [] c h ⟨true,.nils,[],rfl,All2.nil _⟩)
 refine zA.gh ?_;refine zB mix Tryz.func37 ?_;simp only [pwA,seval,-iQ0,g0,g1,g2,oU];have hkp:Keep σ (σ.new [vO,vP,vC]):=zC _ _;have nH:(σ.new [vO,vP,vC]).next=σ.next+1:=rfl;have e0:(σ.new [vO,vP,vC]).obj σ.next=some [vO,vP,vC]:=by simp only [pwA,seval,-iQ0]
 generalize σ.new [vO,vP,vC]=H at *
 have e3:∀{g:PHeap},Keep H g→g.rd σ.next 0 3=some [vO,vP,vC]:=fun k=>by rw [ZB ((k.obj _ (by omega)).trans e0)];rfl
 refine zK8 hR sz hU szu (fun n=>?_) (fun g su n=>?_) fun g su n=>?_
 ·simp only [pwA,seval,-iQ0]
  exact nilE hkp (.inl ⟨n,rfl,rfl⟩)
 ·simp only [pwA,seval,-iQ0]
  exact nilE hkp (.inr ⟨g,su,.inl ⟨n,rfl,rfl⟩⟩)
 obtain⟨hN,hN1⟩:=QM g.s;simp only [pwA,seval,-iQ0,e3 (Keep.refl H),g0,g1,g2];refine QH g.s hR ?_;rw [hN]
 by_cases hb:nEl O≤32
 rotate_left
 ·have hgt:(32:Int)<(nEl O:Int):=by omega
  simp only [pwA,seval,-iQ0,hgt];exact nilE hkp (.inr ⟨g,su,.inr (.inl ⟨n,by omega,rfl,rfl⟩)⟩)
 have hgt:¬(32:Int)<(nEl O:Int):=by omega
 simp only [pwA,seval,-iQ0,hgt,e3 (Keep.refl H),g0,g1,g2];refine zMo g hR hb fun vS M fS hM=>?_
 have oS:=fS.one;have hl:=hM.len hb g;obtain⟨wS,aS,rS,rfl,hrS⟩:=fS;simp only [pwA,seval,-iQ0,oS];refine zD (fun r vs h=>∃(i:Nat) (v:PV) (rz:List PV),i≤M.length∧r=M.length-i∧vs=[vU,.ptr σ.next 0,.fz wS aS M.length rS,v,.int .i64 i]∧Keep H h∧PSl H.next 1 h v rz.length rz∧All2 FII rz ((M.take i).filter (cpl O P C u))∧rz.length≤i) M.length ?_ ?_
 ·refine⟨0,_,[],by omega,rfl,rfl,zC _ _,PSl.new H.next 1 rfl (Nat.le_refl _),(by simpa using All2.nil _),by simp⟩
 rintro r vs h ⟨i,v,rz,hi,rfl,rfl,kh,ha,hz,hzl⟩
 by_cases hlt:i<M.length
 rotate_left
 ·obtain rfl:i=M.length:=by omega
  rw [List.take_length]at hz
  have ha0:=ha;obtain⟨s,c,rfl,f,o,l,b,n'⟩:=ha;simp only [pwA,seval,-iQ0,hlt];refine zA.frz (s:=s) (cs:=rz) o (hz.bels fun v x hv=>hv.bel 0) fun o3=>?_
  have hc:capOK c rz.length=true:=f.ok;simp only [sbs,sb,hc,and_self,if_true,decide_true,Nat.le_refl,nm_eq];have k3:Keep H (h.kill s):=kh.kill b;generalize h.kill s=H3 at *
  refine zMn (M:=M.filter (cpl O P C u)) ⟨true,_,rz,by rw [hz.1],hz⟩ (by rw [←hz.1];omega) (fun w hw=>qJ.sz g (hM.sub g w (List.mem_filter.1 hw).1)) fun vZ fZ=>?_
  have oZ:=fZ.one;simp only [pwA,seval,-iQ0,oZ];exact Gh.fin0 (hkp.trans k3) ⟨fZ.bel _,trivial,trivial⟩ (hk vZ _ 0 (.inr ⟨g,su,.inr (.inr ⟨n,hb,⟨M,hM,rfl⟩,rfl⟩)⟩) fZ)
 have hil:=inb hlt;have wi:IntKind.i64.wrap ((i:Int)+1)=((i+1:Nat):Int):=wrapS (show i<4294967297 by omega) (by omega)
 obtain⟨c,hc1,hc2⟩:=hrS.at hlt;have oc:=hc2.one;have cc:=hc2.cells;have tk:=List.take_succ_eq_append_getElem hlt;simp only [pwA,seval,-iQ0,hlt,hil,hc1,oc,cc,e3 kh,g0,g1,g2,oU];refine zEu g hR hU su hc2 (hM.sub g _ (List.getElem_mem hlt)) fun t ht=>?_
 have hq:=zNN ht;cases t with
 | false=>
  simp only [pwA,seval,-iQ0,wi];refine⟨_,by omega,i+1,v,rz,by omega,rfl,rfl,kh,ha,?_,by omega⟩
  rw [tk,List.filter_append,List.filter_cons_of_neg (by rw [hq];decide),List.filter_nil,List.append_nil]
  exact hz
 | true=>
  simp only [pwA,seval,-iQ0,hlt,hil,hc1,oc,cc];refine PSl.push (bytes:=24) (σb:=H) kh ha (by omega) (by omega) fun v2 h2 k2 a2=>?_
  simp only [pwA,seval,-iQ0,wi];refine⟨_,by omega,i+1,v2,rz++[c],by omega,rfl,rfl,k2,(by rw [List.length_append];exact a2),?_,by rw [List.length_append];simp;omega⟩
  rw [tk,List.filter_append,List.filter_cons_of_pos hq,List.filter_nil];exact hz.snoc hc2
end Go.Proofs
namespace Go.Grp
end Go.Grp
namespace Go.Proofs
open Go.Ab Go.Lie Go.Grp Go.Lat
variable {σ h hE:PHeap} {K:PV→PHeap→Prop} {O x y:List Int} {P:List (List Int)} {C:List (List (List Int))} {u v w:List (List Int)} {vO vP vC vL vU vV vW vx vy vM:PV} {sp su sv sl sL N a b m t d:Nat} {F L:List Nat} {M Z:List (List (List Int))} {cap:Cap} {rows:List PV}
def SplR (O:List Int) (P:List (List Int)) (C:List (List (List Int))) (u:List (List Int)) (k:Int) (G:List Pre) (Z:List (List Int)) (c:Int):Prop:=
 ∃Y cc,CplR O P C u Y cc∧((cc≠0∧(k=0∧G=[]∧Z=[])∧c=cc)∨(cc=0∧Y=[]∧(k=0∧G=[]∧Z=[])∧c=4)∨(cc=0∧∃w Y',Y=w::Y'∧(k=6∧G=[(O,P,C)]∧Z=[[(u.length:Int)]]++(u++w))∧c=0))
theorem SplR.unique {k k' c c':Int} {G G':List Pre} {Z Z':List (List Int)} (h:SplR O P C u k G Z c) (g:SplR O P C u k' G' Z' c'):(k=k'∧G=G'∧Z=Z')∧c=c':=by
 obtain⟨Y,cc,h1,h⟩:=h;obtain⟨Y',cc',g1,g⟩:=g;obtain⟨rfl,rfl⟩:=h1.unique g1;rcases h with ⟨a1,⟨rfl,rfl,rfl⟩,rfl⟩|⟨a1,a2,⟨rfl,rfl,rfl⟩,rfl⟩|⟨a1,w,Y2,a2,⟨rfl,rfl,rfl⟩,rfl⟩<;>
 rcases g with ⟨b1,⟨rfl,rfl,rfl⟩,rfl⟩|⟨b1,b2,⟨rfl,rfl,rfl⟩,rfl⟩|⟨b1,w',Y3,b2,⟨rfl,rfl,rfl⟩,rfl⟩
 ·exact⟨⟨rfl,rfl,rfl⟩,rfl⟩
 ·exact absurd b1 a1
 ·exact absurd b1 a1
 ·exact absurd a1 b1
 ·exact⟨⟨rfl,rfl,rfl⟩,rfl⟩
 ·rw [a2]at b2;cases b2
 ·exact absurd a1 b1
 ·rw [b2]at a2;cases a2
 ·rw [a2]at b2
  cases b2;exact⟨⟨rfl,rfl,rfl⟩,rfl⟩
theorem zNA {g:Nat} {wO wP wC vL:PV} {L:List (List Int)} (kk:Keep σ hE) (hg:hE.obj g=some [wO,wP,wC]) (h0:σ.next≤g) (hq:IsPr wO wP wC O P C) (fL:FII vL L)
  (k:∀o,σ.top≤o→o∉ZQ [wO,wP,wC]→o∉addrs vL→σ.top≤max hE.top (o+1)→K (.tup [.agg [.int .i64 6,.fz true (.sl o 0 1 (.known 1)) 1 [wO,wP,wC],vL],.int .i64 0]) (σ.up (max hE.top (o+1)))):Gh σ K (.tup [.agg [.int .i64 6,.sl g 0 1 (.known 1),vL],.int .i64 0]) hE:=by
 refine Gh.freeze (s:=g) (cs:=[wO,wP,wC]) hg h0 ⟨hq.O.bel 0,hq.P.bel 0,hq.C.bel 0,trivial⟩ fun o ho hc hv=>?_
 have sL:sb g o [wO,wP,wC] vL=vL:=fL.sb _ _ _;simp only [sb,sbs,sL,capOK,and_self,if_true,decide_true,Nat.le_refl];have hv':o∉addrs vL:=by
  simp only [addrs,ZQ,List.nil_append,List.append_nil]at hv
  exact hv
 exact Gh.fin0T (t:=max hE.top (o+1)) ((kk.kill h0).up (by simp only [PHeap.kill];omega)) (Nat.le_refl _) ⟨⟨trivial,trivial,fL.bel _,trivial⟩,trivial,trivial⟩ fun _=>k o ho hc hv' (by have:=kk.top;omega)
theorem zGQ {vl wO wP wC:PV} {rows:List PV} {M:List (List Int)} {s1 g m:Nat} {z:Int} (kk:Keep σ hE) (a:PSl σ.next 1 hE vl m ([.sl s1 0 1 (.known 1)]++rows)) (h1:hE.obj s1=some [.int .i64 z]) (h10:σ.next≤s1) (hg:hE.obj g=some [wO,wP,wC]) (hg0:σ.next≤g) (hsg:g≠s1)
  (n1:∀off l c,vl≠.sl s1 off l c) (n2:∀off l c,vl≠.sl g off l c) (hq:IsPr wO wP wC O P C) (hr:All2 FI rows M) (hm:m=M.length+1)
  (k:∀vG vL t,FG vG [(O,P,C)]→FII vL ([[z]]++M)→σ.top≤t→(Owns σ.top hE.top ([wO,wP,wC]++rows)→Owns σ.top t [vG,vL])→K (.tup [.agg [.int .i64 6,vG,vL],.int .i64 0]) (σ.up t)):
  Gh σ K (.tup [.agg [.int .i64 6,.sl g 0 1 (.known 1),vl],.int .i64 0]) hE:=by
 refine Gh.pwf fun w=>?_
 obtain⟨t,c,rfl,q1,q2,q3,q4,q5⟩:=a;have ts:¬t=s1:=fun e=>n1 0 m c (by rw [e])
 have tg:¬t=g:=fun e=>n2 0 m c (by rw [e])
 have gt:¬g=t:=fun e=>tg e.symm
 have gs:¬g=s1:=hsg;have bq:Bels 0 [wO,wP,wC]:=⟨hq.O.bel 0,hq.P.bel 0,hq.C.bel 0,trivial⟩;have br:=hr.bI 0;refine Gh.freezeH h1 h10 ⟨trivial,trivial⟩ fun o1 i1 f1 _=>?_
 simp only [sb,sbs,gs,ts,false_and,if_false];have kk1:Keep σ (((hE.kill s1).sub s1 o1 [.int .i64 z]).up (max hE.top (o1+1))):=(Keep.sub w (kk.kill h10) h10).up (by simp only [PHeap.sub,PHeap.kill];omega)
 have hg1:(((hE.kill s1).sub s1 o1 [.int .i64 z]).up (max hE.top (o1+1))).obj g=some [wO,wP,wC]:=by
  simp only [PHeap.up,PHeap.sub,PHeap.kill,if_neg gs,hg,Option.map_some];rw [QQ (Nat.zero_le _) bq]
 have ht1:(((hE.kill s1).sub s1 o1 [.int .i64 z]).up (max hE.top (o1+1))).obj t=some ([.fz true (.sl o1 0 1 (.known 1)) 1 [.int .i64 z]]++rows):=by
  simp only [PHeap.up,PHeap.sub,PHeap.kill,if_neg ts,q2,Option.map_some];rw [zCM,QQ (Nat.zero_le _) br];simp only [sbs];rw [sb,if_pos (by simp [capOK])]
 have bc:Bels 0 ([.fz true (.sl o1 0 1 (.known 1)) 1 [.int .i64 z]]++rows):=⟨trivial,br⟩;have tp1:(((hE.kill s1).sub s1 o1 [.int .i64 z]).up (max hE.top (o1+1))).top=max hE.top (o1+1):=rfl;generalize ((hE.kill s1).sub s1 o1 [.int .i64 z]).up (max hE.top (o1+1))=H1 at *
 refine Gh.freezeH ht1 q4 bc fun o2 i2 f2 _=>?_
 have hcap:capOK c m=true:=q1.ok;simp only [sb,sbs,gt,false_and,if_false,and_self,true_and,hcap,if_true];have kk2:=(Keep.sub (s:=t) (o:=o2) (cs:=[.fz true (.sl o1 0 1 (.known 1)) 1 [.int .i64 z]]++rows) w (kk1.kill q4) q4).up (t:=max H1.top (o2+1)) (by simp only [PHeap.sub,PHeap.kill];omega)
 have hg2:(((H1.kill t).sub t o2 ([.fz true (.sl o1 0 1 (.known 1)) 1 [.int .i64 z]]++rows)).up (max H1.top (o2+1))).obj g=some [wO,wP,wC]:=by
  simp only [PHeap.up,PHeap.sub,PHeap.kill,if_neg gt,hg1,Option.map_some];rw [QQ (Nat.zero_le _) bq]
 have tp2:(((H1.kill t).sub t o2 ([.fz true (.sl o1 0 1 (.known 1)) 1 [.int .i64 z]]++rows)).up (max H1.top (o2+1))).top=max H1.top (o2+1):=rfl;generalize ((H1.kill t).sub t o2 ([.fz true (.sl o1 0 1 (.known 1)) 1 [.int .i64 z]]++rows)).up (max H1.top (o2+1))=H2 at *
 have fL:FII (.fz true (.sl o2 0 m c) m ([.fz true (.sl o1 0 1 (.known 1)) 1 [.int .i64 z]]++rows)) ([[z]]++M):=by
  refine⟨true,.sl o2 0 m c,[.fz true (.sl o1 0 1 (.known 1)) 1 [.int .i64 z]]++rows,by rw [hm];simp,?_⟩
  exact All2.append ((All2.nil FI).snoc ⟨true,_,rfl⟩) hr
 refine zNA kk2 hg2 hg0 hq fL fun o3 i3 f3 f4 ht3=>k _ _ _ (zRo hq) fL ht3 fun ow=>?_
 have a1:o1∉eads ([wO,wP,wC]++rows):=by
  rw [qX,List.mem_append]
  rintro (hm | hm)
  ·exact f1 g _ hg (ZC hm)
  ·refine f1 t _ q2 (ZC ?_)
   simp only [eads,List.mem_append,List.cons_append,List.nil_append]at hm ⊢
   exact .inr hm
 have o1w:Owns σ.top (max hE.top (o1+1)) ([wO,wP,wC]++([.fz true (.sl o1 0 1 (.known 1)) 1 [.int .i64 z]]++rows)):=
  Owns.ins (a:=[wO,wP,wC]) (b:=rows) (xs:=[z]) ow i1 (by omega) (by omega) a1
 have a2:o2∉eads ([wO,wP,wC]++([.fz true (.sl o1 0 1 (.known 1)) 1 [.int .i64 z]]++rows)):=by
  rw [qX,List.mem_append]
  rintro (hm | hm)
  ·exact f2 g _ hg1 (ZC hm)
  ·exact f2 t _ ht1 (ZC hm)
 have o2w:=Owns.last (l:=m) (cap:=c) o1w i2 (hi':=max H1.top (o2+1)) (by omega) (by omega) a2
 have o2c:=Owns.comm o2w;have a3:o3∉eads ([.fz true (.sl o2 0 m c) m ([.fz true (.sl o1 0 1 (.known 1)) 1 [.int .i64 z]]++rows)]++[wO,wP,wC]):=by
  rw [qX,List.mem_append]
  rintro (hm | hm)
  ·refine f4 (zBo ?_)
   simpa only [eads,List.append_nil]using hm
  ·exact f3 (ZC hm)
 have o3w:=Owns.last (l:=1) (cap:=.known 1) o2c i3 (hi':=max H2.top (o3+1)) (by omega) (by omega) a3
 exact Owns.comm (a:=[_]) (b:=[_]) o3w
end Go.Proofs
namespace Go.Grp
end Go.Grp
namespace Go.Proofs
open Go.Ab Go.Lie Go.Grp Go.Lat
variable {σ h hE:PHeap} {K:PV→PHeap→Prop} {O x y:List Int} {P:List (List Int)} {C:List (List (List Int))} {u v w:List (List Int)} {vO vP vC vL vU vV vW vx vy vM:PV} {sp su sv sl sL N a b m t d:Nat} {F L:List Nat} {M Z:List (List (List Int))} {cap:Cap} {rows:List PV}
theorem zHN (sz:SzP O P C) (hR:IsPr vO vP vC O P C) (hU:FII vU u) (szu:SzL u)
  (hk:∀k G Z vG vZ c t,SplR O P C u k G Z c→FG vG G→FII vZ Z→σ.top≤t→K (.tup [.agg [.int .i64 k,vG,vZ],.int .i64 c]) (σ.up t)):zA Tryz.prog 12 [.agg [vO,vP,vC],vU] σ K:=by
 have g0:=hR.O.one;have g1:=hR.P.one;have g2:=hR.C.one;have hkp:Keep σ ((σ.new [vO,vP,vC]).new [.int .i64 0,.fz true .nils 0 [],.fz true .nils 0 []]):=(zC _ _).new _;have nilE:∀{c:Int} {g:PHeap},Keep σ g→SplR O P C u 0 [] [] c→Gh σ K (.tup [.agg [.int .i64 0,.fz true .nils 0 [],.fz true .nils 0 []],.int .i64 c]) g:=fun {c g} kk h=>
  Gh.fin0T kk kk.top ⟨⟨trivial,trivial,trivial,trivial⟩,trivial,trivial⟩ fun _=>hk 0 [] [] _ _ c σ.top h zNC ⟨true,.nils,[],rfl,All2.nil _⟩ (Nat.le_refl _)
 have hU0:=hU;obtain⟨wl,al,rl,rfl,hrl⟩:=hU;refine zA.gh ?_;refine zB mix Tryz.func12 ?_;simp only [pwA,seval,-iQ0,g0,g1,g2];refine zHQ hR sz hU0 szu fun vY Y cc hY fY=>?_
 obtain⟨wz,az,rz,rfl,hrz⟩:=fY
 by_cases hc:cc=0
 rotate_left
 ·simp only [pwA,seval,-iQ0,hc,g0,g1,g2]
  exact nilE hkp ⟨Y,cc,hY,.inl ⟨hc,⟨rfl,rfl,rfl⟩,rfl⟩⟩
 subst hc;cases Y with
 | nil=>
  have z0:((([]:List (List (List Int))).length:Nat):Int)=0:=rfl;simp only [pwA,seval,-iQ0,z0];exact nilE hkp ⟨[],0,hY,.inr (.inl ⟨rfl,rfl,⟨rfl,rfl,rfl⟩,rfl⟩)⟩
 | cons w Y'=>
 have z0:¬(((w::Y').length:Nat):Int)=0:=by rw [List.length_cons];omega
 have z1:0<(w::Y').length:=by rw [List.length_cons];omega
 have z2:(0:Int)<(((w::Y').length:Nat):Int):=by omega
 obtain⟨lg,su,hsub⟩:=hY.sub;have sw:=hsub w (by simp)
 have hul:=su.len;have hwl:=sw.len;have hn6:=lg.s.le;obtain⟨vw,rw0,fw⟩:=hrz.at z1;have ew:(w::Y')[0]=w:=rfl;rw [ew]at fw
 clear ew;generalize hn:(w::Y').length=n at *
 simp only [pwA,seval,-iQ0,z0];refine zAz hU0 szu fun vg fg=>?_
 obtain⟨wg,ag,rg,rfl,hrg⟩:=fg;generalize hH:(((σ.new [vO,vP,vC]).new [PV.int IntKind.i64 0,PV.fz true AV.nils 0 [],PV.fz true AV.nils 0 []]).new [PV.int IntKind.i64 ↑u.length]).new [PV.sl (σ.next+2) 0 1 (Cap.known 1)]=H at *
 have kH:Keep σ H:=by rw [←hH];exact((hkp.new _).new _)
 have nH:H.next=σ.next+4:=by rw [←hH];rfl
 have e0:H.obj σ.next=some [vO,vP,vC]:=by rw [←hH];simp only [pwA,seval,-iQ0]
 have e1:H.obj (σ.next+1)=some [.int .i64 0,.fz true .nils 0 [],.fz true .nils 0 []]:=by rw [←hH];simp only [pwA,seval,-iQ0]
 have e2:H.obj (σ.next+2)=some [.int .i64 u.length]:=by rw [←hH];simp only [pwA,seval,-iQ0]
 have e3:H.obj (σ.next+3)=some [.sl (σ.next+2) 0 1 (.known 1)]:=by rw [←hH];simp only [pwA,seval,-iQ0]
 simp only [pwA,seval,-iQ0];refine PSl.catK (bytes:=24) (σb:=σ) (n:=1) kH ⟨_,_,rfl,.inr rfl,e3,rfl,by omega,by omega⟩ (by rw [hrg.1]) (by omega) (by omega) fun v2 h2 k2 a2 s2 n2 t2=>?_
 have nn:∀{t:Nat},t<3→∀off l c,PV.sl (σ.next+3) 0 1 (Cap.known 1)≠.sl (σ.next+t) off l c:=fun ht off l c e=>by
  simp only [PV.sl.injEq]at e
  omega
 obtain⟨f0,m0⟩:=s2 σ.next (by omega) (nn (t:=0) (by omega))
 obtain⟨f1,m1⟩:=s2 (σ.next+1) (by omega) (nn (t:=1) (by omega))
 obtain⟨f2,m2⟩:=s2 (σ.next+2) (by omega) (nn (t:=2) (by omega))
 obtain⟨ww,aw,rw_,rfl,hrw⟩:=fw;simp only [pwA,seval,-iQ0,a2.one,z1,z2,rw0,List.drop_zero];refine PSl.catK (bytes:=24) (σb:=σ) k2 a2 (by rw [hrw.1]) (by omega) (by omega) fun v3 h3 k3 a3 s3 n3 t3=>?_
 obtain⟨q0,p0⟩:=s3 σ.next (by omega) m0
 obtain⟨q1,p1⟩:=s3 (σ.next+1) (by omega) m1
 obtain⟨q2,p2⟩:=s3 (σ.next+2) (by omega) m2
 have r0:h3.rd σ.next 0 3=some [vO,vP,vC]:=by rw [ZB (q0.trans (f0.trans e0))];rfl
 have z3:ofAVs (zeros [.nils,.nils,.nils] 1)=[.fz true .nils 0 [],.fz true .nils 0 [],.fz true .nils 0 []]:=rfl;simp only [pwA,seval,-iQ0,a3.one,r0,g0,g1,g2];refine zOm hR sz fun wO wP wC hq=>?_
 have c3:v3.cells=[v3]:=by obtain⟨s,cap,rfl,_⟩:=a3;rfl
 have he1:h3.obj (σ.next+1)=some [.int .i64 0,.fz true .nils 0 [],.fz true .nils 0 []]:=q1.trans (f1.trans e1);have kk3:=k3.next;have nk1:¬σ.next+1=h3.next:=by omega
 have nk2:σ.next≤h3.next:=by omega
 have ewr:h3.wr (σ.next+1) 0 [.int .i64 6,.sl h3.next 0 1 (.known 1),v3]=some (h3.set (σ.next+1) [.int .i64 6,.sl h3.next 0 1 (.known 1),v3]):=zEc he1 rfl (by obtain⟨s,cap,rfl,_⟩:=a3;rfl)
 simp only [pwA,seval,-iQ0,a3.one,c3,nk1,ewr,z3,hq.O.one,hq.P.one,hq.C.one];obtain⟨s4,cap4,rfl,c4,o4,l4,b4,b5⟩:=a3;have ns1:¬s4=σ.next+1:=fun e=>p1 0 _ _ (by rw [e])
 have eS:∀t,t<h3.next→t≠σ.next+1→((h3.set (σ.next+1) [PV.int IntKind.i64 6,PV.sl h3.next 0 1 (Cap.known 1),.sl s4 0 (1+u.length+w.length) cap4]).new [wO,wP,wC]).obj t=h3.obj t:=fun t h1 h2=>by
  rw [zH,if_neg (show ¬t=(h3.set _ _).next from Nat.ne_of_lt h1),zn,if_neg h2]
 refine zGQ (rows:=rg++rw_) (M:=u++w) (s1:=σ.next+2) (z:=u.length) ((k3.set (Nat.le_succ _) _).new _) ⟨s4,cap4,rfl,c4,?_,?_,b4,Nat.lt_succ_of_lt b5⟩ ?_ (by omega) ?_ (by omega) (by omega) p2 (fun off l c e=>?_) hq (All2.append hrg hrw) (by rw [List.length_append];omega) fun vG vL t fG fL ht _=>hk 6 _ _ vG vL 0 t ⟨_,0,hY,.inr (.inr ⟨rfl,w,Y',rfl,⟨rfl,rfl,rfl⟩,rfl⟩)⟩ fG fL ht
 ·rw [eS _ b5 ns1,o4,List.append_assoc]
 ·rw [←List.append_assoc];exact l4
 ·rw [eS _ (by omega) (by omega)];exact q2.trans (f2.trans e2)
 ·rw [zH];exact if_pos rfl
 ·simp only [PV.sl.injEq]at e
  omega
theorem zIu (sz:SzP O P C) (hR:IsPr vO vP vC O P C) (hU:FII vU u) (szu:SzL u)
  (hk:∀k G Z vG vZ c,SplR O P C u k G Z c→FG vG G→FII vZ Z→K (.tup [.agg [.int .i64 k,vG,vZ],.int .i64 c]) σ):zA Tryz.prog 12 [.agg [vO,vP,vC],vU] σ K:=
 zA.notop (p:=fun v _=>∃k G Z vG vZ c,v=.tup [.agg [.int .i64 k,vG,vZ],.int .i64 c]∧SplR O P C u k G Z c∧FG vG G∧FII vZ Z)
  (fun K' k'=>zHN sz hR hU szu fun k G Z vG vZ c t h1 h2 h3 ht=>k' _ t ⟨⟨trivial,h2.bel _,h3.bel _,trivial⟩,trivial,trivial⟩ ⟨k,G,Z,vG,vZ,c,rfl,h1,h2,h3⟩ ht)
  fun v t ⟨k,G,Z,vG,vZ,c,e,h1,h2,h3⟩=>by rw [e];exact hk k G Z vG vZ c h1 h2 h3
end Go.Proofs
namespace Go.Grp
end Go.Grp
namespace Go.Proofs
open Go.Ab Go.Lie Go.Grp Go.Lat
variable {σ h hE:PHeap} {K:PV→PHeap→Prop} {O x y:List Int} {P:List (List Int)} {C:List (List (List Int))} {u v w:List (List Int)} {vO vP vC vL vU vV vW vx vy vM:PV} {sp su sv sl sL N a b m t d:Nat} {F L:List Nat} {M Z:List (List (List Int))} {cap:Cap} {rows:List PV}
theorem cf15:cF Tryz.prog Tryz.f15=some ⟨[0,1],[(.cell 4 true 3),(.tmp 5)],(.seq (.region [1,2,4] [⟨some 2,(.box (.t 0)),false,none⟩,⟨some 4,(.alloc [(.int .i64 0),.nils,.nils]),false,none⟩,⟨some 5,(.mv (.c (.int .i64 0))),true,none⟩]) (.seq (.region [1,2,4,6,7] [⟨some 10,(.load true 3 (.t 2)),true,none⟩,⟨some 11,(.mv (.t 1)),true,none⟩,⟨some 12,(.call 42 [(.t 10),(.t 11)]),false,none⟩,⟨some 9,(.mv (.t 12)),true,none⟩,⟨some 13,(.extract (.t 9) 0),true,none⟩,⟨some 14,(.extract (.t 9) 1),true,none⟩,⟨some 6,(.mv (.t 13)),true,none⟩,⟨some 7,(.mv (.t 14)),true,none⟩]) (.seq (.seq (.region [1,2,4,6,7,16] [⟨some 15,(.mv (.t 7)),true,none⟩,⟨some 16,(.bin .neq .other (.t 15) (.c (.int .i64 0))),true,none⟩]) (.cond (.t 16) (.seq (.region [4,5] [⟨some 17,(.build [(.int .i64 0),.nils,.nils] []),true,none⟩,⟨some 18,(.mv (.t 7)),true,none⟩,⟨none,(.store 3 (.t 4) (.t 17)),false,none⟩,⟨some 5,(.mv (.t 18)),true,none⟩]) .ret) .skip)) (.seq (.seq (.region [1,2,4,6,21] [⟨some 19,(.mv (.t 6)),true,none⟩,⟨some 20,(.len (.t 19)),true,none⟩,⟨some 21,(.bin .eql .other (.t 20) (.c (.int .i64 0))),true,none⟩]) (.cond (.t 21) (.seq (.region [4,5] [⟨some 22,(.build [(.int .i64 0),.nils,.nils] []),true,none⟩,⟨none,(.store 3 (.t 4) (.t 22)),false,none⟩,⟨some 5,(.mv (.c (.int .i64 4))),true,none⟩]) .ret) .skip)) (.seq (.region [2,4,6,8] [⟨some 23,(.mv (.t 1)),true,none⟩,⟨some 24,(.len (.t 23)),true,none⟩,⟨some 25,(.buildSl 1 1 [(.int .i64 0)] [(0,1,(.t 24))]),false,none⟩,⟨some 26,(.buildSl 1 1 [.nils] [(0,1,(.t 25))]),false,none⟩,⟨some 27,(.mv (.t 1)),true,none⟩,⟨some 28,(.call 43 [(.t 27)]),false,none⟩,⟨some 29,(.append 1 24 (.t 26) (.t 28)),false,none⟩,⟨some 8,(.mv (.t 29)),true,none⟩]) (.seq (.tree [4,5] (.q (⟨⟨some 32,(.mv (.t 8)),true,none⟩,2,[]⟩) (.q (⟨⟨some 33,(.mv (.t 6)),true,none⟩,3,[]⟩) (.q (⟨⟨some 34,(.indexAddr 1 (.t 33) (.c (.int .i64 0))),true,none⟩,4,[]⟩) (.q (⟨⟨some 35,(.load false 1 (.t 34)),true,none⟩,5,[]⟩) (.e (⟨⟨some 30,(.call 44 [(.t 2)]),false,none⟩,0,[5]⟩) (.e (⟨⟨some 31,(.buildSl 3 1 [.nils,.nils,.nils] [(0,3,(.t 30))]),false,none⟩,1,[5]⟩) (.e (⟨⟨some 36,(.append 1 24 (.t 32) (.t 35)),false,none⟩,6,[]⟩) (.q (⟨⟨some 37,(.build [(.int .i64 0),.nils,.nils] [(0,1,(.c (.int .i64 6))),(1,1,(.t 31)),(2,1,(.t 36))]),true,none⟩,7,[]⟩) (.e (⟨⟨none,(.store 3 (.t 4) (.t 37)),false,none⟩,8,[]⟩) (.q (⟨⟨some 5,(.mv (.c (.int .i64 0))),true,none⟩,9,[]⟩) .done) .none)) .none) (.e (⟨⟨some 36,(.append 1 24 (.t 32) (.t 35)),false,none⟩,6,[]⟩) (.e (⟨⟨some 31,(.buildSl 3 1 [.nils,.nils,.nils] [(0,3,(.t 30))]),false,none⟩,1,[5]⟩) (.q (⟨⟨some 37,(.build [(.int .i64 0),.nils,.nils] [(0,1,(.c (.int .i64 6))),(1,1,(.t 31)),(2,1,(.t 36))]),true,none⟩,7,[]⟩) (.e (⟨⟨none,(.store 3 (.t 4) (.t 37)),false,none⟩,8,[]⟩) (.q (⟨⟨some 5,(.mv (.c (.int .i64 0))),true,none⟩,9,[]⟩) .done) .none)) .none) .none)) .none)))))) .ret))))))⟩:=by kernel_rfl
theorem zDh (sz:SzP O P C) (hR:IsPr vO vP vC O P C) (hU:FII vU u) (szu:SzL u)
  (hk:∀k G Z vG vZ c t,SplR O P C u k G Z c→FG vG G→FII vZ Z→Owns σ.top t [vG,vZ]→σ.top≤t→K (.tup [.agg [.int .i64 k,vG,vZ],.int .i64 c]) (σ.up t)):zA Tryz.prog 15 [.agg [vO,vP,vC],vU] σ K:=by
 have g0:=hR.O.one;have g1:=hR.P.one;have g2:=hR.C.one;have hkp:Keep σ ((σ.new [vO,vP,vC]).new [.int .i64 0,.fz true .nils 0 [],.fz true .nils 0 []]):=(zC _ _).new _;have nilE:∀{c:Int} {g:PHeap},Keep σ g→SplR O P C u 0 [] [] c→Gh σ K (.tup [.agg [.int .i64 0,.fz true .nils 0 [],.fz true .nils 0 []],.int .i64 c]) g:=fun {c g} kk h=>
  Gh.fin0T kk kk.top ⟨⟨trivial,trivial,trivial,trivial⟩,trivial,trivial⟩ fun _=>hk 0 [] [] _ _ c σ.top h zNC ⟨true,.nils,[],rfl,All2.nil _⟩ (((Owns.nil σ.top σ.top).snoc (Own.empty _ _ true .nils 0) (Nat.le_refl _) (Nat.le_refl _)).snoc (Own.empty _ _ true .nils 0) (Nat.le_refl _) (Nat.le_refl _)) (Nat.le_refl _)
 have hU0:=hU;obtain⟨wl,al,rl,rfl,hrl⟩:=hU;refine zA.gh ?_;refine QA mix Tryz.func15 ?_ cf15;simp only [pwA,seval,-iQ0,g0,g1,g2];refine zHP hR sz hU0 szu fun wv av Y rz cc t1 hY hrz how ht1=>?_
 by_cases hc:cc=0
 rotate_left
 ·simp only [pwA,seval,-iQ0,hc,g0,g1,g2]
  exact nilE (hkp.up ht1) ⟨Y,cc,hY,.inl ⟨hc,⟨rfl,rfl,rfl⟩,rfl⟩⟩
 subst hc;cases Y with
 | nil=>
  have z0:((rz.length:Nat):Int)=0:=by have:=hrz.1;simp at this;simp [this]
  simp only [pwA,seval,-iQ0,z0];exact nilE (hkp.up ht1) ⟨[],0,hY,.inr (.inl ⟨rfl,rfl,⟨rfl,rfl,rfl⟩,rfl⟩)⟩
 | cons w Y'=>
 have zl:rz.length=Y'.length+1:=by rw [hrz.1,List.length_cons]
 have z0:¬((rz.length:Nat):Int)=0:=by omega
 have z1:0<rz.length:=by omega
 have z2:(0:Int)<((rz.length:Nat):Int):=by omega
 obtain⟨lg,su,hsub⟩:=hY.sub;have sw:=hsub w (by simp)
 have hul:=su.len;have hwl:=sw.len;have hn6:=lg.s.le;obtain⟨vw,rw0,fw⟩:=hrz.at (k:=0) (by simp)
 have ew:(w::Y')[0]=w:=rfl;rw [ew]at fw
 clear ew;have ow:Own σ.top t1 vw:=how _ (List.mem_of_getElem? rw0);simp only [pwA,seval,-iQ0,z0];refine zCh szu.r (by omega) hU0 fun vg t6 fg og ht6=>?_
 obtain⟨wg,ag,rg,rfl,hrg⟩:=fg;have ht1':σ.top≤t1:=ht1;have ht6':t1≤t6:=ht6;have og':Owns t1 t6 rg:=Own.rows og;generalize hH:(((((σ.new [vO,vP,vC]).new [PV.int IntKind.i64 0,PV.fz true AV.nils 0 [],PV.fz true AV.nils 0 []]).new [PV.int IntKind.i64 ↑u.length]).new [PV.sl (σ.next+2) 0 1 (Cap.known 1)]).up t1).up t6=H at *
 have kH:Keep σ H:=by rw [←hH];exact(((hkp.new _).new _).up ht1).up ht6
 have nH:H.next=σ.next+4:=by rw [←hH];rfl
 have tH:H.top=t6:=by rw [←hH];rfl
 have e0:H.obj σ.next=some [vO,vP,vC]:=by rw [←hH];simp only [pwA,seval,-iQ0]
 have e1:H.obj (σ.next+1)=some [.int .i64 0,.fz true .nils 0 [],.fz true .nils 0 []]:=by rw [←hH];simp only [pwA,seval,-iQ0]
 have e2:H.obj (σ.next+2)=some [.int .i64 u.length]:=by rw [←hH];simp only [pwA,seval,-iQ0]
 have e3:H.obj (σ.next+3)=some [.sl (σ.next+2) 0 1 (.known 1)]:=by rw [←hH];simp only [pwA,seval,-iQ0]
 simp only [pwA,seval,-iQ0];refine PSl.catK (bytes:=24) (σb:=σ) (n:=1) kH ⟨_,_,rfl,.inr rfl,e3,rfl,by omega,by omega⟩ (by rw [hrg.1]) (by omega) (by omega) fun v2 h2 k2 a2 s2 n2 t2=>?_
 have nn:∀{t:Nat},t<3→∀off l c,PV.sl (σ.next+3) 0 1 (Cap.known 1)≠.sl (σ.next+t) off l c:=fun ht off l c e=>by
  simp only [PV.sl.injEq]at e
  omega
 obtain⟨f0,m0⟩:=s2 σ.next (by omega) (nn (t:=0) (by omega))
 obtain⟨f1,m1⟩:=s2 (σ.next+1) (by omega) (nn (t:=1) (by omega))
 obtain⟨f2,m2⟩:=s2 (σ.next+2) (by omega) (nn (t:=2) (by omega))
 have o2:=a2.one;have ofw:=fw.one;have hs2:PtrG h2 σ.next vO vP vC:=⟨f0.trans e0,by omega⟩
 have z3:ofAVs (zeros [.nils,.nils,.nils] 1)=[.fz true .nils 0 [],.fz true .nils 0 [],.fz true .nils 0 []]:=rfl;simp only [pwA,seval,-iQ0,o2,ofw,z1,z2,rw0,List.drop_zero,zDj,TVp_e,TVp_q,zCl,zCj,qU,Zg];refine zDb lg.s hs2 hR fun wO wP wC t7 hq oq ht7=>?_
 have oq':Owns t6 t7 [wO,wP,wC]:=by rw [t2,tH]at oq;exact oq
 have ht7':t6≤t7:=by rw [t2,tH]at ht7;exact ht7
 have nk1:¬σ.next+1=h2.next:=by have:=k2.next;omega
 have c2:v2.cells=[v2]:=by obtain⟨s,cap,rfl,_⟩:=a2;rfl
 simp only [pwA,seval,-iQ0,o2,c2,nk1,z3,hq.O.one,hq.P.one,hq.C.one,zDj,TVp_e,TVp_q,zCl,zCj,qU,Zg];obtain⟨ww,aw,rw_,rfl,hrw⟩:=fw;have hsp:SplR O P C u 6 [(O,P,C)] ([[(u.length:Int)]]++(u++w)) 0:=⟨_,0,hY,.inr (.inr ⟨rfl,w,Y',rfl,⟨rfl,rfl,rfl⟩,rfl⟩)⟩;have hown:Owns σ.top t7 ([wO,wP,wC]++(rg++rw_)):=by
  have w1:Owns σ.top t1 rw_:=Own.rows ow;have w2:=Owns.comm (Owns.append w1 og' ht1' ht6');exact Owns.comm (Owns.append w2 oq' (by omega) ht7')
 obtain⟨s4,cap4,rfl,c4,o4,l4,b4,b5⟩:=a2;have ns1:s4≠σ.next+1:=fun e=>m1 0 _ _ (by rw [e])
 have ns2:s4≠σ.next+2:=fun e=>m2 0 _ _ (by rw [e])
 have k2n:=k2.next;have top2:h2.top=t6:=by omega
 refine⟨rw0,⟨rw0,?_⟩,?_⟩
 ·have kA:Keep σ ((h2.new [wO,wP,wC]).up t7):=(k2.new _).up ht7
  have nA:((h2.new [wO,wP,wC]).up t7).next=h2.next+1:=rfl;have tA:((h2.new [wO,wP,wC]).up t7).top=t7:=rfl;have oA:∀t,t<h2.next→((h2.new [wO,wP,wC]).up t7).obj t=h2.obj t:=fun t ht=>by
   show(h2.new _).obj t=_
   rw [zH,if_neg (by omega)]
  have gA:((h2.new [wO,wP,wC]).up t7).obj h2.next=some [wO,wP,wC]:=by
   show(h2.new _).obj _=_
   rw [zH,if_pos rfl]
  generalize (h2.new [wO,wP,wC]).up t7=HA at *
  refine PSl.catK (bytes:=24) (σb:=σ) kA ⟨s4,cap4,rfl,c4,(oA _ b5).trans o4,l4,b4,by omega⟩ (by rw [hrw.1]) (by omega) (by omega) fun v3 h3 k3 a3 s3 n3 t3=>?_
  obtain⟨q1,p1⟩:=s3 (σ.next+1) (by omega) m1
  obtain⟨q2,p2⟩:=s3 (σ.next+2) (by omega) m2
  obtain⟨q3,p3⟩:=s3 h2.next (by omega) fun off l c e=>by
   injection e with e
   omega
  have he1:h3.obj (σ.next+1)=some [.int .i64 0,.fz true .nils 0 [],.fz true .nils 0 []]:=q1.trans ((oA _ (by omega)).trans (f1.trans e1))
  have c3:v3.cells=[v3]:=by obtain⟨s,cap,rfl,_⟩:=a3;rfl
  have ewr:h3.wr (σ.next+1) 0 [.int .i64 6,.sl h2.next 0 1 (.known 1),v3]=some (h3.set (σ.next+1) [.int .i64 6,.sl h2.next 0 1 (.known 1),v3]):=zEc he1 rfl (by obtain⟨s,cap,rfl,_⟩:=a3;rfl)
  simp only [pwA,seval,-iQ0,a3.one,c3,ewr,zDj,TVp_e,TVp_q,zCl,zCj,qU,Zg];obtain⟨s5,cap5,rfl,c5,o5,l5,b5',b6⟩:=a3;have ns5:s5≠σ.next+1:=fun e=>p1 0 _ _ (by rw [e])
  refine zGQ (rows:=rg++rw_) (M:=u++w) (s1:=σ.next+2) (z:=u.length) (k3.set (Nat.le_succ _) _) ⟨s5,cap5,rfl,c5,?_,?_,b5',b6⟩ ?_ (by omega) ?_ (by omega) (by omega) p2 p3 hq (All2.append hrg hrw) (by rw [List.length_append];omega) fun vG vL t fG fL ht ow'=>hk 6 _ _ vG vL 0 t hsp fG fL (ow' ?_) ht
  ·rw [zn,if_neg ns5,o5,List.append_assoc]
  ·rw [←List.append_assoc];exact l5
  ·rw [zn,if_neg (by omega)];exact q2.trans ((oA _ (by omega)).trans (f2.trans e2))
  ·rw [zn,if_neg (by omega)];exact q3.trans gA
  ·show Owns σ.top h3.top _
   rw [t3,tA];exact hown
 ·have kB:Keep σ (h2.up t7):=k2.up ht7
  have nB:(h2.up t7).next=h2.next:=rfl;have tB:(h2.up t7).top=t7:=rfl;have oB:∀t,(h2.up t7).obj t=h2.obj t:=fun t=>rfl
  generalize h2.up t7=HB at *
  refine PSl.catK (bytes:=24) (σb:=σ) kB ⟨s4,cap4,rfl,c4,(oB _).trans o4,l4,b4,by omega⟩ (by rw [hrw.1]) (by omega) (by omega) fun v3 h3 k3 a3 s3 n3 t3=>?_
  obtain⟨q1,p1⟩:=s3 (σ.next+1) (by omega) m1
  obtain⟨q2,p2⟩:=s3 (σ.next+2) (by omega) m2
  have he1:h3.obj (σ.next+1)=some [.int .i64 0,.fz true .nils 0 [],.fz true .nils 0 []]:=q1.trans ((oB _).trans (f1.trans e1));have c3:v3.cells=[v3]:=by obtain⟨s,cap,rfl,_⟩:=a3;rfl
  have kk3:=k3.next;have nk3:¬σ.next+1=h3.next:=by omega
  have ewr:h3.wr (σ.next+1) 0 [.int .i64 6,.sl h3.next 0 1 (.known 1),v3]=some (h3.set (σ.next+1) [.int .i64 6,.sl h3.next 0 1 (.known 1),v3]):=zEc he1 rfl (by obtain⟨s,cap,rfl,_⟩:=a3;rfl)
  simp only [pwA,seval,-iQ0,a3.one,c3,nk3,ewr,z3,hq.O.one,hq.P.one,hq.C.one,rw0,List.drop_zero,zDj,TVp_e,TVp_q,zCl,zCj,qU,Zg];obtain⟨s5,cap5,rfl,c5,o5,l5,b5',b6⟩:=a3;have ns5:s5≠σ.next+1:=fun e=>p1 0 _ _ (by rw [e])
  have eS:∀t,t<h3.next→t≠σ.next+1→((h3.set (σ.next+1) [PV.int IntKind.i64 6,PV.sl h3.next 0 1 (Cap.known 1),.sl s5 0 (1+u.length+w.length) cap5]).new [wO,wP,wC]).obj t=h3.obj t:=fun t h1 h2=>by
   rw [zH,if_neg (show ¬t=(h3.set _ _).next from Nat.ne_of_lt h1),zn,if_neg h2]
  refine zGQ (rows:=rg++rw_) (M:=u++w) (s1:=σ.next+2) (z:=u.length) ((k3.set (Nat.le_succ _) _).new _) ⟨s5,cap5,rfl,c5,?_,?_,b5',Nat.lt_succ_of_lt b6⟩ ?_ (by omega) ?_ (by omega) (by omega) p2 (fun off l c e=>?_) hq (All2.append hrg hrw) (by rw [List.length_append];omega) fun vG vL t fG fL ht ow'=>hk 6 _ _ vG vL 0 t hsp fG fL (ow' ?_) ht
  ·rw [eS _ b6 ns5,o5,List.append_assoc]
  ·rw [←List.append_assoc];exact l5
  ·rw [eS _ (by omega) (by omega)];exact q2.trans ((oB _).trans (f2.trans e2))
  ·rw [zH];exact if_pos rfl
  ·simp only [PV.sl.injEq]at e
   omega
  ·show Owns σ.top h3.top _
   rw [t3,tB];exact hown
end Go.Proofs
