/- Quiet operations on values without a heap agree with those below; what a call promises; operations with effects. -/
import Derived.Test.YtjlpbpfaihhamaaGreatBAbPr
set_option linter.unusedVariables false
set_option linter.unusedSimpArgs false
namespace Go.Ab
variable {P:Program} {ι ι':Nat→Nat} {Z Z':Nat→Prop} {h h':AHeap} {σ σ':PHeap} {n n':Nat}
theorem ZI {op:BinOp} {b:Bool} {v:PV} (hv:pnil op b=some v):anil op b=some (er ι v)∧VOK Z h n v:=by
 cases op<;>simp only [pnil,reduceCtorEq]at hv<;>cases hv<;>exact⟨rfl,trivial⟩
theorem zAv {o:Option AV} {v:PV} (hv:o.map ofAV=some v):o=some (er ι v)∧VOK Z h n v:=by
 obtain⟨a,rfl,rfl⟩:=Option.map_eq_some_iff.1 hv;exact⟨by rw [zDw],VOK.ofAV a⟩
theorem zEL:∀{xs ys:List PV} {r:Bool},paggB xs ys=some r→aggB (ers ι xs) (ers ι ys)=some r
 | [],[],r,h=>h
 | [],y::ys,r,h=>by cases y<;>simp [paggB]at h
 | x::xs,[],r,h=>by cases x<;>simp [paggB]at h
 | x::xs,y::ys,r,h=>by
  cases x<;>cases y<;>simp only [paggB,reduceCtorEq]at h
  split at h
  ·rename_i hk
   obtain⟨r',hr,rfl⟩:=Option.map_eq_some_iff.1 h;simp only [ers,er,aggB,if_pos hk,zEL hr,Option.map_some]
  ·cases h
theorem zKr {op:BinOp} {ek:EqK} {x y v:PV} (hx:VOK Z h n x) (hy:VOK Z h n y) (hv:pbin op ek x y=some v):abin op ek (er ι x) (er ι y)=some (er ι v)∧VOK Z h n v:=by
 cases x<;>cases y<;>simp only [pbin,reduceCtorEq]at hv
 case int.int k a k' b=>exact zAv hv
 case str.str a b=>
  have:=zAv (ι:=ι) (Z:=Z) (h:=h) (n:=n) hv
  exact⟨this.1,this.2⟩
 case bool.bool a b=>cases ek<;>simp only [reduceCtorEq]at hv;exact ZI hv
 case agg.agg xs ys=>
  cases ek<;>simp only [reduceCtorEq]at hv
  split at hv
  ·rename_i hl
   obtain⟨r,hr,hv⟩:=Option.bind_eq_some_iff.1 hv
   have:=ZI (ι:=ι) (Z:=Z) (h:=h) (n:=n) hv
   refine⟨?_,this.2⟩;simp only [er,abin,qd,if_pos hl,zEL hr,Option.bind_some];exact this.1
  ·cases hv
 case nilp.nilp=>cases ek<;>simp only [reduceCtorEq]at hv;exact ZI hv
 case nilp.ptr=>cases ek<;>simp only [reduceCtorEq]at hv;exact ZI hv
 case ptr.nilp=>cases ek<;>simp only [reduceCtorEq]at hv;exact ZI hv
 case nilf.nilf=>cases ek<;>simp only [reduceCtorEq]at hv;exact ZI hv
 case nilf.clo=>cases ek<;>simp only [reduceCtorEq]at hv;exact ZI hv
 case clo.nilf=>cases ek<;>simp only [reduceCtorEq]at hv;exact ZI hv
 case fz.fz w a l cs w' a' l' cs'=>
  cases ek<;>simp only [reduceCtorEq]at hv
  obtain⟨rfl,_⟩|⟨o,off,cap,rfl,_⟩:=hx.1<;>obtain⟨rfl,_⟩|⟨o',off',cap',rfl,_⟩:=hy.1<;>simp only [Zj,if_true,Bool.false_eq_true,if_false,reduceCtorEq]at hv
  ·exact ZI hv
  ·exact ZI hv
  ·exact ZI hv
 case sl.fz s off len cap w' a' l' cs'=>
  cases ek<;>simp only [reduceCtorEq]at hv
  obtain⟨rfl,_⟩|⟨o',off',cap',rfl,_⟩:=hy.1<;>simp only [Zj,if_true,Bool.false_eq_true,if_false,reduceCtorEq]at hv
  exact ZI hv
 case fz.sl w' a' l' cs' s off len cap=>
  cases ek<;>simp only [reduceCtorEq]at hv
  obtain⟨rfl,_⟩|⟨o',off',cap',rfl,_⟩:=hx.1<;>simp only [Zj,if_true,Bool.false_eq_true,if_false,reduceCtorEq]at hv
  exact ZI hv
theorem zL4 {op:UnOp} {x v:PV} (hv:pun op x=some v):aun op (er ι x)=some (er ι v)∧VOK Z h n v:=by
 cases x<;>simp only [pun,reduceCtorEq]at hv
 ·exact zAv hv
 ·exact zAv hv
theorem zH0 {sz:Nat} {x i v:PV} (hx:VOK Z h n x) (hv:zB3 sz x i=some v):q8 sz (er ι x) (er ι i)=some (er ι v)∧VOK Z h n v:=by
 cases x<;>cases i<;>simp only [zB3,reduceCtorEq]at hv
 case sl.int s off len cap k m=>
  split at hv
  ·rename_i hc;cases hv;simp only [er,q8];rw [if_pos hc];exact⟨rfl,hx⟩
  ·cases hv
 case fz.int w a len cs k m=>
  split at hv
  ·rename_i hc
   cases hv;obtain⟨hf,hcs⟩:=hx;rcases hf with ⟨rfl,rfl,_⟩|⟨o,off,cap,rfl,h1,h2,_⟩
   ·omega
   ·simp only [er,q8,pAt]
    rw [if_pos hc];refine⟨rfl,⟨rfl,?_⟩,hcs.drop _⟩;rw [QZ];rcases h2 with h2|h2
    ·left;rw [h2];simp
    ·by_cases hl:m.toNat*sz<(ers idz cs).length
     ·right
      refine⟨_,_,rfl,h1,?_⟩;rw [zC2 h2 (a:=m.toNat*sz) (b:=(List.drop (m.toNat*sz) (ers idz cs)).length) (by simp;omega),List.take_length]
     ·left;exact List.drop_eq_nil_of_le (by omega)
  ·cases hv
def RevOK (ι:Nat→Nat) (σ:PHeap) (nb nr nb1:Nat):Prop:=∀k,k<nr→nb+k<σ.next∧ι (nb+k)=nb1+k
theorem zHk (r:Rel ι Z σ h) {E:PEnv} (he:EOK Z h σ.next E) {nb nr nb1:Nat} (hrev:RevOK ι σ nb nr nb1) {op:IOp} {v:PV} (hv:qp nb nr op E σ=some v):
  qv nb1 op (erE ι E) h=some (er ι v)∧VOK Z h σ.next v:=by
 cases op<;>simp only [qp,reduceCtorEq]at hv<;>simp only [qv,←er_pv]
 case mv x=>cases hv;exact⟨rfl,he.pv x⟩
 case pick c a b=>
  have hc:=he.pv c
  revert hv;generalize c.pv E=c';intro hv
  cases c'<;>simp only [pPick,reduceCtorEq]at hv
  cases hv;simp only [er,aPick]
  split
  ·exact⟨rfl,he.pv a⟩
  ·exact⟨rfl,he.pv b⟩
 case bin o k x y=>exact zKr (he.pv x) (he.pv y) hv
 case un o x=>exact zL4 hv
 case conv k x=>
  revert hv;generalize x.pv E=x';intro hv
  cases x'<;>simp only [pConv,reduceCtorEq]at hv
  cases hv;exact⟨rfl,trivial⟩
 case nilCheck x=>
  have hx:=he.pv x
  revert hv hx;generalize x.pv E=x';intro hv hx
  cases x'<;>simp only [pNil,reduceCtorEq]at hv
  ·rename_i a cs
   split at hv
   ·cases hv
   ·rename_i hne
    cases hv;obtain⟨⟨h0,h1⟩,h2⟩:=hx;rcases h1 with h1|⟨o,i,rfl,h3⟩
    ·cases cs with
     | nil=>exact absurd rfl hne
     | cons c cs=>simp [ers]at h1
    ·exact⟨rfl,⟨h0,.inr ⟨o,i,rfl,h3⟩⟩,h2⟩
  ·cases hv;exact⟨rfl,hx⟩
  ·cases hv;exact⟨rfl,hx⟩
 case build z ps=>
  obtain⟨cs,hf,rfl⟩:=Option.map_eq_some_iff.1 hv
  have:=zBs (ι:=ι) (Z:=Z) (h:=h) (n:=σ.next) (fun p hp=>by obtain⟨q,_,rfl⟩:=List.mem_map.1 hp;exact he.pv _) (VOKs.ofAVs z) hf
  rw [ZX,List.map_map]at this
  refine⟨?_,this.2⟩;have h2:(List.map ((fun p:Nat×Nat×PV=>(p.1,p.2.1,er ι p.2.2)) ∘ fun p:Nat×Nat×IX=>(p.1,p.2.1,p.2.2.pv E)) ps)=ps.map fun p=>(p.1,p.2.1,er ι (p.2.2.pv E)):=rfl
  rw [h2]at this
  rw [this.1];rfl
 case field a k off x=>
  have hx:=he.pv x
  revert hv hx;generalize x.pv E=x';intro hv hx
  cases x'<;>simp only [zDB,reduceCtorEq]at hv
  rename_i cs
  simp only [er,ZN];have hcs:VOKs Z h σ.next cs:=hx;cases a with
  | true=>
   simp only [if_true]at hv ⊢
   cases hv;simp only [er,QY,QZ];exact⟨trivial,(hcs.drop _).take _⟩
  | false=>
   simp only [Bool.false_eq_true,if_false]at hv ⊢
   rw [zAb,hv];exact⟨rfl,hcs.get hv⟩
 case fieldAddr off x=>
  have hx:=he.pv x
  revert hv hx;generalize x.pv E=x';intro hv hx
  cases x'<;>simp only [zAD,reduceCtorEq]at hv
  ·rename_i a cs
   split at hv
   ·cases hv
   ·rename_i hne
    cases hv;obtain⟨⟨h0,h1⟩,h2⟩:=hx;rcases h1 with h1|⟨o,i,rfl,h3,h4⟩
    ·cases cs with
     | nil=>exact absurd rfl hne
     | cons c cs=>simp [ers]at h1
    ·refine⟨rfl,⟨rfl,?_⟩,h2.drop _⟩
     rw [QZ]
     by_cases hl:off<(ers idz cs).length
     ·right
      refine⟨o,i+off,rfl,h3,?_⟩;rw [zC2 h4 (a:=off) (b:=(List.drop off (ers idz cs)).length) (by simp;omega),List.take_length]
     ·left;exact List.drop_eq_nil_of_le (by omega)
  ·cases hv;exact⟨rfl,hx⟩
 case indexAddr sz x i=>exact zH0 (he.pv x) hv
 case indexStr x i=>
  revert hv;generalize x.pv E=x';generalize i.pv E=i';intro hv
  cases x'<;>cases i'<;>simp only [zDo,reduceCtorEq]at hv
  split at hv
  ·rename_i hc
   obtain⟨c,hc2,rfl⟩:=Option.map_eq_some_iff.1 hv;simp only [er,ZM];rw [if_pos hc,hc2];exact⟨rfl,trivial⟩
  ·cases hv
 case extract x i=>
  have hx:=he.pv x
  revert hv hx;generalize x.pv E=x';intro hv hx
  cases x'<;>simp only [zCV,reduceCtorEq]at hv
  rename_i vs
  simp only [er,qx];rw [zAb,hv];exact⟨rfl,VOKs.get (as:=vs) hx hv⟩
 case len x=>
  have hx:=he.pv x
  revert hv hx;generalize x.pv E=x';intro hv hx
  cases x'<;>simp only [pLen,plen,Option.map_none,Option.map_some,reduceCtorEq]at hv<;>cases hv
  ·obtain⟨rfl,rfl,_⟩ | ⟨o,off,cap,rfl,_⟩:=hx.1<;>exact⟨rfl,trivial⟩
  ·exact⟨rfl,trivial⟩
 case lenStr x=>
  revert hv;generalize x.pv E=x';intro hv
  cases x'<;>simp only [zDn,reduceCtorEq]at hv
  cases hv;exact⟨rfl,trivial⟩
 case cap x=>
  revert hv;generalize x.pv E=x';intro hv
  cases x'<;>(try (simp only [pCap,reduceCtorEq]at hv;done))
  case sl s off len cap=>
   simp only [pCap]at hv
   cases cap<;>simp only [reduceCtorEq]at hv
   cases hv;exact⟨rfl,trivial⟩
  case fz w a l cs=>
   cases a<;>simp only [pCap,reduceCtorEq]at hv
   cases hv;exact⟨rfl,trivial⟩
 case slice sz x lo hi mx=>
  have:=zHp (ι:=ι) (he.pv x) hv
  simpa only [Option.map_map,Function.comp_def]using this
 case sliceStr x lo hi=>
  revert hv;generalize x.pv E=x';intro hv
  cases x'<;>simp only [zBh,reduceCtorEq]at hv
  simp only [Option.bind_eq_some_iff]at hv
  obtain⟨k,h2,l,h3,hv⟩:=hv;cases hv;simp only [er,zAo];have e2:=qc (ι:=ι) h2;have e3:=qc (ι:=ι) h3;rw [Option.map_map]at e2 e3
  simp only [Function.comp_def]at e2 e3
  rw [e2];simp only [Option.bind_some];rw [e3];simp only [Option.bind_some];exact⟨trivial,trivial⟩
 case maxmin m x y=>
  revert hv;generalize x.pv E=x';generalize y.pv E=y';intro hv
  cases x'<;>cases y'<;>simp only [zB2,reduceCtorEq]at hv
  split at hv
  ·rename_i hc;cases hv;simp only [er,q9];rw [if_pos hc];exact⟨rfl,trivial⟩
  ·cases hv
 case makeFunc f a b=>
  cases hv;simp only [er,zCB,er_pv];exact⟨trivial,he.pvs a,he.pvs b⟩
 case load a k x=>exact zCR r (he.pv x) hv
 case rev k=>
  split at hv
  ·rename_i hk
   cases hv;obtain⟨h1,h2⟩:=hrev k hk;exact⟨by simp only [er];rw [h2],h1⟩
  ·cases hv
 case revS k m=>
  split at hv
  ·rename_i hk
   cases hv;obtain⟨h1,h2⟩:=hrev k hk;exact⟨by simp only [er];rw [h2],h1⟩
  ·cases hv
def Up (ι:Nat→Nat) (Z:Nat→Prop) (σ:PHeap) (h:AHeap) (K:PV→PHeap→Prop):AV→AHeap→Prop:=fun v h'=>
 ∃pv σ' ι' Z',Rel ι' Z' σ' h'∧Aft ι Z σ h ι' Z' σ' h'∧VOK Z' h' σ'.next pv∧v=er ι' pv∧K pv σ'
def zA (P:Program) (f:FuncId) (args:List PV) (σ:PHeap) (K:PV→PHeap→Prop):Prop:=
 ∀(ι:Nat→Nat) (Z:Nat→Prop) (h:AHeap),Rel ι Z σ h→VOKs Z h σ.next args→qj P f (ers ι args) h (Up ι Z σ h K)
theorem zA.mono {f:FuncId} {args:List PV} {K K':PV→PHeap→Prop} (c:zA P f args σ K) (hk:∀v σ',K v σ'→K' v σ'):zA P f args σ K':=
 fun ι Z h r va=>(c ι Z h r va).mono fun _ _ ⟨pv,σ',ι',Z',a,b,d,e,k⟩=>⟨pv,σ',ι',Z',a,b,d,e,hk _ _ k⟩
def ep (P:Program) (op:IOp) (e:PEnv) (σ:PHeap) (K:PV→PHeap→Prop):Prop:=
 match op with
 | .alloc z=>K (.ptr σ.next 0) (σ.new (ofAVs z))
 | .box x=>(x.pv e).cells.all PV.one=true∧K (.ptr σ.next 0) (σ.new (x.pv e).cells)
 | .buildSl sz len z ps=>optK (pfill (ofAVs (zeros z len)) (ps.map fun p=>(p.1,p.2.1,p.2.2.pv e))) fun cs=>K (.sl σ.next 0 len (.known len)) (σ.new cs)
 | .store n x v=>match x.pv e with
  | .ptr s i=>(v.pv e).cells.length=n∧optK (σ.wr s i (v.pv e).cells) fun σ'=>K .undef σ'
  | _=>False
 | .makeSl sz bytes z l c=>match l.pv e,c.pv e with
  | .int _ l,.int _ c=>(0≤l∧l≤c∧c*bytes≤140737488355328∧c≤9223372036854775807)∧K (.sl σ.next 0 l.toNat (.known c.toNat)) (σ.new (ofAVs (zeros z c.toNat)))
  | _,_=>False
 | .append sz bytes s x=>optK (qo sz bytes σ (s.pv e) (x.pv e)) fun p=>K p.1 p.2
 | .appendMk sz bytes z s n=>match s.pv e,n.pv e with
  | .fz _ .nils _ _,.int _ n=>(0≤n∧n*bytes≤140737488355328∧n≤4611686018427387904)∧if 0<n then K (.sl σ.next 0 n.toNat (.grown sz)) (σ.new (ofAVs (zeros z n.toNat)))else K (.fz true .nils 0 []) σ
  | .sl s off len c,.int _ n=>(0≤n∧n*bytes≤140737488355328∧n≤4611686018427387904)∧optK (if 0<n then pgrow sz bytes σ (.sl s off len c) (ofAVs (zeros z n.toNat)) n.toNat else(psame (.sl s off len c)).map fun v=>(v,σ)) fun p=>K p.1 p.2
  | _,_=>False
 | .copy sz d s=>optK (pcopy sz σ (d.pv e) (s.pv e)) fun p=>K p.1 p.2
 | .call f args=>zA P f (args.map (·.pv e)) σ K
 | .callV f args=>match f.pv e with
  | .clo f first caps=>okF P f=true∧zA P f (first++args.map (·.pv e)++caps) σ K
  | _=>False
 | .strOf x=>optK (zDA σ (x.pv e)) fun s=>K (.str s) σ
 | .makeMap=>K (.mref σ.next) (σ.new [])
 | .lookup kt z x k=>match x.pv e with
  | .mref s=>optK ((σ.obj s).bind fun cs=>if kt.pfits (k.pv e)=true then pmget kt (k.pv e) cs else none) fun r=>K (r.getD (ofAV z)) σ
  | _=>False
 | .mapUpd kt x k v=>match x.pv e with
  | .mref s=>optK ((σ.obj s).bind fun cs=>if kt.pfits (k.pv e)=true∧(v.pv e).leaf=true then pmset kt (k.pv e) (v.pv e) cs else none) fun cs=>K .undef (σ.set s cs)
  | _=>False
 | _=>False
def putι (ι:Nat→Nat) (s o:Nat):Nat→Nat:=fun s'=>if s'=s then o else ι s'
theorem Rel.new (r:Rel ι Z σ h) {cs:List PV} (hv:VOKs Z h σ.next cs):Rel (putι ι σ.next h.next) Z (σ.new cs) (h.new ⟨true,ers ι cs⟩)∧Aft ι Z σ h (putι ι σ.next h.next) Z (σ.new cs) (h.new ⟨true,ers ι cs⟩):=by
 have ha:Aft ι Z σ h (putι ι σ.next h.next) Z (σ.new cs) (h.new ⟨true,ers ι cs⟩):=
  ⟨by simp [PHeap.new],by simp [AHeap.new],fun s hs=>by simp [putι,Nat.ne_of_lt hs],fun o ho=>⟨ho,zCY (by have:=r.zlt o ho;omega) _⟩,fun s hs hn=>by simp only [PHeap.new];rw [if_neg (by omega)];exact hn,
   fun s ds hs ho=>by
    by_cases e:s=σ.next
    ·subst e;simp [putι]
    ·simp only [PHeap.new,if_neg e]at ho;exact absurd (r.none_lt ho) (by omega)⟩
 refine⟨⟨r.hwf.new _,fun o ho=>by have:=r.zlt o ho;simp only [AHeap.new];omega,by have:=r.top;simp only [PHeap.new,AHeap.new];omega,fun s hs=>?_,fun s ds hs=>?_,fun s s' a b hs hs' hi=>?_⟩,ha⟩
 ·simp only [PHeap.new]at hs ⊢
  rw [if_neg (by omega)]
  exact r.wf s (by omega)
 ·simp only [PHeap.new]at hs
  by_cases e:s=σ.next
  ·subst e
   rw [if_pos rfl]at hs
   cases hs;refine⟨?_,ha.voks hv,fun hz=>?_⟩
   ·rw [ha.ers hv];simp [putι,AHeap.new]
   ·have:=r.zlt _ hz;simp [putι]at this
  ·rw [if_neg e]at hs
   obtain⟨h1,h2,h3⟩:=r.obj s ds hs;refine⟨?_,ha.voks h2,by simpa [putι,e]using h3⟩
   rw [ha.ers h2];simp only [putι,if_neg e];rw [zCY (by have:=r.hwf.lt h1;omega)]
   exact h1
 ·have hlt:∀{t:Nat} {a:List PV},t≠σ.next→(σ.new cs).obj t=some a→σ.obj t=some a:=fun ht hh=>by simpa [PHeap.new,ht]using hh
  by_cases e:s=σ.next
  ·by_cases e':s'=σ.next
   ·rw [e,e']
   ·obtain⟨h1,_⟩:=r.obj s' b (hlt e' hs')
    have:=r.hwf.lt h1
    subst e;simp [putι,e']at hi
    omega
  ·by_cases e':s'=σ.next
   ·obtain⟨h1,_⟩:=r.obj s a (hlt e hs)
    have:=r.hwf.lt h1
    subst e';simp [putι,e]at hi
    omega
   ·simp only [putι,if_neg e,if_neg e']at hi
    exact r.inj s s' a b (hlt e hs) (hlt e' hs') hi
theorem Rel.set (r:Rel ι Z σ h) {s:Nat} {cs ds:List PV} (hs:σ.obj s=some cs) (hv:VOKs Z h σ.next ds):Rel ι Z (σ.set s ds) (h.set (ι s) (ers ι ds))∧Aft ι Z σ h ι Z (σ.set s ds) (h.set (ι s) (ers ι ds)):=by
 obtain⟨h1,h2,h3⟩:=r.obj s cs hs;have ha:Aft ι Z σ h ι Z (σ.set s ds) (h.set (ι s) (ers ι ds)):=
  ⟨Nat.le_refl _,Nat.le_refl _,fun _ _=>rfl,fun o ho=>⟨ho,zCJ (fun e=>h3 (by rw [←e];exact ho)) _⟩,fun t ht hn=>by
   simp only [PHeap.set];rw [if_neg (fun e=>by subst e;rw [hs]at hn;cases hn)];exact hn,fun t ds ht ho=>by
   have:=r.none_lt hs
   simp only [PHeap.set]at ho;rw [if_neg (by omega)]at ho;exact absurd (r.none_lt ho) (by omega)⟩
 refine⟨⟨r.hwf.set (r.hwf.lt h1) _,r.zlt,r.top,fun t ht=>?_,fun t as ht=>?_,fun t t' a b ht ht' hi=>?_⟩,ha⟩
 ·have hne:t≠s:=fun e=>by subst e;rw [r.wf t ht]at hs;cases hs
  simp only [PHeap.set,if_neg hne];exact r.wf t ht
 ·simp only [PHeap.set]at ht
  by_cases e:t=s
  ·subst e
   rw [if_pos rfl]at ht
   cases ht;exact⟨zCK _ _,ha.voks hv,h3⟩
  ·rw [if_neg e]at ht
   obtain⟨g1,g2,g3⟩:=r.obj t as ht;exact⟨by rw [zCJ (fun e'=>e (r.inj t s as cs ht hs e'))];exact g1,ha.voks g2,g3⟩
 ·have conv:∀{t:Nat} {a:List PV},(σ.set s ds).obj t=some a→∃a',σ.obj t=some a':=fun {t a} ht=>by
   simp only [PHeap.set]at ht
   by_cases e:t=s
   ·subst e;exact⟨_,hs⟩
   ·rw [if_neg e]at ht;exact⟨_,ht⟩
  obtain⟨a',ha'⟩:=conv ht;obtain⟨b',hb'⟩:=conv ht';exact r.inj t t' a' b' ha' hb' hi
theorem Rel.kill (r:Rel ι Z σ h) {s:Nat} {cs:List PV} (hs:σ.obj s=some cs):Rel ι Z (σ.kill s) (h.kill (ι s))∧Aft ι Z σ h ι Z (σ.kill s) (h.kill (ι s)):=by
 obtain⟨h1,h2,h3⟩:=r.obj s cs hs;have ha:Aft ι Z σ h ι Z (σ.kill s) (h.kill (ι s)):=
  ⟨Nat.le_refl _,Nat.le_refl _,fun _ _=>rfl,fun o ho=>⟨ho,zER (fun e=>h3 (by rw [←e];exact ho))⟩,fun t ht hn=>by
   simp only [PHeap.kill];split;rfl;exact hn,fun t ds ht ho=>by
   simp only [PHeap.kill]at ho;split at ho;cases ho;exact absurd (r.none_lt ho) (by omega)⟩
 have conv:∀{t:Nat} {a:List PV},(σ.kill s).obj t=some a→t≠s∧σ.obj t=some a:=fun {t a} ht=>by
  simp only [PHeap.kill]at ht
  split at ht
  ·cases ht
  ·exact⟨by assumption,ht⟩
 refine⟨⟨r.hwf.kill _,r.zlt,r.top,fun t ht=>?_,fun t as ht=>?_,fun t t' a b ht ht' hi=>r.inj t t' a b (conv ht).2 (conv ht').2 hi⟩,ha⟩
 ·simp only [PHeap.kill]
  split
  ·rfl
  ·exact r.wf t ht
 ·obtain⟨e,ht⟩:=conv ht
  obtain⟨g1,g2,g3⟩:=r.obj t as ht;exact⟨by rw [zER (fun e'=>e (r.inj t s as cs ht hs e'))];exact g1,ha.voks g2,g3⟩
theorem zC4 (r:Rel ι Z σ h) {s i:Nat} {vs:List PV} (hv:VOKs Z h σ.next vs) (hw:σ.wr s i vs=some σ'):
  ∃h',h.wr (ι s) i (ers ι vs)=some h'∧Rel ι Z σ' h'∧Aft ι Z σ h ι Z σ' h':=by
 simp only [PHeap.wr,Option.bind_eq_some_iff]at hw
 obtain⟨cs,hs,hw⟩:=hw
 split at hw
 ·rename_i hc
  cases hw;obtain⟨h1,h2,h3⟩:=r.obj s cs hs;obtain⟨r',a'⟩:=r.set hs (((h2.take i).append hv).append (h2.drop (i+vs.length)));refine⟨_,?_,r',a'⟩;rw [zRA h1 (by rw [qd,qd];exact hc.1) (by rw [zA7 hv];exact hc.2)]
  rw [Zk,Zk,QY,QZ,qd]
 ·cases hw
theorem zAu {x:PV} (hx:VOK Z h n x) {m:Nat} (hm:plen x=some m):alen (er ι x)=some m:=by
 cases x<;>simp only [plen,reduceCtorEq]at hm<;>cases hm
 ·obtain⟨rfl,rfl,_⟩ | ⟨o,off,cap,rfl,_⟩:=hx.1<;>rfl
 ·rfl
theorem zBM (r:Rel ι Z σ h) {e:Nat} {x:PV} (hx:VOK Z h σ.next x) {m:Nat} {cs:List PV} (hv:Zv e σ x m=some cs):zAP e h (er ι x) m=some (ers ι cs)∧VOKs Z h σ.next cs:=by
 unfold Zv at hv
 unfold zAP
 split at hv
 ·rename_i h0;cases hv;rw [if_pos h0];exact⟨rfl,trivial⟩
 ·rename_i h0
  rw [if_neg h0]
  split at hv
  ·rename_i s off len cap
   split at hv
   ·rename_i hl
    simp only [er];rw [if_pos hl];exact zGE r hv
   ·cases hv
  ·rename_i w a len cs
   split at hv
   ·rename_i hl
    cases hv;obtain⟨hf,hc⟩:=hx;have hc':=(hc.take (m*e)).up (Nat.zero_le σ.next);simp only [er];rcases hf with ⟨rfl,rfl,_⟩|⟨o,off,cap,rfl,h1,h2,_⟩
    ·omega
    ·simp only
     rw [if_pos hl.1,Qg (ι:=ι) (hc.take _),QY];refine⟨?_,hc'⟩;rcases h2 with h2|h2
     ·have:=hl.2.1
      have h3:cs.length=0:=by rw [←qd (ι:=idz),h2];rfl
      have:=Nat.mul_pos (Nat.pos_of_ne_zero h0) hl.2.2
      omega
     ·have:=zC2 h2 (a:=0) (b:=m*e) (by rw [qd];omega)
      simpa using this
   ·cases hv
  ·cases hv
theorem zEK (r:Rel ι Z σ h) {e bytes:Nat} {s:PV} (hs:VOK Z h σ.next s) {news:List PV} (hn:VOKs Z h σ.next news) {m:Nat} {p:PV×PHeap} (hv:pgrow e bytes σ s news m=some p):
  ∃q,agrow e bytes h (er ι s) (ers ι news) m=some q∧∃ι' Z',Rel ι' Z' p.2 q.2∧Aft ι Z σ h ι' Z' p.2 q.2∧VOK Z' q.2 p.2.next p.1∧q.1=er ι' p.1:=by
 unfold pgrow at hv
 split at hv
 ·-- nil
  split at hv
  ·rename_i hc
   cases hv;obtain⟨r',a'⟩:=r.new hn;simp only [er,agrow];rw [if_pos hc];exact⟨_,rfl,_,_,r',a',Nat.lt_succ_self _,by simp [er,putι]⟩
  ·cases hv
 ·-- frozen, full
  rename_i w o off l c len cs
  split at hv
  ·rename_i hc
   cases hv;obtain⟨hf,hcs⟩:=hs;have hcs':=hcs.up (Nat.zero_le σ.next);obtain⟨r',a'⟩:=r.new (hcs'.append hn);rcases hf with ⟨hf,_⟩|⟨o',off',cap',he,h1,h2,h3,h4⟩
   ·cases hf
   cases he;simp only [er,agrow];rw [if_neg (by omega),if_pos hc.2.2.2]
   have:h.rd o off (l*e)=some (ers ι cs):=by
    rw [Qg (ι:=ι) hcs];rcases h2 with h2|h2
    ·have hnil:cs=[]:=List.eq_nil_of_length_eq_zero (by rw [←qd (ι:=idz),h2];rfl)
     subst hnil;rcases hc.2.1 with hw|hw
     ·obtain⟨rfl,ho⟩:=h4 hw
      rw [←hc.2.2.1,zC3 ho (by simp)]
      rfl
     ·simp at hw
    ·rw [qd,hc.2.2.1]at h2;exact h2
   rw [this,Option.map_some,←Zk];exact⟨_,rfl,_,_,r',a',Nat.lt_succ_self _,by simp [er,putι]⟩
  ·cases hv
 ·rename_i s off len c
  simp only [er,agrow]
  split at hv
  ·rename_i hc
   rw [if_pos hc];obtain⟨σ',hw,rfl⟩:=Option.map_eq_some_iff.1 hv;obtain⟨h',hw',r',a'⟩:=zC4 r hn hw;rw [hw'];exact⟨_,rfl,_,_,r',a',a'.vok hs,rfl⟩
  ·rename_i hc
   rw [if_neg hc]
   split at hv
   ·rename_i hc2
    rw [if_pos hc2];obtain⟨old,ho,rfl⟩:=Option.map_eq_some_iff.1 hv;obtain⟨h1,h2⟩:=zGE r ho;obtain⟨r',a'⟩:=r.new (h2.append hn);rw [h1,Option.map_some,←Zk];exact⟨_,rfl,_,_,r',a',Nat.lt_succ_self _,by simp [er,putι]⟩
   ·cases hv
 ·rename_i s off len g
  simp only [er,agrow]
  split at hv
  ·rename_i hc
   rw [if_pos hc];simp only [Option.bind_eq_some_iff]at hv
   obtain⟨cs,hs',hv⟩:=hv
   split at hv
   ·rename_i hl
    cases hv;obtain⟨h1,h2,h3⟩:=r.obj s cs hs';obtain⟨r1,a1⟩:=r.kill hs';obtain⟨r2,a2⟩:=r1.new (a1.voks (((h2.drop off).take (len*e)).append hn));rw [h1];simp only [Option.bind_some];rw [if_pos ⟨trivial,by rw [qd];exact hl⟩,←QZ,←QY,←Zk]
    exact⟨_,rfl,_,_,r2,a1.trans a2,Nat.lt_succ_self _,by simp [er,putι,PHeap.kill,AHeap.kill]⟩
   ·cases hv
  ·cases hv
 ·cases hv
theorem zEI {s v:PV} (hs:VOK Z h n s) (hv:psame s=some v):asame (er ι s)=some (er ι v)∧VOK Z h n v:=by
 unfold psame at hv
 split at hv
 ·cases hv;exact⟨rfl,.inl ⟨rfl,rfl,rfl⟩,trivial⟩
 ·split at hv
  ·rename_i hc;cases hv;simp only [er,asame];rw [if_pos hc];exact⟨rfl,hs⟩
  ·cases hv
 ·cases hv;exact⟨rfl,hs⟩
 ·rename_i w o off l c len cs
  cases hv;have hs':=hs;obtain⟨hf,_⟩:=hs;rcases hf with ⟨hf,_⟩|⟨o',off',cap',he,h1,h2,h3,_⟩
  ·cases hf
  cases he;simp only [er];cases c with
  | known c=>simp only [asame];rw [if_pos (h3 c rfl)];exact⟨rfl,hs'⟩
  | grown g=>exact⟨rfl,hs'⟩
 ·cases hv
theorem zGz (r:Rel ι Z σ h) {e bytes:Nat} {s x:PV} (hs:VOK Z h σ.next s) (hx:VOK Z h σ.next x) {p:PV×PHeap} (hv:qo e bytes σ s x=some p):
  ∃q,zA9 e bytes h (er ι s) (er ι x)=some q∧∃ι' Z',Rel ι' Z' p.2 q.2∧Aft ι Z σ h ι' Z' p.2 q.2∧VOK Z' q.2 p.2.next p.1∧q.1=er ι' p.1:=by
 simp only [qo,Option.bind_eq_some_iff]at hv
 obtain⟨m,hm,hv⟩:=hv;simp only [zA9];rw [zAu hx hm];simp only [Option.bind_some]
 split at hv
 ·rename_i h0
  rw [if_pos h0];obtain⟨v,hv',rfl⟩:=Option.map_eq_some_iff.1 hv;obtain⟨h1,h2⟩:=zEI (ι:=ι) hs hv';rw [h1];exact⟨_,rfl,_,_,r,Aft.refl r,h2,rfl⟩
 ·rename_i h0
  rw [if_neg h0];simp only [Option.bind_eq_some_iff]at hv
  obtain⟨news,hn,hv⟩:=hv;obtain⟨h1,h2⟩:=zBM r hx hn;rw [h1];exact zEK r hs h2 hv
theorem zJH (r:Rel ι Z σ h) {e:Nat} {d s:PV} (hd:VOK Z h σ.next d) (hs:VOK Z h σ.next s) {p:PV×PHeap} (hv:pcopy e σ d s=some p):
  ∃q,acopy e h (er ι d) (er ι s)=some q∧∃ι' Z',Rel ι' Z' p.2 q.2∧Aft ι Z σ h ι' Z' p.2 q.2∧VOK Z' q.2 p.2.next p.1∧q.1=er ι' p.1:=by
 simp only [pcopy,Option.bind_eq_some_iff]at hv
 obtain⟨m,hm,k,hk,hv⟩:=hv;simp only [acopy];rw [zAu hd hm,zAu hs hk];simp only [Option.bind_some]
 split at hv
 ·rename_i h0
  rw [if_pos h0];cases hv;exact⟨_,rfl,_,_,r,Aft.refl r,trivial,rfl⟩
 ·rename_i h0
  rw [if_neg h0]
  split at hv
  ·rename_i o off len cap
   simp only [Option.bind_eq_some_iff]at hv
   obtain⟨cs,hc,hv⟩:=hv;obtain⟨σ',hw,rfl⟩:=Option.map_eq_some_iff.1 hv;obtain⟨h1,h2⟩:=zBM r hs hc;obtain⟨h',hw',r',a'⟩:=zC4 r h2 hw;simp only [er];rw [h1];simp only [Option.bind_some];rw [hw'];exact⟨_,rfl,_,_,r',a',trivial,rfl⟩
  ·cases hv
theorem zC9:∀{cs:List PV} {s:List UInt8},zB1 cs=some s→zBZ (ers ι cs)=some s
 | [],s,hs=>hs
 | c::cs,s,hs=>by
  unfold zB1 at hs
  split at hs
  ·rename_i heq;cases heq
  ·rename_i n r heq
   cases heq;obtain⟨t,ht,rfl⟩:=Option.map_eq_some_iff.1 hs;simp only [ers,er,zBZ,zC9 ht,Option.map_some]
  ·cases hs
theorem zE3 (r:Rel ι Z σ h) {E:PEnv} (he:EOK Z h σ.next E) {op:IOp} {K:PV→PHeap→Prop} (hk:ep P op E σ K):eff P op (erE ι E) h (Up ι Z σ h K):=by
 have mk:∀{v:PV} {σ':PHeap} {ι':Nat→Nat} {Z':Nat→Prop} {h':AHeap},Rel ι' Z' σ' h'→Aft ι Z σ h ι' Z' σ' h'→VOK Z' h' σ'.next v→K v σ'→Up ι Z σ h K (er ι' v) h':=fun a b c d=>⟨_,_,_,_,a,b,c,rfl,d⟩
 have nw:∀{cs:List PV} {v:PV} ,VOKs Z h σ.next cs→(∀ι',VOK Z (h.new ⟨true,ers ι cs⟩) (σ.next+1) v∧(ι' σ.next=h.next→er ι' v=er (putι ι σ.next h.next) v))→K v (σ.new cs)→Up ι Z σ h K (er (putι ι σ.next h.next) v) (h.new ⟨true,ers ι cs⟩):=fun hc hv hk=>by
  obtain⟨r',a'⟩:=r.new hc;exact⟨_,_,_,_,r',a',(hv (putι ι σ.next h.next)).1,rfl,hk⟩
 cases op<;>simp only [ep]at hk<;>simp only [eff,←er_pv]<;>(try (exact hk.elim))
 case alloc z=>
  obtain⟨r',a'⟩:=r.new (VOKs.ofAVs z);rw [ZX]at r' a'
  exact⟨_,_,_,_,r',a',Nat.lt_succ_self _,by simp [er,putι],hk⟩
 case box x=>
  have hx:=(he.pv x).cells;obtain⟨r',a'⟩:=r.new hx;rw [zE1 (he.pv x)];exact⟨by rw [zA7 hx];exact hk.1,_,_,_,_,r',a',Nat.lt_succ_self _,by simp [er,putι],hk.2⟩
 case buildSl sz len z ps=>
  obtain⟨cs,hf,hk⟩:=hk
  have:=zBs (ι:=ι) (Z:=Z) (h:=h) (n:=σ.next) (fun p hp=>by obtain⟨q,_,rfl⟩:=List.mem_map.1 hp;exact he.pv _) (VOKs.ofAVs (zeros z len)) hf
  rw [ZX,List.map_map]at this
  have h2:(List.map ((fun p:Nat×Nat×PV=>(p.1,p.2.1,er ι p.2.2)) ∘ fun p:Nat×Nat×IX=>(p.1,p.2.1,p.2.2.pv E)) ps)=ps.map fun p=>(p.1,p.2.1,er ι (p.2.2.pv E)):=rfl
  rw [h2]at this
  obtain⟨r',a'⟩:=r.new this.2;exact⟨_,this.1,_,_,_,_,r',a',Nat.lt_succ_self _,by simp [er,putι],hk⟩
 case store k x v=>
  have hx:=he.pv x
  revert hk hx;generalize x.pv E=x';intro hk hx
  cases x'<;>simp only at hk
  rename_i s i
  obtain⟨hl,σ',hw,hk⟩:=hk;obtain⟨h',hw',r',a'⟩:=zC4 r (he.pv v).cells hw;simp only [er];rw [zE1 (he.pv v)];exact⟨by rw [qd];exact hl,_,hw',.undef,_,_,_,r',a',trivial,rfl,hk⟩
 case makeSl sz bytes z l c=>
  revert hk;generalize l.pv E=l';generalize c.pv E=c';intro hk
  cases l'<;>cases c'<;>simp only at hk
  obtain⟨hc,hk⟩:=hk;simp only [er]
  rename_i k1 l k2 c
  obtain⟨r',a'⟩:=r.new (VOKs.ofAVs (zeros z c.toNat));rw [ZX]at r' a'
  exact⟨hc,_,_,_,_,r',a',Nat.lt_succ_self _,by simp [er,putι],hk⟩
 case appendMk sz bytes z s n=>
  have hs:=he.pv s
  revert hk hs;generalize s.pv E=s';generalize n.pv E=n';intro hk hs
  cases s'<;>cases n'<;>(try (simp only at hk;done))
  ·rename_i w1 a1 l1 c1 k2 n
   cases a1 with
   | nils=>
    obtain⟨hc,hk⟩:=hk;simp only [er];refine⟨hc,?_⟩
    by_cases h0:0<n
    ·rw [if_pos h0]at hk ⊢
     obtain⟨r',a'⟩:=r.new (VOKs.ofAVs (zeros z n.toNat));rw [ZX]at r' a'
     exact⟨_,_,_,_,r',a',Nat.lt_succ_self _,by simp [er,putι],hk⟩
    ·rw [if_neg h0]at hk ⊢
     exact⟨.fz true .nils 0 [],_,_,_,r,Aft.refl r,(show VOK Z h σ.next (.fz true .nils 0 []) from⟨.inl ⟨rfl,rfl,rfl⟩,trivial⟩),rfl,hk⟩
   | _=>simp only at hk
  ·rename_i s1 off1 l1 c1 k2 n
   obtain⟨hc,p,hp,hk⟩:=hk;simp only [er]
   by_cases h0:0<n
   ·rw [if_pos h0]at hp ⊢
    have hz:VOKs Z h σ.next (ofAVs (zeros z n.toNat)):=VOKs.ofAVs _;obtain⟨q,hq,ι',Z',r',a',hv,e⟩:=zEK r hs hz hp;rw [ZX]at hq
    exact⟨hc,q,hq,_,_,_,_,r',a',hv,e,hk⟩
   ·rw [if_neg h0]at hp ⊢
    obtain⟨v,hv',rfl⟩:=Option.map_eq_some_iff.1 hp;obtain⟨h1,h2⟩:=zEI (ι:=ι) hs hv';simp only [er]at h1
    rw [h1];exact⟨hc,_,rfl,_,_,_,_,r,Aft.refl r,h2,rfl,hk⟩
 case append sz bytes s x=>
  obtain⟨p,hp,hk⟩:=hk;obtain⟨q,hq,ι',Z',r',a',hv,e⟩:=zGz r (he.pv s) (he.pv x) hp;exact⟨q,hq,_,_,_,_,r',a',hv,e,hk⟩
 case copy sz s x=>
  obtain⟨p,hp,hk⟩:=hk;obtain⟨q,hq,ι',Z',r',a',hv,e⟩:=zJH r (he.pv s) (he.pv x) hp;exact⟨q,hq,_,_,_,_,r',a',hv,e,hk⟩
 case call f args=>
  have:=hk ι Z h r (he.pvs args)
  rw [zCB]at this
  simpa only [←er_pv]using this
 case callV f args=>
  have hx:=he.pv f
  revert hk hx;generalize f.pv E=f';intro hk hx
  cases f'<;>simp only at hk
  rename_i f first caps
  obtain⟨h1,h2⟩:=hk
  have:=h2 ι Z h r ((hx.1.append (he.pvs args)).append hx.2)
  rw [Zk,Zk,zCB]at this
  simp only [er];exact⟨h1,by simpa only [←er_pv]using this⟩
 case strOf x=>
  obtain⟨s,hs,hk⟩:=hk;unfold zDA at hs
  simp only [Option.bind_eq_some_iff]at hs
  obtain⟨k,hk1,cs,hc,hb⟩:=hs;obtain⟨g1,g2⟩:=zBM r (he.pv x) hc;refine⟨s,?_,.str s,_,_,_,r,Aft.refl r,trivial,rfl,hk⟩;simp only [zAu (he.pv x) hk1,Option.bind_some,g1];exact zC9 hb
 case makeMap=>
  obtain⟨r',a'⟩:=r.new (cs:=[]) trivial;exact⟨.mref σ.next,_,_,_,r',a',(show σ.next<σ.next+1 from Nat.lt_succ_self _),by simp [er,putι],hk⟩
 case lookup kt z x k=>
  have hkv:=he.pv k
  revert hk hkv;generalize x.pv E=x';generalize k.pv E=k';intro hk hkv
  cases x'<;>simp only at hk
  rename_i s
  obtain⟨rr,hv,hk⟩:=hk;simp only [Option.bind_eq_some_iff]at hv
  obtain⟨cs,hs,hv⟩:=hv
  split at hv
  ·rename_i hf
   obtain⟨h1,h2,_⟩:=r.obj s cs hs;obtain⟨g1,g2⟩:=zHs ι hf hv;simp only [er];refine⟨rr.map (er ι),by rw [h1];simp only [Option.bind_some,if_pos (zCT ι hf),g1];rfl,rr.getD (ofAV z),_,_,_,r,Aft.refl r,?_,?_,hk⟩
   ·cases rr with
    | none=>exact VOK.ofAV _
    | some v=>exact ZW.1 h2 v (g2 v rfl)
   ·cases rr with
    | none=>exact(zDw _ _).symm
    | some v=>rfl
  ·cases hv
 case mapUpd kt x k v=>
  have hkv:=he.pv k;have hvv:=he.pv v
  revert hk hkv hvv;generalize x.pv E=x';generalize k.pv E=k';generalize v.pv E=v';intro hk hkv hvv
  cases x'<;>simp only at hk
  rename_i s
  obtain⟨ds,hw,hk⟩:=hk;simp only [Option.bind_eq_some_iff]at hw
  obtain⟨cs,hs,hw⟩:=hw
  split at hw
  ·rename_i hf
   obtain⟨h1,h2,_⟩:=r.obj s cs hs;obtain⟨g1,g2⟩:=zHr ι hf.1 hw;have hds:VOKs Z h σ.next ds:=ZW.2 fun u hu=>by
    rcases g2 u hu with rfl|rfl|h
    ·exact hkv
    ·exact hvv
    ·exact ZW.1 h2 u h
   obtain⟨r',a'⟩:=r.set hs hds;have hl:(er ι v').leaf=true:=by
    have:=hf.2
    cases v'<;>simp only [PV.leaf,reduceCtorEq]at this<;>rfl
   simp only [er];exact⟨ers ι ds,by rw [h1];simp only [Option.bind_some,if_pos (⟨zCT ι hf.1,hl⟩:_∧_),g1];rfl,.undef,_,_,_,r',a',trivial,rfl,hk⟩
  ·cases hw
end Go.Ab
