/- Sets of numbers as bits: the operations; the program's extension of a set by a number. -/
import Derived.Test.YtjlpbpfaihhamaaGreatBP43
import Derived.Test.YtjlpbpfaihhamaaGreatBP34
import Derived.Test.YtjlpbpfaihhamaaGreatBP30
import Derived.Test.YtjlpbpfaihhamaaGreatBP32
import Derived.Test.YtjlpbpfaihhamaaGreatBP37
import Derived.Test.YtjlpbpfaihhamaaGreatBP29
import Derived.Test.YtjlpbpfaihhamaaGreatBAbPz
import Derived.Test.YtjlpbpfaihhamaaGreatBAbPq
import Derived.Test.YtjlpbpfaihhamaaGreatBAbPa
open Int renaming reduceNatCast'→iQ0
set_option maxRecDepth 100000
namespace Go.Grp
end Go.Grp
set_option linter.unusedSimpArgs false
set_option linter.unusedVariables false
namespace Go.Proofs
open Go.Ab Go.Lie Go.Grp
variable {σ h h':PHeap} {K:PV→PHeap→Prop} {O x y:List Int} {P:List (List Int)} {C:List (List (List Int))} {vO vP vC vx vL vU:PV} {L u:List (List Int)} {D R:List (Option (List Int))} {rb rr:List PV} {d n sT sp:Nat}
def qJ (O:List Int) (P:List (List Int)) (C:List (List (List Int))) (u:List (List Int)):Prop:=(∀x∈u,gS O x)∧CanG O (GC O P C u) u
theorem zIU (g:LG O P C) (hs:PtrG σ sp vO vP vC) (hR:IsPr vO vP vC O P C) (hL:FII vL L) (hg:∀x∈L,gS O x) (hLl:L.length≤1000000)
  (hk:∀v u,FII v u→CanG O (GC O P C L) u→K v σ):zA Tryz.prog 139 [.ptr sp 0,vL] σ K:=by
 have s:=g.s;have F:=g.F;have hC:=g.cent;have hp:=qi.isp g.pr;have hL0:=hL;obtain⟨wl,al,rl,rfl,hrl⟩:=hL;refine zA.gh ?_;refine zB mix Tryz.func139 ?_;simp only [pwA,seval,-iQ0];refine zAV s hs hR fun ss sb h1 k1 n1 n2 q1=>?_
 simp only [pwA,seval,-iQ0];refine zIs s F hC hp q1 hR (OkD.start O.length rfl) ⟨by simp,fun k c r hc hr=>?_⟩ (QI.start _) hL0 hg hLl fun t rb' D' hrb' hD' hQ' hN' hf hf'=>?_
 ·rw [List.getElem?_replicate]at hc hr
  split at hc
  ·rename_i h
   rw [if_pos h]at hr
   cases hc;cases hr;exact .inl ⟨rfl,rfl⟩
  ·cases hc
 simp only [pwA,seval,-iQ0];refine zDc s F hC (q1.setB rb') hR hD' hrb' fun v u f1 cd=>?_
 simp only [pwA,seval,-iQ0];exact Gh.fin0 (k1.set n2 _) (f1.bel _) (hk v u f1 (cd.can s F hC hD' hQ' fun N hN=>(hN' N hN).trans ⟨fun h=>h.2,fun h=>⟨InD.start _,h⟩⟩))
theorem qJ.len (h:qJ O P C u):u.length≤O.length:=h.2.len
theorem zH9 (g:LG O P C) {H:List Int→Prop} (hH:gB O P C H) (hu:CanG O H u) {x z:List Int} (hx:gS O x) (hz:gS O z) (h0:∀v∈u,at_ z (dep v)=0) (hN:∀N,gB O P C N→(∀v∈u,N v)→(N x↔N z)):z=zv O↔H x:=by
 have s:=g.s;constructor
 ·rintro rfl
  exact(hN H hH hu.mem).2 hH.one
 ·intro h
  have hzH:=(hN H hH hu.mem).1 h;rcases Nat.lt_or_ge (dep z) O.length with hd|hd
  ·obtain⟨v,hv,e⟩:=hu.all z hzH hd
   exact absurd (by rw [←e];exact h0 v hv) (Z4 (by rw [hz.len];exact hd))
  ·exact Zz hz hd
theorem zC1 (hU:FII vU []) (hvx:FI vx []) (hk:∀w a,K (.fz w a 0 []) σ):zA Tryz.prog 179 [.ptr sp 0,vU,vx] σ K:=by
 obtain⟨wx,ax,rfl⟩:=hvx;have hUU:=hU;obtain⟨wl,al,rl,rfl,hrl⟩:=hU;refine zA.gh ?_;refine zB mix Tryz.func179 ?_;simp only [pwA,seval,-iQ0];refine Qy rfl (by simp) ⟨fun h0=>?_,fun cap hc=>?_⟩
 ·simp only [pwA,seval,-iQ0]
  refine QX hUU (fun v hv=>by cases hv) (by simp) fun vp=>?_
  simp only [pwA,seval,-iQ0];refine zD (fun m vs h'=>vs=[.ptr sp 0,.fz wl al 0 rl,.fz true .nils 0 [],.fz true vp 0 (pis (deps [])),.int .i64 0,.int .i64 0]∧h'=σ) 0 ⟨rfl,rfl⟩ ?_
  rintro m vs h' ⟨rfl,rfl⟩
  simp only [pwA,seval,-iQ0];exact Gh.fin0 (Keep.refl _) trivial (hk _ _)
 ·simp only [pwA,seval,-iQ0]
  refine QX hUU (fun v hv=>by cases hv) (by simp) fun vp=>?_
  simp only [pwA,seval,-iQ0];refine zD (fun m vs h'=>vs=[.ptr sp 0,.fz wl al 0 rl,.sl σ.next 0 0 cap,.fz true vp 0 (pis (deps [])),.int .i64 0,.int .i64 0]∧h'=σ.new []) 0 ⟨rfl,rfl⟩ ?_
  rintro m vs h' ⟨rfl,rfl⟩
  simp only [pwA,seval,-iQ0];exact Gh.finF (s:=σ.next) (cs:=[]) (zC σ _) (by simp only [pwA,seval,-iQ0]) (Nat.le_refl _) trivial hc.ok fun o=>hk _ _
theorem zES (g:LG O P C) (hs:PtrG σ sp vO vP vC) (hR:IsPr vO vP vC O P C) (hU:FII vU u) (hu:qJ O P C u) (hx:gS O x) (hvx:FI vx x) (hk:∀t:Bool,(t=true↔GC O P C u x)→K (.bool t) σ):zA Tryz.prog 136 [.ptr sp 0,vU,vx] σ K:=by
 have s:=g.s;have F:=g.F;have hn6:=s.le;have hul:=hu.len;rcases Nat.eq_zero_or_pos O.length with hn|hn
 ·obtain rfl:u=[]:=List.eq_nil_of_length_eq_zero (by omega)
  obtain rfl:x=[]:=List.eq_nil_of_length_eq_zero (by rw [hx.len,hn])
  refine zB mix Tryz.func136 ?_;simp only [pwA,seval,-iQ0];refine zC1 hU hvx fun w a=>?_
  simp only [pwA,seval,-iQ0];refine zDO (xs:=[]) rfl (by simp) ?_
  simp only [pwA,seval,-iQ0];refine hk _ ?_;rw [decide_eq_true_iff];refine⟨fun _=>?_,fun _ x hx=>by cases hx⟩
  have:=(GC.sub (L:=[]) F (fun x hx=>by cases hx)).one
  rwa [show zv O=[] from List.eq_nil_of_length_eq_zero (by simp [zv,hn])]at this
 refine zB mix Tryz.func136 ?_;simp only [pwA,seval,-iQ0];refine zAs s F g.cent hn hs hR hU hu.2.one hu.2.asc (by omega) hx hvx fun o cap z hz h1 h0 hN=>?_
 have hzl:=hz.len;simp only [pwA,seval,-iQ0];refine zDO hzl.symm (by omega) ?_
 simp only [pwA,seval,-iQ0];refine hk _ ?_;rw [decide_eq_true_iff,zRj hzl];exact zH9 g (GC.sub F hu.1) hu.2 hx hz h0 hN
theorem zGN (hR:IsPr vO vP vC O P C) (szO:O.length≤1048576) (bO:∀o∈O,isP o) (hL:FII vL L) (sz:SzL L) (hk:∀t:Bool,(t=true↔∀x∈L,isExp O x)→K (.bool t) σ):zA Tryz.prog 63 [.agg [vO,vP,vC],vL] σ K:=by
 have fl:∀{A:Prop},¬A→((false=true)↔A):=fun h=>⟨fun x=>(by cases x),fun x=>absurd x h⟩
 have h0:=hR.O.one;have h1:=hR.P.one;have h2:=hR.C.one;have hxl:=sz.l;obtain⟨wl,al,rl,rfl,hrl⟩:=hL;refine zA.gh ?_;refine zB mix Tryz.func63 ?_;simp only [pwA,seval,-iQ0,h0,h1,h2];have hkp:Keep σ (σ.new [vO,vP,vC]):=zC σ _;have hld:(σ.new [vO,vP,vC]).rd σ.next 0 3=some [vO,vP,vC]:=by simp only [pwA,seval,-iQ0]
 generalize σ.new [vO,vP,vC]=H at *
 refine zD (fun m us h'=>∃i:Nat,i≤L.length∧m=L.length-i∧us=[.fz wl al L.length rl,.ptr σ.next 0,.int .i64 i]∧H=h'∧∀x∈L.take i,isExp O x) L.length ⟨0,by omega,by omega,rfl,rfl,by simp⟩ ?_
 rintro m us h' ⟨i,hi,rfl,rfl,rfl,hall⟩
 simp only [pwA,seval,-iQ0];refine iteI (fun hlt=>?_) fun hge=>?_
 rotate_left
 ·have hie:i=L.length:=by omega
  subst hie;rw [List.take_length]at hall
  exact Gh.fin0 hkp trivial (hk _ ⟨fun _=>hall,fun _=>rfl⟩)
 obtain⟨w4,a4,hr⟩:=hrl.rowI hlt;have hxi:=sz.r _ (List.getElem_mem hlt);simp only [pwA,seval,-iQ0,hlt,hr,hld];refine zIM hR szO bO ⟨w4,a4,rfl⟩ hxi fun t ht=>?_
 cases t with
 | false=>
  simp only [pwA,seval,-iQ0];exact Gh.fin0 hkp trivial (hk _ (fl fun h=>by have:=ht.2 (h _ (List.getElem_mem hlt));cases this))
 | true=>
 have h3:=ht.1 rfl;simp only [pwA,seval,-iQ0,wrapS hlt (by omega:L.length≤4611686018427387904)]
 refine⟨_,by omega,i+1,by omega,rfl,rfl,fun x hx=>?_⟩
 rw [List.take_succ_eq_append_getElem hlt,List.mem_append,List.mem_singleton]at hx
 rcases hx with hx|hx
 ·exact hall x hx
 ·rw [hx];exact h3
theorem zOk (g:LG O P C) (hR:IsPr vO vP vC O P C) (hU:FII vU u) (szu:SzL u) (hk:∀t:Bool,(t=true↔qJ O P C u)→K (.bool t) σ):zA Tryz.prog 66 [.agg [vO,vP,vC],vU] σ K:=by
 have fl:∀{A:Prop},¬A→((false=true)↔A):=fun h=>⟨fun x=>(by cases x),fun x=>absurd x h⟩
 have h1:=hR.P.one;have h2:=hR.C.one;have s:=g.s;have F:=g.F;have hn6:=s.le;have hul:=szu.l;have hU0:=hU;have hR0:=hR;obtain⟨⟨w0,a0,rfl⟩,_,_⟩:=hR;obtain⟨wu,au,ru,rfl,hru⟩:=hU;refine zA.gh ?_;refine zB mix Tryz.func66 ?_;have hkp:Keep σ (σ.new [.fz w0 a0 O.length (pis O),vP,vC]):=zC σ _
 by_cases hlen:u.length≤O.length
 rotate_left
 ·have hl:¬((u.length:Int)≤(O.length:Int)):=by omega
  simp only [pwA,seval,-iQ0,h1,h2,hlen,hl,decide_false];exact Gh.fin0 hkp trivial (hk _ (fl fun h=>hlen h.len))
 have hl:(u.length:Int)≤(O.length:Int):=by omega
 simp only [pwA,seval,-iQ0,h1,h2,hlen,hl,decide_true];refine zGN hR0 (by omega) (qi.isp g.pr) hU0 szu fun t ht=>?_
 cases t with
 | false=>
  simp only [pwA,seval,-iQ0];exact Gh.fin0 hkp trivial (hk _ (fl fun h=>by have:=ht.2 fun x hx=>zM6.2 (h.1 x hx);cases this))
 | true=>
 have hgu:∀x∈u,gS O x:=fun x hx=>(ht.1 rfl x hx).gS
 simp only [pwA,seval,-iQ0];refine zBu g hR0 hU0 szu hgu fun v z hv hz=>?_
 simp only [pwA,seval,-iQ0];have hzl:=hz.len;refine zFj hv hU0 (by omega) (fun x hx=>by have:=(hz.one x hx).1.len;omega) fun t ht=>?_
 simp only [pwA,seval,-iQ0];exact Gh.fin0 hkp trivial (hk _ (ht.trans ⟨fun e=>⟨hgu,by rw [e]at hz;exact hz⟩,fun h=>hz.unique s F (GC.sub F hgu) h.2⟩))
end Go.Proofs
namespace Go.Grp
end Go.Grp
namespace Go.Proofs
open Go.Ab Go.Lie Go.Grp
variable {σ h h':PHeap} {K:PV→PHeap→Prop} {O x y:List Int} {P:List (List Int)} {C:List (List (List Int))} {vO vP vC vx vL vU vT:PV} {L u:List (List Int)} {D R:List (Option (List Int))} {rb rr:List PV} {d n sT sp:Nat}
theorem zMr {l:Nat} {w:Bool} {a:AV} {xs:List Int} (hl:l=xs.length) (hb:xs.length≤1048576) (hk:K (.int .i64 (dep xs)) σ):zA Tryz.prog 161 [.fz w a l (pis xs)] σ K:=by
 subst hl;refine zB mix Tryz.func161 ?_;simp only [pwA,seval,-iQ0];refine zD (fun m vs h'=>∃i:Nat,i≤dep xs∧m=dep xs-i∧vs=[.fz w a xs.length (pis xs),.int .i64 i]∧σ=h') (dep xs) ?_ ?_
 ·exact⟨0,by omega,by omega,rfl,rfl⟩
 rintro m vs h' ⟨i,hi,rfl,rfl,rfl⟩
 have hdl:=zBT xs
 by_cases hlt:i<xs.length
 ·simp only [pwA,seval,-iQ0,hlt,zL,gi hlt]
  by_cases h0:xs[i]=0
  ·have hid:i<dep xs:=by
    rcases Nat.lt_or_ge i (dep xs)with x|x
    ·exact x
    ·have:i=dep xs:=by omega
     subst this;exact absurd (by rw [at_eq hlt];exact h0) (Z4 hlt)
   simp only [pwA,seval,-iQ0,h0,wrapS hlt (by omega:xs.length≤4611686018427387904)]
   exact⟨_,by omega,i+1,by omega,rfl,rfl⟩
  ·have hid:i=dep xs:=by
    rcases Nat.lt_or_ge i (dep xs)with x|x
    ·exact absurd (by rw [←at_eq hlt];exact qw x) h0
    ·omega
   subst hid;simp only [pwA,seval,-iQ0,h0];exact hk
 ·have hid:i=dep xs:=by omega
  have hxe:xs.length=dep xs:=by omega
  simp only [pwA,seval,-iQ0,hlt];rw [hxe];exact hk
theorem Qo {l:Nat} {w:Bool} {a:AV} (hl:l=x.length) (hb:x.length≤1048576) (hk:K (.int .i64 (dep x)) σ):zA Tryz.prog 113 [.fz w a l (pis x)] σ K:=by
 refine zB mix Tryz.func113 ?_;simp only [pwA,seval,-iQ0];refine zMr hl hb ?_;simp only [pwA,seval,-iQ0];exact hk
structure TabD (O:List Int) (u:List (List Int)) (D:List (Option (List Int))):Prop where
 ok:OkD O D
 sub:∀(d:Nat) (b:List Int),D[d]? = some (some b)→b∈u∧dep b=d
 all:∀v∈u,D[dep v]? = some (some v)
theorem TabD.ind {N:List Int→Prop} (t:TabD O u D):InD N D↔∀v∈u,N v:=
 ⟨fun h v hv=>h _ v (t.all v hv),fun h d b hb=>h b (t.sub d b hb).1⟩
theorem zJc (hn:O.length≤6) (hR:IsPr vO vP vC O P C) (hU:FII vU u) (hul:u.length≤1000) (one:∀v∈u,gS O v∧dep v<O.length∧at_ v (dep v)=1) (asc:u.Pairwise fun a b=>dep a<dep b)
  (hk:∀a rb D,All2 (DRf O.length) rb D→TabD O u D→K (.fz true a O.length rb) σ):zA Tryz.prog 160 [.agg [vO,vP,vC],vU] σ K:=by
 have h1:=hR.P.one;have h2:=hR.C.one;obtain⟨⟨w0,a0,rfl⟩,hRP,hRC⟩:=hR;obtain⟨wu,au,ru,rfl,hru⟩:=hU;refine zA.gh ?_;refine zB mix Tryz.func160 ?_;simp only [pwA,seval,-iQ0,h1,h2,mk24 (n:=O.length) (by omega),mkL (n:=O.length) (by omega)]
 refine zD (fun m vs h'=>∃(i:Nat) (rb:List PV) (D:List (Option (List Int))),i≤u.length∧m=u.length-i∧vs=[.fz wu au u.length ru,.sl (σ.next+1) 0 O.length (.known O.length),.int .i64 i]∧h'=(σ.new [.fz w0 a0 O.length (pis O),vP,vC]).new rb∧All2 (DRf O.length) rb D∧TabD O (u.take i) D) u.length ?_ ?_
 ·refine⟨0,_,List.replicate O.length none,by omega,by omega,rfl,rfl,DRf.start _ _,⟨OkD.start _ rfl,fun d b hb=>?_,fun v hv=>by simp at hv⟩⟩
  exact(zEo hb).elim
 rintro m vs h' ⟨i,rb,D,hi,rfl,rfl,rfl,hrb,hD⟩
 simp only [pwA,seval,-iQ0];refine iteI (fun hlt=>?_) fun hge=>?_
 rotate_left
 ·have hie:i=u.length:=by omega
  subst hie;rw [List.take_length]at hD
  exact Gh.finF (s:=σ.next+1) ((zC σ _).new _) (by simp only [pwA,seval,-iQ0]) (by omega) (DRf.bels hrb 0) (by simp [capOK]) fun o=>hk _ rb D hrb hD
 obtain⟨w4,a4,hr⟩:=hru.rowI hlt;obtain⟨u1,u2,u3⟩:=one _ (List.getElem_mem hlt);have hul':=u1.len;simp only [pwA,seval,-iQ0,hlt,hr];refine Qo rfl (by omega) ?_
 have hlen:rb.length=O.length:=by rw [hrb.1];exact hD.ok.len
 have hdb:dep u[i] + 1≤rb.length:=by omega
 simp only [pwA,seval,-iQ0,u2,hdb,wrapS hlt (by omega:u.length≤4611686018427387904)]
 have hfree:D[dep u[i]]? = some none:=by
  have hl:dep u[i] < D.length:=by rw [hD.ok.len];exact u2
  rw [List.getElem?_eq_getElem hl];cases hc:D[dep u[i]]with
  | none=>rfl
  | some b=>
   exfalso
   obtain⟨hb1,hb2⟩:=hD.sub _ b (by rw [List.getElem?_eq_getElem hl,hc])
   obtain⟨k,hk1,rfl⟩:=List.mem_take_iff_getElem.1 hb1
   have:=List.pairwise_iff_getElem.1 asc k i (by omega) hlt (by omega)
   omega
 have hset:List.take (dep u[i]) rb++[PV.fz w4 a4 u[i].length (pis u[i])]++List.drop (dep u[i] + 1) rb=rb.set (dep u[i]) (.fz w4 a4 u[i].length (pis u[i])):=by
  rw [List.set_eq_take_append_cons_drop,if_pos (by omega),List.append_assoc]
  rfl
 rw [hset];refine⟨hr,_,by omega,i+1,rb.set (dep u[i]) (.fz w4 a4 u[i].length (pis u[i])),D.set (dep u[i]) (some u[i]),by omega,rfl,rfl,rfl,DRf.put hrb ⟨w4,a4,rfl⟩ hul',?_⟩
 ·have htk:∀{v:List Int},v∈u.take (i+1)↔v∈u.take i∨v=u[i]:=fun {v}=>by
   rw [List.take_succ_eq_append_getElem hlt,List.mem_append,List.mem_singleton]
  refine⟨hD.ok.put u2 (Ze u1) u3,fun d b hb=>?_,fun v hv=>?_⟩
  ·rw [List.getElem?_set]at hb
   split at hb
   ·rename_i he
    split at hb
    ·cases hb
     exact⟨htk.2 (.inr rfl),he⟩
    ·cases hb
   ·obtain⟨p1,p2⟩:=hD.sub d b hb
    exact⟨htk.2 (.inl p1),p2⟩
  ·rcases htk.1 hv with hv | rfl
   ·have hv2:=hv
    obtain⟨k,hk1,rfl⟩:=List.mem_take_iff_getElem.1 hv
    have:=List.pairwise_iff_getElem.1 asc k i (by omega) hlt (by omega)
    rw [List.getElem?_set,if_neg (by omega)]
    exact hD.all _ hv2
   ·rw [List.getElem?_set,if_pos rfl,if_pos (by rw [hD.ok.len];exact u2)]
theorem zIK (g:LG O P C) (hR:IsPr vO vP vC O P C) {wT:Bool} {aT:AV} (hrb:All2 (DRf O.length) rb D) (hD:OkD O D) (hx:gS O x) (hvx:FI vx x)
  (hk:∀v z,FI v z→gS O z→(∀(d:Nat) (b:List Int),D[d]? = some (some b)→at_ z d=0)→(∀N,gB O P C N→InD N D→(N x↔N z))→K v σ):zA Tryz.prog 159 [.agg [vO,vP,vC],.fz wT aT O.length rb,vx] σ K:=by
 have h0:=hR.O.one;have h1:=hR.P.one;have h2:=hR.C.one;have s:=g.s;have F:=g.F;have G:=F.g;have hn6:=s.le;have hxl:=hx.len;refine zA.gh ?_;refine zB mix Tryz.func159 ?_;simp only [pwA,seval,-iQ0,h0,h1,h2,hvx.one];obtain⟨wx0,ax0,rfl⟩:=hvx;refine zDM rfl (by omega) fun ax=>?_
 have hld:(σ.new [vO,vP,vC]).rd σ.next 0 3=some [vO,vP,vC]:=by simp only [pwA,seval,-iQ0]
 simp only [pwA,seval,-iQ0];refine zD (fun m vs h'=>∃(i:Nat) (z:List Int) (w:Bool) (a:AV),i≤O.length∧m=O.length-i∧vs=[.fz wT aT O.length rb,.ptr σ.next 0,.fz w a O.length (pis z),.int .i64 i]∧h'=σ.new [vO,vP,vC]∧gS O z∧(∀(d:Nat) (b:List Int),d<i→D[d]? = some (some b)→at_ z d=0)∧∀N,gB O P C N→InD N D→(N x↔N z)) O.length ⟨0,x,true,ax,by omega,by omega,by rw [hxl];rfl,rfl,hx,fun d b hd=>by omega,fun _ _ _=>Iff.rfl⟩ ?_
 rintro m vs h' ⟨i,z,w,a,hi,rfl,rfl,rfl,hz,hzero,hN⟩
 have hzl:=hz.len;simp only [pwA,seval,-iQ0];refine iteI (fun hlt=>?_) fun hge=>?_
 rotate_left
 ·have hie:i=O.length:=by omega
  exact Gh.fin0 (zC σ _) trivial (hk _ z ⟨w,a,by rw [hzl]⟩ hz (fun d b hb=>hzero d b (by
   rw [hie,←hD.len];rcases Nat.lt_or_ge d D.length with h|h
   ·exact h
   ·rw [List.getElem?_eq_none h]at hb;cases hb) hb) hN)
 have hlt':i<O.length:=by omega
 have hlz:i<z.length:=by omega
 have bz:=hz.bd i hlt';have bO:=s.pr i hlt';rw [at_eq hlz]at bz
 have d0:decide ((0:Int)<((0:Nat):Int))=false:=rfl;rcases DRf.get hrb (d:=i) (by rw [hD.len];exact hlt')with ⟨e1,e2⟩|⟨w4,a4,y,e1,e3,e2⟩
 ·simp only [pwA,seval,-iQ0,hlt',e1,d0,wrapS hlt' (by omega:O.length≤4611686018427387904)]
  refine⟨_,by omega,i+1,z,w,a,by omega,rfl,rfl,hz,fun d b hd hb=>?_,hN⟩
  by_cases e:d=i
  ·subst e;rw [e2]at hb;cases hb
  ·exact hzero d b (by omega) hb
 have dp:((0:Int)<((O.length:Nat):Int))=True:=by simp;omega
 by_cases hz0:z[i]=0
 ·simp only [pwA,seval,-iQ0,hlt',e1,dp,hlz,zL,gi hlz,hz0,wrapS hlt' (by omega:O.length≤4611686018427387904)]
  refine⟨_,by omega,i+1,z,w,a,by omega,rfl,rfl,hz,fun d b hd hb=>?_,hN⟩
  by_cases e:d=i
  ·subst e;rw [at_eq hlz];exact hz0
  ·exact hzero d b (by omega) hb
 obtain⟨y1,y2⟩:=hD.row _ _ e2;have yS:gS O y:=y1.mono (Nat.zero_le _);have hneg:IntKind.i64.wrap (0-z[i])=-z[i]:=by rw [wrap64 (by omega) (by omega)];omega
 simp only [pwA,seval,-iQ0,hlt',e1,dp,hlz,zL,gi hlz,hz0,hld,hneg];refine zCa g hR yS ⟨w4,a4,by rw [e3]⟩ (by omega) fun v1 f1=>?_
 simp only [pwA,seval,-iQ0,hld];obtain⟨q1,q2,q3,q4⟩:=zCG s F g.cent hlt' hz y1 y2;have ek:(-(-z[i])).toNat=(at_ z i).toNat:=by rw [Int.neg_neg,at_eq hlz]
 rw [ek]at f1
 have ib:=(G.inv_in yS).1;have pS:=G.pw ib (at_ z i).toNat;refine Zn s hR hz pS ⟨w,a,by rw [hzl]⟩ f1 fun v2 f2=>?_
 obtain⟨w5,a5,rfl⟩:=f2;have q1l:=q1.len;simp only [pwA,seval,-iQ0,wrapS hlt' (by omega:O.length≤4611686018427387904)]
 refine⟨_,by omega,i+1,_,w5,a5,by omega,rfl,by rw [q1l],q1,fun d b hd hb=>?_,fun N h3 h4=>(hN N h3 h4).trans ?_⟩
 ·by_cases e:d=i
  ·subst e;exact q4
  ·rw [q3 d (by omega)];exact hzero d b (by omega) hb
 ·have nb:N y:=h4 i y e2
  refine⟨fun hh=>?_,fun hh=>?_⟩
  ·exact h3.cl hh (h3.pw (h3.inv nb) _)
  ·have:=h3.cl hh (h3.pw nb (at_ z i).toNat)
   rwa [q2]at this
theorem zMp (g:LG O P C) (hR:IsPr vO vP vC O P C) {H:List Int→Prop} (hH:gB O P C H) (hU:FII vU u) (hu:CanG O H u) (hx:gS O x) (hvx:FI vx x) (hk:∀t:Bool,(t=true↔H x)→K (.bool t) σ):zA Tryz.prog 67 [.agg [vO,vP,vC],vU,vx] σ K:=by
 have h0:=hR.O.one;have h1:=hR.P.one;have h2:=hR.C.one;have hn6:=g.s.le;have hul:=hu.len;have sift:∀{σ:PHeap} {K:PV→PHeap→Prop},(∀v z,FI v z→gS O z→(z=zv O↔H x)→K v σ)→zA Tryz.prog 112 [.agg [vO,vP,vC],vU,vx] σ K:=fun {σ K} hk=>by
  refine zA.gh ?_;refine zB mix Tryz.func112 ?_;simp only [pwA,seval,-iQ0,h0,h1,h2,hvx.one,hU.one];refine zJc hn6 hR hU (by omega) hu.one hu.asc fun a rb D hrb hD=>?_
  simp only [pwA,seval,-iQ0,h0,h1,h2];refine zIK g hR hrb hD.ok hx hvx fun v z hv hz hz0 hN=>?_
  simp only [pwA,seval,-iQ0];refine Gh.fin0 (zC σ _) (hv.bel _) (hk v z hv hz (zH9 g hH hu hx hz (fun w hw=>hz0 _ _ (hD.all w hw)) fun N h3 h4=>hN N h3 (hD.ind.2 h4)))
 refine zA.gh ?_;refine zB mix Tryz.func67 ?_;simp only [pwA,seval,-iQ0,h0,h1,h2,hvx.one,hU.one];refine sift fun v z hv hz hzH=>?_
 obtain⟨wx,ax,rfl⟩:=hv;have hzl:=hz.len;simp only [pwA,seval,-iQ0];refine zLF rfl (by omega) ?_
 simp only [pwA,seval,-iQ0];refine Gh.fin0 (zC σ _) trivial (hk _ ?_);rw [decide_eq_true_iff,←hzH];constructor
 ·intro h
  refine hz.ext (g.s.zv _) fun j _ _=>?_
  rw [zRk h];exact(Zu _ j).symm
 ·rintro rfl y hy
  exact List.eq_of_mem_replicate hy
end Go.Proofs
namespace Go.Grp
end Go.Grp
namespace Go.Proofs
open Go.Ab Go.Lie Go.Grp
variable {σ h h':PHeap} {K:PV→PHeap→Prop} {O x y a w:List Int} {P:List (List Int)} {C:List (List (List Int))} {vO vP vC vx vL v8 v9:PV} {L:List (List Int)} {s:BS} {bs r8 r9:List PV} {N j k:Nat}
theorem zOl (hR:IsPr vO vP vC O P C) (hb:O.length≤1000) (hk:∀v,FI v (zv O)→K v σ):zA Tryz.prog 107 [.agg [vO,vP,vC]] σ K:=by
 have h1:=hR.P.one;have h2:=hR.C.one;obtain⟨⟨w0,a0,rfl⟩,hRP,hRC⟩:=hR;refine zA.gh ?_;refine zB mix Tryz.func107 ?_;simp only [pwA,seval,-iQ0,h1,h2,mk8 (n:=O.length) (by omega),mkL (n:=O.length) (by omega),List.length_replicate,ZJ]
 refine Gh.finF (s:=σ.next+1) ((zC σ _).new _) (cs:=pis (List.replicate O.length 0)) (by simp only [pwA,seval,-iQ0,ZJ]) (by omega) (zo _ _) (by simp [capOK]) fun o=>hk _ ⟨true,.sl o 0 O.length (.known O.length),?_⟩
 simp [zv]
theorem zJ9 (O:List Int):∀i,numF O (zv O) i=0
 | 0=>rfl
 | i+1=>by rw [numF,zJ9 O i,show at_ (zv O) i=0 from Zu _ _];omega
end Go.Proofs
namespace Go.Grp
end Go.Grp
namespace Go.Proofs
open Go.Ab Go.Lie Go.Grp
variable {σ h h':PHeap} {K:PV→PHeap→Prop} {O:List Int} {P:List (List Int)} {C:List (List (List Int))} {vO vP vC vx vM vA v:PV} {x:List Int} {A M:List (List Int)} {sp se:Nat}
theorem Owns.append {lo t hi:Nat} {a b:List PV} (h:Owns lo t a) (g:Owns t hi b) (hl:lo≤t) (ht:t≤hi):Owns lo hi (a++b):=by
 refine⟨qy.2 fun c hc=>?_,?_,fun o ho=>?_⟩
 ·rcases List.mem_append.1 hc with hc | hc
  ·exact qy.1 h.wh c hc
  ·exact qy.1 g.wh c hc
 ·rw [qX,List.nodup_append]
  refine⟨h.nd,g.nd,fun x hx y hy e=>?_⟩
  have:=h.lt x hx
  have:=g.lt y hy
  omega
 ·rw [qX,List.mem_append]at ho
  rcases ho with ho|ho
  ·have:=h.lt o ho;omega
  ·have:=g.lt o ho;omega
theorem zNC {w:Bool} {a:AV}:FG (.fz w a 0 []) []:=⟨w,a,[],rfl,All2.nil _⟩
theorem zRo {w:Bool} {a:AV} {wO wP wC:PV} (h:IsPr wO wP wC O P C):FG (.fz w a 1 [wO,wP,wC]) [(O,P,C)]:=⟨w,a,[(wO,wP,wC)],rfl,(All2.nil FI3).snoc h⟩
end Go.Proofs
namespace Go.Grp
end Go.Grp
namespace Go.Proofs
open Go.Ab Go.Lie Go.Grp
variable {σ h hE:PHeap} {K:PV→PHeap→Prop} {O x:List Int} {P:List (List Int)} {C:List (List (List Int))}
theorem Gh.pwf {v:PV} (c:PWF σ→Gh σ K v h):Gh σ K v h:=fun w=>c w w
theorem Owns.comm {lo hi:Nat} {a b:List PV} (h:Owns lo hi (a++b)):Owns lo hi (b++a):=by
 have hw:=qy.1 h.wh;have nd:=h.nd;rw [qX]at nd
 refine⟨qy.2 fun c hc=>hw c ?_,?_,fun o ho=>h.lt o ?_⟩
 ·rw [List.mem_append]at hc ⊢;exact hc.symm
 ·rw [qX];exact List.perm_append_comm.nodup_iff.1 nd
 ·rw [qX,List.mem_append]at ho ⊢;exact ho.symm
theorem Owns.ins {lo hi hi' o l:Nat} {cap:Cap} {a b:List PV} {xs:List Int} (h:Owns lo hi (a++b)) (h1:lo≤o) (h2:o<hi') (hh:hi≤hi') (hn:o∉eads (a++b)):Owns lo hi' (a++.fz true (.sl o 0 l cap) l (pis xs)::b):=by
 have e:∀{c:List PV},eads (c++pis xs)=eads c:=fun {c}=>by rw [qX,zE6,List.append_nil]
 have g:=Owns.comm h;have g2:Owns lo hi ((b++a)++pis xs):=⟨qy.2 fun c hc=>(List.mem_append.1 hc).elim (qy.1 g.wh c) (qy.1 (zKM xs) c),by rw [e];exact g.nd,fun o ho=>g.lt o (by rw [e]at ho;exact ho)⟩
 have g3:=Owns.last (l:=l) (cap:=cap) g2 h1 h2 hh (by
  rw [e];intro ho;apply hn;rw [qX,List.mem_append]at ho ⊢
  exact ho.symm)
 rw [List.append_assoc]at g3
 have g4:=Owns.comm g3;rw [List.append_assoc]at g4
 exact g4
theorem PSl.catK {σb h:PHeap} {bytes n m:Nat} {w:Bool} {av:AV} {v:PV} {cs news:List PV} {K:PV×PHeap→Prop} (hk:Keep σb h) (a:PSl σb.next 1 h v n cs) (hl:news.length=m)
  (h1:(n+m)*bytes≤140737488355328) (h2:n+m≤4611686018427387904) (k:∀v' h',Keep σb h'→PSl σb.next 1 h' v' (n+m) (cs++news)→(∀t,t<h.next→(∀off l c,v≠.sl t off l c)→h'.obj t=h.obj t∧∀off l c,v'≠.sl t off l c)→h.next≤h'.next→h'.top=h.top→K (v',h')):optK (qo 1 bytes h v (.fz w av m news)) K:=by
 by_cases h0:m=0
 ·subst h0
  have:news=[]:=List.eq_nil_of_length_eq_zero hl
  subst this;rw [Zw,show plen (.fz w av 0 [])=some 0 from rfl]
  simp only [Option.bind_some,if_true];have hs:psame v=some v:=by
   obtain⟨s,cap,rfl,hc,q2,q3,q4,q5⟩:=a;rcases hc with rfl|rfl
   ·rfl
   ·rw [zEJ,if_pos (Nat.le_refl _)]
  rw [hs];exact Zb rfl (k _ _ hk (by rw [List.append_nil];exact a) (fun t _ hn=>⟨rfl,hn⟩) (Nat.le_refl _) rfl)
 ·refine zAU (PAcc.appS (m:=m) hk (.inr a) rfl h0 (by rw [zBj,if_neg h0,if_pos ⟨Nat.le_refl _,by omega,by omega⟩,List.take_of_length_le (by omega)]) (by omega) h1 h2 fun v' h' k1 k2 k3 k4 k5 htop=>?_)
  exact k v' h' k1 k2 (fun t ht hn=>⟨k3 t ht hn,k4 t ht⟩) (Nat.le_of_lt k5) htop
end Go.Proofs
namespace Go.Grp
end Go.Grp
namespace Go.Proofs
open Go.Ab Go.Lie Go.Grp
variable {σ h hE:PHeap} {K:PV→PHeap→Prop} {O x:List Int} {P:List (List Int)} {C:List (List (List Int))} {vO vP vC vx vL vU:PV} {L u:List (List Int)} {sp:Nat}
theorem zEc {h:PHeap} {s:Nat} {cs vs:List PV} (ho:h.obj s=some cs) (hl:vs.length=cs.length) (h1:vs.all PV.one=true):h.wr s 0 vs=some (h.set s vs):=by
 simp [PHeap.wr,ho,hl,h1]
end Go.Proofs
namespace Go.Grp
end Go.Grp
namespace Go.Proofs
open Go.Ab Go.Lie Go.Grp
variable {σ:PHeap} {K:PV→PHeap→Prop} {O:List Int} {P:List (List Int)} {C:List (List (List Int))} {vO vP vC vx vy vL vU:PV} {x y z f a b:List Int} {L u:List (List Int)} {rP rC rb:List PV} {D:List (Option (List Int))} {d j sp ss sb n:Nat}
theorem zBI (s:Shp O P C) (F:Full O P C O.length) (hC:Go.Grp.Cent O C) (hn:0<O.length) (hs:PtrG σ sp vO vP vC) (hR:IsPr vO vP vC O P C) (hU:FII vU u) (hu:Ones O u) (hasc:u.Pairwise fun a b=>dep a<dep b) (hul:u.length≤1000) (hx:gS O x) (hvx:FI vx x)
  (hk:∀a z t,gS O z→(∀t,(∀v∈u,t<dep v)→∀j,j≤t→at_ z j=at_ x j)→(∀v∈u,at_ z (dep v)=0)→(∀N,gB O P C N→(∀v∈u,N v)→(N x↔N z))→Own σ.top t (.fz true a O.length (pis z))→σ.top≤t→K (.fz true a O.length (pis z)) (σ.up t)):
  zA Tryz.prog 179 [.ptr sp 0,vU,vx] σ K:=by
 have hn6:=s.le;have hxl:=hx.len;have hsl:=hs.lt;obtain⟨wx,ax,rfl⟩:=hvx;have hUU:=hU;obtain⟨wl,al,rl,rfl,hrl⟩:=hU;refine zA.gh ?_;refine zB mix Tryz.func179 ?_;simp only [pwA,seval,-iQ0];refine Qy rfl (by omega) ⟨fun h0=>absurd hxl (by rw [h0];simp;omega),fun cap hc=>?_⟩
 rw [hxl]at hc ⊢
 simp only [pwA,seval,-iQ0];refine QX hUU (fun v hv=>⟨by rw [(hu v hv).1.len];exact(hu v hv).2.1,by rw [(hu v hv).1.len];omega⟩) (by omega) fun vp=>?_
 simp only [pwA,seval,-iQ0];refine zD (fun m vs h'=>∃(i:Nat) (z:List Int),i≤u.length∧m=u.length-i∧vs=[.ptr sp 0,.fz wl al u.length rl,.sl σ.next 0 O.length cap,.fz true vp u.length (pis (deps u)),.int .i64 u.length,.int .i64 i]∧h'=σ.new (pis z)∧gS O z∧(∀t,(∀v∈u,t<dep v)→∀j,j≤t→at_ z j=at_ x j)∧(∀k (hk:k<u.length),k<i→at_ z (dep u[k])=0)∧(∀N,gB O P C N→(∀v∈u,N v)→(N x↔N z))) u.length ⟨0,x,by omega,by omega,rfl,rfl,hx,fun _ _ _ _=>rfl,fun k _ h=>by omega,fun _ _ _=>Iff.rfl⟩ ?_
 rintro m vs h' ⟨i,z,hi,rfl,rfl,rfl,hz,hj,h0,hN⟩
 simp only [pwA,seval,-iQ0];refine iteI (fun hlt=>?_) fun hge=>?_
 rotate_left
 ·exact Gh.own (zC σ _) (by simp only [pwA,seval,-iQ0]) (Nat.le_refl _) (zo _ _) hc.ok (Owns.pis _ _ _) fun o t ho ht=>hk _ z t hz hj (fun v hv=>by
   obtain⟨k,hkl,rfl⟩:=List.mem_iff_getElem.1 hv;exact h0 k hkl (by omega)) hN ho ht
 obtain⟨w4,a4,hr⟩:=hrl.rowI hlt;obtain⟨u1,u2,u3⟩:=hu _ (List.getElem_mem hlt);have hmem:u[i]∈u:=List.getElem_mem hlt;have hpd:(deps u)[i]? = some (dep u[i]:Int):=by simp [deps,hlt]
 simp only [pwA,seval,-iQ0,hlt,zL,hpd];refine zD (fun m vs h'=>∃(z:List Int),m=((at_ O (dep u[i])-at_ z (dep u[i])) % at_ O (dep u[i])).toNat∧vs=[.ptr sp 0,.fz wl al u.length rl,.sl σ.next 0 O.length cap,.int .i64 i,.int .i64 (dep u[i]),.fz true vp u.length (pis (deps u)),.int .i64 u.length,.int .i64 i]∧h'=σ.new (pis z)∧gS O z∧(∀t,(∀v∈u,t<dep v)→∀j,j≤t→at_ z j=at_ x j)∧(∀k (hk:k<u.length),k<i→at_ z (dep u[k])=0)∧(∀N,gB O P C N→(∀v∈u,N v)→(N x↔N z))) _ ⟨z,rfl,rfl,rfl,hz,hj,h0,hN⟩ ?_
 clear hz hj hN h0 z
 rintro m vs h' ⟨z,rfl,rfl,rfl,hz,hj,h0,hN⟩
 have hzl:=hz.len;have hdz:dep u[i] < z.length:=by omega
 have bz:=hz.bd _ u2;have bO:=s.pr _ u2;simp only [pwA,seval,-iQ0,u2,pisAt hdz];refine iteI (fun heq=>?_) fun hneq=>?_
 ·simp only [pwA,seval,-iQ0,wrapS hlt (by omega:u.length≤4611686018427387904)]
  refine⟨_,by omega,i+1,z,by omega,rfl,rfl,rfl,hz,hj,fun k hkl hk=>?_,hN⟩
  rcases Nat.lt_or_ge k i with h|h
  ·exact h0 k hkl h
  ·have e:k=i:=by omega
   subst e;exact heq
 ·obtain⟨g1,g2,g3⟩:=zHe s F hC u2 hz (Ze u1) u3
  simp only [pwA,seval,-iQ0,hlt,hr];refine Z8 s F (hs.new _) hR (x:=z) (by simp only [pwA,seval,-iQ0]) (by simp only [pwA,seval,-iQ0]) (by omega) hc (by rw [Nat.sub_self];exact hz) (by rw [Nat.sub_self];exact u1) ⟨w4,a4,rfl⟩ ?_
  simp only [pwA,seval,-iQ0];refine⟨_,?_,_,rfl,rfl,g1,fun t ht j hjt=>?_,fun k hkl hk=>?_,fun N h1 h2=>(hN N h1 h2).trans ⟨fun h=>h1.cl h (h2 _ hmem),fun h=>h1.quotR F.g (h2 _ hmem) hz h⟩⟩
  ·show((at_ O (dep u[i])-at_ (gm O P C z u[i]) (dep u[i])) % at_ O (dep u[i])).toNat<_
   rw [g3];exact zH6 bO.1 bz hneq
  ·show at_ (gm O P C z u[i]) j=_
   rw [g2 j (by have:=ht _ hmem;omega)]
   exact hj t ht j hjt
  ·show at_ (gm O P C z u[i]) (dep u[k])=0
   rw [g2 _ (List.pairwise_iff_getElem.1 hasc k i hkl hlt hk)];exact h0 k hkl hk
theorem zEf {m b:Nat} {rows:List PV} (s:Shp O P C) (F:Full O P C O.length) (hC:Go.Grp.Cent O C) (hn:0<O.length) (hs:PtrG σ sp vO vP vC) (hR:IsPr vO vP vC O P C) (ha:PAcc b 1 σ vU m rows) (hsb:sp<b) (hr:All2 FI rows u) (hm:m=u.length) (hu:Ones O u) (hasc:u.Pairwise fun a b=>dep a<dep b) (hul:u.length≤1000) (hx:gS O x) (hvx:FI vx x)
  (hk:∀a z t,gS O z→(∀t,(∀v∈u,t<dep v)→∀j,j≤t→at_ z j=at_ x j)→(∀v∈u,at_ z (dep v)=0)→(∀N,gB O P C N→(∀v∈u,N v)→(N x↔N z))→Own σ.top t (.fz true a O.length (pis z))→σ.top≤t→K (.fz true a O.length (pis z)) (σ.up t)):
  zA Tryz.prog 179 [.ptr sp 0,vU,vx] σ K:=by
 subst hm;rcases ha with ⟨rfl,h1,h2⟩|⟨t0,cap,rfl,hcp,q2,q3,q4,q5⟩
 ·obtain rfl:u=[]:=List.eq_nil_of_length_eq_zero h1
  exact zBI s F hC hn hs hR ⟨true,.nils,[],rfl,All2.nil _⟩ hu hasc hul hx hvx hk
 ·refine zA.lendT q2 (hr.bI 0) fun o1 t1 ht1=>?_
  have hne:sp≠t0:=by omega
  have hs2:PtrG ((σ.kill t0).up t1) sp vO vP vC:=⟨by show(if sp=t0 then none else σ.obj sp)=_;rw [if_neg hne];exact hs.obj,hs.lt⟩
  obtain⟨wx,ax,rfl⟩:=hvx;simp only [sbs,sb,hcp.ok,and_self,if_true];refine zBI s F hC hn hs2 hR ⟨true,_,rows,rfl,hr⟩ hu hasc hul hx ⟨wx,ax,rfl⟩ fun a z t zS z1 z0 z2 ho ht=>?_
  have hzl:=zS.len;exact⟨t,true,a,_,z,rfl,ht,rfl,fun e=>by rw [e]at hzl;simp at hzl;omega,ho.ge,hk a z t zS z1 z0 z2 (ho.mono ht1 (Nat.le_refl _)) (Nat.le_trans ht1 ht)⟩
theorem zJt (s:Shp O P C) (F:Full O P C O.length) (hC:Go.Grp.Cent O C) (hq:SeqG σ ss sb sp O.length rb vO vP vC) (hR:IsPr vO vP vC O P C) (hD:OkD O D) (hrb:All2 (DRow O.length) rb D)
  (hk:∀v u t,FII v u→CanD O P C D u→Own σ.top t v→σ.top≤t→K v (σ.up t)):zA Tryz.prog 150 [.ptr ss 0] σ K:=by
 have hn6:=s.le;have hpb:sp<σ.next:=hq.pg.lt;have r0:σ.rd1 ss 0=some (.ptr sp 0):=by rw [zF hq.obj];rfl
 have r1:σ.rd1 ss 1=some (.sl sb 0 O.length (.known O.length)):=by rw [zF hq.obj];rfl
 have hw:IntKind.i64.wrap ((O.length:Int)-1)=(O.length:Int)-1:=wrap64 (by omega) (by omega)
 refine zA.gh ?_;refine zB mix Tryz.func150 ?_;simp only [pwA,seval,-iQ0,r1,hw];refine zD (fun m vs h2=>∃(k:Nat) (vO:PV) (u:List (List Int)) (rows:List PV),k≤O.length∧m=k∧vs=[.ptr ss 0,vO,.int .i64 ((k:Int)-1)]∧Keep σ h2∧PAcc σ.next 1 h2 vO u.length rows∧All2 FI rows u∧Owns σ.top h2.top rows∧Ones O u∧u.length+k≤O.length∧(∀v∈u,k≤dep v)∧(u.Pairwise fun a b=>dep a<dep b)∧(∀v∈u,∀w∈u,dep v≠dep w→at_ v (dep w)=0)∧(∀(d:Nat) (y:List Int),k≤d→D[d]? = some (some y)→∃v∈u,dep v=d)∧(∀N,gB O P C N→((∀x∈u,N x)↔∀d y,k≤d→D[d]? = some (some y)→N y))) O.length ⟨O.length,_,[],[],Nat.le_refl _,rfl,rfl,Keep.refl σ,PAcc.nil _ _ _,All2.nil _,Owns.nil _ _,fun v hv=>(by cases hv),by simp,fun v hv=>(by cases hv),List.Pairwise.nil,fun v hv=>(by cases hv),fun d y h1 h2=>?_,fun N hN=>⟨fun _ d y h1 h2=>?_,fun _ x hx=>(by cases hx)⟩⟩ ?_
 ·rw [List.getElem?_eq_none (by rw [hD.len];exact h1)]at h2;cases h2
 ·rw [List.getElem?_eq_none (by rw [hD.len];exact h1)]at h2;cases h2
 rintro m vs h2 ⟨k,vU,u,rows,hkn,rfl,rfl,hk2,ha,hrows,how,hu,hul,hud,hasc,hred,hall0,hN⟩
 rcases Nat.eq_zero_or_pos m with rfl|hmp
 ·have ha1:=ha.one
  simp only [pwA,seval,-iQ0,show ¬((0:Int)≤((0:Nat):Int)-1) by omega,ha1]
  exact ha.own hk2 (hrows.bI 0) how fun a t ho ht=>hk _ u t ⟨true,a,rows,rfl,hrows⟩ ⟨hu,hasc,hred,fun d y hy=>hall0 d y (Nat.zero_le _) hy,by omega,fun N h1=>(hN N h1).trans ⟨fun h d y hy=>h d y (Nat.zero_le _) hy,fun h d y _ hy=>h d y hy⟩⟩ ho ht
 obtain⟨k,rfl⟩:∃k,m=k+1:=⟨m-1,by omega⟩
 have e:((k+1:Nat):Int)-1=(k:Int):=by omega
 have hkn':k<O.length:=hkn;have hrd:=zF (hq.keep hk2).bobj k;have r0':h2.rd1 ss 0=some (.ptr sp 0):=by rw [zF (hq.keep hk2).obj];rfl
 have r1':h2.rd1 ss 1=some (.sl sb 0 O.length (.known O.length)):=by rw [zF (hq.keep hk2).obj];rfl
 rw [e];have hw2:IntKind.i64.wrap ((k:Int)-1)=(k:Int)-1:=wrap64 (by omega) (by omega)
 rcases DRow.get hrb (d:=k) (by rw [hD.len];exact hkn')with ⟨e1,e2⟩|⟨oo,cap,y,e1,e2⟩
 ·rw [e1]at hrd
  simp only [pwA,seval,-iQ0,hkn',r1',hrd,hw2];refine⟨_,Nat.lt_succ_self k,k,vU,u,rows,by omega,rfl,rfl,hk2,ha,hrows,how,hu,by omega,fun v hv=>by have:=hud v hv;omega,hasc,hred,fun d y hd hy=>?_,fun N h1=>(hN N h1).trans ⟨fun h d y hd hy=>?_,fun h d y hd hy=>h d y (by omega) hy⟩⟩
  ·rcases Nat.lt_or_ge k d with x | x
   ·exact hall0 d y x hy
   ·rw [show d=k by omega,e2]at hy;cases hy
  rcases Nat.lt_or_ge k d with x|x
  ·exact h d y x hy
  ·rw [show d=k by omega,e2]at hy;cases hy
 ·rw [e1]at hrd
  obtain⟨y1,y2⟩:=hD.row _ _ e2;have yS:gS O y:=y1.mono (Nat.zero_le _);have ha1:=ha.one;have ha2:=ha.cells;simp only [pwA,seval,-iQ0,hkn',r0',r1',hrd,hw2,ha1,ha2];refine zEf s F hC (by omega) (hq.keep hk2).pg hR ha hpb hrows rfl hu hasc (by omega) yS ⟨true,_,by rw [y1.len]⟩ fun az z t1 zS z1 z0 z2 ow ht1=>?_
  have za:∀j,j≤k→at_ z j=at_ y j:=z1 k fun v hv=>hud v hv
  have zt:TT O k z:=⟨zS.len,zS.bd,fun j hj=>by rw [za j (by omega)];exact y1.zero j hj⟩
  have zk:at_ z k=1:=by rw [za k (Nat.le_refl _)];exact y2
  have hzl:=zS.len;have zd:dep z=k:=by
   have h1:=dep_ge zt (by omega)
   rcases Nat.lt_or_ge k (dep z)with h|h
   ·rw [qw h]at zk;omega
   ·omega
  have hku:=Keep.up (Keep.refl h2) ht1;have hau:=ha.keep hku;simp only [pwA,seval,-iQ0];refine PSl.app (bytes:=24) (b:=σ.next) (σb:=h2.up t1) (n:=1) (m:=u.length) (cs:=[.fz true az O.length (pis z)]) (news:=rows) (zC _ _) hk2.next (PSl.new _ 1 rfl (Nat.le_refl _)) ha.len (fun h0=>(hau.keep (zC _ _)).first h0) ha.lenc (by omega) (by omega) fun v3 h3 k3 a3=>?_
  have hall:All2 FI ([.fz true az O.length (pis z)]++rows) (z::u):=(All2.nil FI |>.snoc (⟨true,_,by rw [hzl]⟩:FI (.fz true az O.length (pis z)) z)).append hrows
  have hkn2:=hk2.next;simp only [pwA,seval,-iQ0,hw2];refine⟨k,Nat.lt_succ_self k,k,v3,z::u,[.fz true az O.length (pis z)]++rows,by omega,rfl,rfl,hk2.trans (hku.trans k3),?_,hall,(how.cons ow hk2.top ht1).mono (Nat.le_refl _) k3.top,?_,by simp;omega,?_,?_,?_,?_,fun N h1=>?_⟩
  ·rw [List.length_cons,Nat.add_comm u.length 1]
   obtain⟨s3,cap3,rfl,hc3,ho3,hl3,hge3,hlt3⟩:=a3;exact .inr ⟨s3,cap3,rfl,hc3,ho3,hl3,by simp only [PHeap.up]at hge3;omega,hlt3⟩
  ·intro v hv
   rcases List.mem_cons.1 hv with rfl|hv
   ·exact⟨zS,by omega,by rw [zd];exact zk⟩
   ·exact hu v hv
  ·intro v hv
   rcases List.mem_cons.1 hv with rfl|hv
   ·omega
   ·have:=hud v hv;omega
  ·rw [List.pairwise_cons]
   exact⟨fun v hv=>by have:=hud v hv;omega,hasc⟩
  ·intro v hv w hw hne
   rcases List.mem_cons.1 hv with ev|hv2
   ·rcases List.mem_cons.1 hw with ew | hw2
    ·rw [ev,ew]at hne;exact absurd rfl hne
    ·rw [ev];exact z0 w hw2
   ·rcases List.mem_cons.1 hw with ew | hw2
    ·rw [ew];exact qw (by have:=hud v hv2;omega)
    ·exact hred v hv2 w hw2 hne
  ·intro d y' hd hy
   rcases Nat.lt_or_ge k d with x|x
   ·obtain⟨v,hv,e⟩:=hall0 d y' x hy
    exact⟨v,List.mem_cons_of_mem _ hv,e⟩
   ·exact⟨z,by simp,by omega⟩
  ·have hsplit:(∀d y,k≤d→D[d]? = some (some y)→N y)↔(N y∧∀d y,k+1≤d→D[d]? = some (some y)→N y):=by
    refine⟨fun h=>⟨h k y (Nat.le_refl _) e2,fun d y hd hy=>h d y (by omega) hy⟩,fun⟨h3,h4⟩ d y' hd hy=>?_⟩
    rcases Nat.lt_or_ge k d with x|x
    ·exact h4 d y' x hy
    ·rw [show d=k by omega,e2]at hy;cases hy;exact h3
   rw [hsplit,←hN N h1,List.forall_mem_cons];refine⟨fun⟨h3,h4⟩=>⟨(z2 N h1 h4).2 h3,h4⟩,fun⟨h3,h4⟩=>⟨(z2 N h1 h4).1 h3,h4⟩⟩
end Go.Proofs
namespace Go.Grp
end Go.Grp
namespace Go.Proofs
open Go.Ab Go.Lie Go.Grp
variable {σ h hE:PHeap} {K:PV→PHeap→Prop} {O x:List Int} {P:List (List Int)} {C:List (List (List Int))} {vO vP vC vx vL vU:PV} {L u:List (List Int)} {sp:Nat}
theorem Own.rows {lo hi l:Nat} {w:Bool} {a:AV} {cs:List PV} (h:Own lo hi (.fz w a l cs)):Owns lo hi cs:=by
 cases cs with
 | nil=>exact Owns.nil _ _
 | cons c cs=>
  have hw:=h.wh;rcases hw with hw|hw
  ·cases hw
  ·obtain⟨_,h2,h3⟩:=hw
   cases a<;>try cases h2
   refine⟨h3,?_,fun o ho=>h.lt o ?_⟩
   ·have:=h.nd
    rw [QB (by simp)]at this
    exact(List.nodup_cons.1 this).2
   ·rw [QB (by simp)]
    exact List.mem_cons_of_mem _ ho
end Go.Proofs
namespace Go.Grp
end Go.Grp
set_option linter.unusedSectionVars false
namespace Go.Proofs
open Go.Ab Go.Lie Go.Grp
variable {σ h hE:PHeap} {K:PV→PHeap→Prop} {O O' x y w:List Int} {P P':List (List Int)} {C C':List (List (List Int))} {vO vP vC vO' vP' vC' vx vL vU vZ vw vD vR v:PV} {L u Z D R:List (List Int)} {sp n:Nat}
def szU (O:List Int):List (List Int)→Int
 | []=>1
 | v::u=>at_ O (dep v)*szU O u
theorem zAR (O:List Int) (v:List Int):∀u,szU O (u++[v])=szU O u*at_ O (dep v)
 | []=>by simp [szU]
 | w::u=>by simp only [List.cons_append,szU];rw [zAR O v u,Int.mul_assoc]
theorem Zp (h:∀v∈u,1≤at_ O (dep v)∧at_ O (dep v)≤7):∀i,i≤u.length→1≤szU O (u.take i)∧szU O (u.take i)≤(7:Int) ^ i
 | 0,_=>by simp [szU]
 | i+1,hi=>by
  obtain⟨h1,h2⟩:=Zp h i (by omega)
  obtain⟨h3,h4⟩:=h _ (List.getElem_mem (show i<u.length by omega))
  rw [List.take_succ_eq_append_getElem (by omega),zAR,Int.pow_succ]
  refine⟨?_,?_⟩
  ·have:=Int.mul_le_mul h1 h3 (by omega) (by omega)
   omega
  ·exact Int.mul_le_mul h2 h4 (by omega) (Int.pow_nonneg (by omega))
theorem pow7b:∀{i:Nat},i≤6→(7:Int) ^ i≤117649
 | 0,_=>by decide
 | 1,_=>by decide
 | 2,_=>by decide
 | 3,_=>by decide
 | 4,_=>by decide
 | 5,_=>by decide
 | 6,_=>by decide
theorem ZT {H:List Int→Prop} (s:Shp O P C) (hu:CanG O H u):(∀v∈u,1≤at_ O (dep v)∧at_ O (dep v)≤7)∧∀v∈u,v.length=O.length∧dep v<O.length:=
 ⟨fun v hv=>by have:=s.pr (dep v) (hu.one v hv).2.1;omega,fun v hv=>⟨(hu.one v hv).1.len,(hu.one v hv).2.1⟩⟩
theorem sizeOf_ok {H:List Int→Prop} (s:Shp O P C) (hs:PtrG σ sp vO vP vC) (hO:FI vO O) (hU:FII vU u) (hu:CanG O H u) (hul:u.length≤6) (hk:K (.int .i64 (szU O u)) σ):zA Tryz.prog 138 [.ptr sp 0,vU] σ K:=by
 have hn6:=s.le;obtain⟨b1,b2⟩:=ZT s hu;obtain⟨w0,a0,rfl⟩:=hO;have e0:σ.rd1 sp 0=some (.fz w0 a0 O.length (pis O)):=by rw [zF hs.obj];rfl
 refine zB mix Tryz.func138 ?_;simp only [pwA,seval,-iQ0,hU.one];refine QX hU (fun v hv=>by have:=b2 v hv;omega) (by omega) fun o=>?_
 simp only [pwA,seval,-iQ0];have dl:(deps u).length=u.length:=by simp [deps]
 refine zD (fun m vs h=>∃(i:Nat),i≤u.length∧m=u.length-i∧vs=[.ptr sp 0,.int .i64 (szU O (u.take i)),.fz true o u.length (pis (deps u)),.int .i64 u.length,.int .i64 i]∧h=σ) u.length ?_ ?_
 ·exact⟨0,Nat.zero_le _,rfl,rfl,rfl⟩
 rintro m vs h ⟨i,hi,rfl,rfl,rfl⟩
 simp only [pwA,seval,-iQ0];refine iteI (fun hlt=>?_) fun hge=>?_
 rotate_left
 ·rw [List.take_of_length_le (by omega)]
  exact hk
 have hlt':(i:Int)<(u.length:Int):=by omega
 have mem:=List.getElem_mem hlt;have hd:=(b2 _ mem).2;have hd':((dep u[i]:Nat):Int)<(O.length:Int):=by omega
 have gd:(pis (deps u))[i]? = some (.int .i64 (dep u[i]:Nat)):=by
  rw [zL,gi (by rw [dl];exact hlt)]
  simp [deps]
 have gO:(pis O)[dep u[i]]? = some (.int .i64 O[dep u[i]]):=by rw [zL,gi hd];rfl
 obtain⟨c1,c2⟩:=Zp b1 i hi;obtain⟨c3,c4⟩:=Zp b1 (i+1) hlt;have p1:=pow7b (show i≤6 by omega)
 have p2:=pow7b (show i+1≤6 by omega)
 have es:szU O (u.take i)*O[dep u[i]]=szU O (u.take (i+1)):=by rw [List.take_succ_eq_append_getElem hlt,zAR,at_eq hd]
 have wm:IntKind.i64.wrap (szU O (u.take (i+1)))=szU O (u.take (i+1)):=wrap64 (by omega) (by omega)
 simp only [pwA,seval,-iQ0,hlt,hlt',gd,e0,hd,hd',gO,es,wm,wrapS hlt (by omega:u.length≤4611686018427387904)]
 exact⟨_,by omega,i+1,by omega,rfl,rfl⟩
theorem Qn {H:List Int→Prop} (s:Shp O P C) (hR:IsPr vO vP vC O P C) (hU:FII vU u) (hu:CanG O H u) (hul:u.length≤6) (hk:K (.int .i64 (szU O u)) σ):zA Tryz.prog 69 [.agg [vO,vP,vC],vU] σ K:=by
 have hn6:=s.le;have g0:=hR.O.one;have g1:=hR.P.one;have g2:=hR.C.one;obtain⟨b1,b2⟩:=ZT s hu;obtain⟨⟨w0,a0,rfl⟩,_,_⟩:=hR;obtain⟨wU,aU,rU,rfl,hrU⟩:=hU;refine zA.gh ?_;refine zB mix Tryz.func69 ?_;simp only [pwA,seval,-iQ0,g0,g1,g2];generalize hH:σ.new [PV.fz w0 a0 O.length (pis O),vP,vC]=H';have kH:Keep σ H':=by rw [←hH];exact zC _ _
 have e0:H'.rd1 σ.next 0=some (.fz w0 a0 O.length (pis O)):=by rw [←hH];simp only [pwA,seval,-iQ0]
 clear hH;refine zD (fun m vs h=>∃(i:Nat),i≤u.length∧m=u.length-i∧vs=[.fz wU aU u.length rU,.ptr σ.next 0,.int .i64 (szU O (u.take i)),.int .i64 i]∧h=H') u.length ?_ ?_
 ·exact⟨0,Nat.zero_le _,rfl,rfl,rfl⟩
 rintro m vs h ⟨i,hi,rfl,rfl,rfl⟩
 simp only [pwA,seval,-iQ0];refine iteI (fun hlt=>?_) fun hge=>?_
 rotate_left
 ·rw [List.take_of_length_le (by omega)]
  exact Gh.fin0 kH trivial hk
 have hlt':(i:Int)<(u.length:Int):=by omega
 have mem:=List.getElem_mem hlt;obtain⟨hl,hd⟩:=b2 _ mem;have hd':((dep u[i]:Nat):Int)<(O.length:Int):=by omega
 obtain⟨w5,a5,h5⟩:=hrU.rowI hlt;have gO:(pis O)[dep u[i]]? = some (.int .i64 O[dep u[i]]):=by rw [zL,gi hd];rfl
 obtain⟨c1,c2⟩:=Zp b1 i hi;obtain⟨c3,c4⟩:=Zp b1 (i+1) hlt;have p1:=pow7b (show i≤6 by omega)
 have p2:=pow7b (show i+1≤6 by omega)
 have es:szU O (u.take i)*O[dep u[i]]=szU O (u.take (i+1)):=by rw [List.take_succ_eq_append_getElem hlt,zAR,at_eq hd]
 have wm:IntKind.i64.wrap (szU O (u.take (i+1)))=szU O (u.take (i+1)):=wrap64 (by omega) (by omega)
 simp only [pwA,seval,-iQ0,hlt,hlt',h5,e0,qU,Zg];refine Qo rfl (by omega) ?_
 simp only [pwA,seval,-iQ0,hlt,hlt',e0,hd,hd',gO,es,wm,qU,Zg,wrapS hlt (by omega:u.length≤4611686018427387904)]
 exact⟨_,by omega,i+1,by omega,rfl,rfl⟩
end Go.Proofs
namespace Go.Grp
end Go.Grp
namespace Go.Proofs
open Go.Ab Go.Lie Go.Grp
variable {O x y z:List Int} {P:List (List Int)} {C:List (List (List Int))} {u w out:List (List Int)} {k t:Nat}
abbrev gpw (O:List Int) (P:List (List Int)) (C:List (List (List Int))) (v:List Int) (k:Nat):List Int:=pw (gm O P C) (zv O) v k
def PrU (O:List Int) (P:List (List Int)) (C:List (List (List Int))):List (List Int)→List Int→Prop
 | [],y=>y=zv O
 | v::u,y=>∃k:Nat,k<nx O (dep v)∧∃y',PrU O P C u y'∧y=gm O P C (gpw O P C v k) y'
def exR (O:List Int) (P:List (List Int)) (C:List (List (List Int))) (x v:List Int) (k:Nat):List (List Int):=(List.range k).map fun t=>gm O P C x (gpw O P C v t)
def exN (O:List Int) (P:List (List Int)) (C:List (List (List Int))) (out:List (List Int)) (v:List Int):List (List Int):=out.flatMap fun x=>exR O P C x v (nx O (dep v))
def exA (O:List Int) (P:List (List Int)) (C:List (List (List Int))) (out u:List (List Int)):List (List Int):=u.foldl (exN O P C) out
theorem zKF:(exR O P C x y k).length=k:=by simp [exR]
theorem zKG:(exN O P C out y).length=out.length*nx O (dep y):=by
 unfold exN
 induction out with
 | nil=>simp
 | cons z out ih=>rw [List.flatMap_cons,List.length_append,ih,zKF,List.length_cons,Nat.add_mul,Nat.one_mul,Nat.add_comm]
theorem zQk (h:∀v∈u,1≤at_ O (dep v)):((exA O P C out u).length:Int)=out.length*szU O u:=by
 induction u generalizing out with
 | nil=>simp [exA,szU]
 | cons v u ih=>
  have:=ih (out:=exN O P C out v) fun w hw=>h w (List.mem_cons_of_mem _ hw)
  show(((exA O P C (exN O P C out v) u).length:Nat):Int)=_
  rw [this,zKG,szU];have e:((nx O (dep v):Nat):Int)=at_ O (dep v):=Int.toNat_of_nonneg (by have:=h v (List.mem_cons_self ..);omega)
  rw [Int.natCast_mul,e,Int.mul_assoc]
section
variable (F:Full O P C O.length)
include F
theorem zRp (ho:∀x∈out,gS O x) (hv:gS O y):∀x∈exN O P C out y,gS O x:=fun x hx=>by
 obtain⟨z,hz,h1⟩:=List.mem_flatMap.1 hx;obtain⟨t,ht,rfl⟩:=List.mem_map.1 h1;exact F.g.cl (ho z hz) (F.g.pw hv t)
theorem PrU.inS:∀{u:List (List Int)} {y},(∀v∈u,gS O v)→PrU O P C u y→gS O y
 | [],_,_,h=>by rw [show _=zv O from h];exact F.g.one
 | v::u,y,hu,⟨k,_,y',h,e⟩=>by
  rw [e];exact F.g.cl (F.g.pw (hu v (List.mem_cons_self ..)) k) (PrU.inS (fun w hw=>hu w (List.mem_cons_of_mem _ hw)) h)
theorem zGS:∀{u out:List (List Int)},(∀x∈out,gS O x)→(∀v∈u,gS O v)→∀y,y∈exA O P C out u↔∃z∈out,∃y',PrU O P C u y'∧y=gm O P C z y'
 | [],out,ho,_,y=>by
  constructor
  ·intro h
   exact⟨y,h,zv O,rfl,(F.g.r1 (ho y h)).symm⟩
  ·rintro ⟨z,hz,y',e,rfl⟩
   rw [show y'=zv O from e,F.g.r1 (ho z hz)];exact hz
 | v::u,out,ho,hu,y=>by
  have hv:=hu v (List.mem_cons_self ..);have hu':=fun w hw=>hu w (List.mem_cons_of_mem v hw)
  refine(zGS (zRp F ho hv) hu' y).trans ⟨?_,?_⟩
  ·rintro ⟨z,hz,y',h,rfl⟩
   obtain⟨x,hx,h1⟩:=List.mem_flatMap.1 hz;obtain⟨t,ht,rfl⟩:=List.mem_map.1 h1;exact⟨x,hx,_,⟨t,List.mem_range.1 ht,y',h,rfl⟩,F.g.as (ho x hx) (F.g.pw hv t) (PrU.inS F hu' h)⟩
  ·rintro ⟨x,hx,_,⟨t,ht,y',h,rfl⟩,rfl⟩
   exact⟨_,List.mem_flatMap.2 ⟨x,hx,List.mem_map.2 ⟨t,List.mem_range.2 ht,rfl⟩⟩,y',h,(F.g.as (ho x hx) (F.g.pw hv t) (PrU.inS F hu' h)).symm⟩
theorem PrU.gc {H:List Int→Prop} (hH:gB O P C H):∀{u:List (List Int)} {y},(∀v∈u,H v)→PrU O P C u y→H y
 | [],_,_,h=>by rw [show _=zv O from h];exact hH.one
 | v::u,y,hu,⟨k,_,y',h,e⟩=>by
  rw [e];exact hH.cl (hH.pw (hu v (List.mem_cons_self ..)) k) (PrU.gc hH (fun w hw=>hu w (List.mem_cons_of_mem _ hw)) h)
end
theorem zCH (g:LG O P C) (ht:t<O.length) (hx:TT O t x) (hv:TT O t y) (h1:at_ y t=1):∃z,gS O z∧TT O (t+1) z∧x=gm O P C (gpw O P C y (at_ x t).toNat) z∧z=gm O P C (ginv (gS O) (gm O P C) (zv O) (gpw O P C y (at_ x t).toNat)) x:=by
 have s:=g.s;have F:=g.F;have G:=F.g;have xS:gS O x:=hx.mono (Nat.zero_le _);have yS:gS O y:=hv.mono (Nat.zero_le _);obtain⟨p1,p2⟩:=Z9 s F g.cent ht hv (at_ x t).toNat;have bx:=hx.bd t ht;have pS:=G.pw yS (at_ x t).toNat;have iS:=(G.inv_in pS).1;refine⟨_,G.cl iS xS,?_,?_,rfl⟩;rotate_left
 ·rw [←G.as pS iS xS,G.inv_r pS,G.l1 xS]
 have zT:TT O t (gm O P C (ginv (gS O) (gm O P C) (zv O) (gpw O P C y (at_ x t).toNat)) x):=tt_cl s F g.cent (by omega) (zHW s F g.cent (by omega) p1) hx
 have e:gm O P C (gpw O P C y (at_ x t).toNat) (gm O P C (ginv (gS O) (gm O P C) (zv O) (gpw O P C y (at_ x t).toNat)) x)=x:=by rw [←G.as pS iS xS,G.inv_r pS,G.l1 xS]
 generalize gm O P C (ginv (gS O) (gm O P C) (zv O) (gpw O P C y (at_ x t).toNat)) x=z at *
 obtain⟨g1,g2⟩:=ZR s (d:=O.length) (b:=gpw O P C y (at_ x t).toNat) (a:=z) (t:=t) (Nat.le_refl _) (by omega) ht (by rw [Nat.sub_self];exact pS) zT
 have e':mu O P C O.length (gpw O P C y (at_ x t).toNat) z=x:=e;rw [e',p2,h1,Int.mul_one,Int.toNat_of_nonneg bx.1,Int.emod_eq_of_lt bx.1 bx.2]at g2
 have z0:=zBY bx (zT.bd t ht) g2.symm;refine⟨zT.len,zT.bd,fun j hj=>?_⟩
 rcases Nat.lt_or_ge j t with h|h
 ·exact zT.zero j h
 ·obtain rfl:j=t:=by omega
  exact z0
theorem zQ3 (g:LG O P C) (hu:qJ O P C u):∀(w pre:List (List Int)),u=pre++w→∀x,GC O P C u x→(∀v∈pre,dep v<dep x)→PrU O P C w x:=by
 have F:=g.F;have hS:=GC.sub F hu.1;intro w
 induction w with
 | nil=>
  intro pre e x hx hd;rcases Nat.lt_or_ge (dep x) O.length with h|h
  ·obtain⟨v,hv,ev⟩:=hu.2.all x hx h
   rw [e,List.append_nil]at hv
   have:=hd v hv
   omega
  ·exact Zz (hS.inS hx) h
 | cons v w ih=>
  intro pre e x hx hd;have xS:=hS.inS hx;have hv:v∈u:=by rw [e];simp
  obtain⟨v1,v2,v3⟩:=hu.2.one v hv;have asc:=hu.2.asc;rw [e]at asc
  obtain⟨_,a2,a3⟩:=List.pairwise_append.1 asc;rw [List.pairwise_cons]at a2
  have hge:dep v≤dep x:=by
   rcases Nat.lt_or_ge (dep x) O.length with h|h
   ·obtain⟨v',hv',ev⟩:=hu.2.all x hx h
    rw [e]at hv'
    rcases List.mem_append.1 hv' with h1|h1
    ·have:=hd v' h1;omega
    ·rcases List.mem_cons.1 h1 with rfl | h1
     ·omega
     ·have:=a2.1 v' h1;omega
   ·omega
  have xT:TT O (dep v) x:=⟨xS.len,xS.bd,fun j hj=>qw (by omega)⟩
  obtain⟨z,zS,zT,e1,e2⟩:=zCH g v2 xT (Ze v1) v3;have hz:GC O P C u z:=by
   rw [e2];exact hS.cl (hS.inv (hS.pw (GC.mem hv) _)) hx
  have bx:=xT.bd _ v2;refine⟨(at_ x (dep v)).toNat,by show(at_ x (dep v)).toNat<(at_ O (dep v)).toNat;omega,z,ih (pre++[v]) (by rw [e];simp) z hz fun v' hv'=>?_,e1⟩
  have:=Grp.dep_ge zT v2
  rcases List.mem_append.1 hv' with h|h
  ·have:=a3 v' h v (List.mem_cons_self ..);omega
  ·rw [List.mem_singleton.1 h];omega
theorem zGT (g:LG O P C) (hu:qJ O P C u):∀x,x∈exA O P C [zv O] u↔GC O P C u x:=fun x=>by
 have F:=g.F;have hS:=GC.sub F hu.1;refine(zGS F (out:=[zv O]) (fun x hx=>by rw [List.mem_singleton.1 hx];exact F.g.one) hu.1 x).trans ⟨?_,?_⟩
 ·rintro ⟨z,hz,y,h,rfl⟩
  rw [List.mem_singleton.1 hz,F.g.l1 (PrU.inS F hu.1 h)];exact PrU.gc F hS (fun v hv=>GC.mem hv) h
 ·intro h
  exact⟨zv O,List.mem_singleton.2 rfl,x,zQ3 g hu u [] rfl x h (fun v hv=>by cases hv),(F.g.l1 (hS.inS h)).symm⟩
end Go.Proofs
namespace Go.Grp
end Go.Grp
namespace Go.Proofs
open Go.Ab Go.Lie Go.Grp
variable {σ h:PHeap} {K:PV→PHeap→Prop} {O x y z:List Int} {P:List (List Int)} {C:List (List (List Int))} {u w out Z:List (List Int)} {k t sp:Nat} {vO vP vC vU:PV} {cs cs':List PV}
def rowOf:PV→List Int
 | .fz _ _ _ cs=>cs.map fun c=>match c with | .int _ k=>k | _=>0
 | _=>[]
theorem zHd {v:PV} (h:FI v x):rowOf v=x:=by
 obtain⟨w,a,rfl⟩:=h;show List.map _ (List.map _ x)=x;rw [List.map_map];exact List.map_id' x
theorem zPE (h:All2 FI cs Z):Z=cs.map rowOf:=by
 refine List.ext_getElem? fun i=>?_
 rw [List.getElem?_map];rcases Nat.lt_or_ge i Z.length with hi|hi
 ·have hc:i<cs.length:=by rw [h.1];exact hi
  rw [List.getElem?_eq_getElem hc,List.getElem?_eq_getElem hi];exact congrArg some (zHd (h.2 i _ _ (List.getElem?_eq_getElem hc) (List.getElem?_eq_getElem hi))).symm
 ·rw [List.getElem?_eq_none hi,List.getElem?_eq_none (by rw [h.1];exact hi)];rfl
theorem zE8 (h:All2 FI cs Z):∀c∈cs,FI c (rowOf c)∧rowOf c∈Z:=fun c hc=>by
 obtain⟨i,hi,rfl⟩:=List.mem_iff_getElem.1 hc;have hz:i<Z.length:=by rw [←h.1];exact hi
 have:=h.2 i _ _ (List.getElem?_eq_getElem hi) (List.getElem?_eq_getElem hz)
 rw [zHd this];exact⟨this,List.getElem_mem hz⟩
theorem zNX (h:All2 FI cs Z) (p:cs'.Perm cs):All2 FI cs' (cs'.map rowOf)∧(cs'.map rowOf).Perm Z:=by
 refine⟨⟨by rw [List.length_map],fun i a b ha hb=>?_⟩,?_⟩
 ·rw [List.getElem?_map,ha]at hb
  cases hb;exact(zE8 h a (p.mem_iff.1 (List.mem_of_getElem? ha))).1
 ·rw [zPE h];exact p.map _
theorem zNY (h:All2 FI cs Z) (hl:∀x∈Z,x.length≤1000):CellR cs:=fun c hc=>⟨_,(zE8 h c hc).1,hl _ (zE8 h c hc).2⟩
set_option maxHeartbeats 1600000 in
theorem zHJ (g:LG O P C) (hs:PtrG σ sp vO vP vC) (hR:IsPr vO vP vC O P C) (hU:FII vU u) (hu:qJ O P C u) (hsz:szU O u<50)
  (hk:∀v Z,FII v Z→(∀x,x∈Z↔GC O P C u x)→Z.length<50→K v σ):zA Tryz.prog 203 [.ptr sp 0,vU] σ K:=by
 have s:=g.s;have F:=g.F;have hn6:=s.le;have hul:=hu.len;have hU0:=hU;have hR0:=hR;have hs0:=hs;obtain⟨b1,b2⟩:=ZT s hu.2;obtain⟨⟨wO,aO,rfl⟩,hRP,hRC⟩:=hR;obtain⟨wl,al,rl,rfl,hrl⟩:=hU;have hsl:=hs.lt;have hrd:σ.rd1 sp 0=some (.fz wO aO O.length (pis O)):=by unfold PHeap.rd1;rw [hs.obj];rfl
 refine zA.pwf fun w0=>zA.gh ?_
 refine zB mix Tryz.func203 ?_;simp only [pwA,seval,-iQ0,hrd,mk8 (n:=O.length) (by omega),mkL (n:=O.length) (by omega),List.length_replicate,ZJ]
 refine QX hU0 (fun v hv=>by have:=b2 v hv;omega) (by omega) fun vp=>?_
 simp only [pwA,seval,-iQ0];have zvl:(pis (List.replicate O.length 0))=pis (zv O):=rfl;refine Qt (fun m vs h'=>∃(i n:Nat) (vo:PV) (cs:List PV),i≤u.length∧m=u.length-i∧vs=[.ptr sp 0,.fz wl al u.length rl,vo,.fz true vp u.length (pis (deps u)),.int .i64 u.length,.int .i64 i]∧Keep σ h'∧PSl σ.next 1 h' vo n cs∧n=(exA O P C [zv O] (u.take i)).length∧All2 FI cs (exA O P C [zv O] (u.take i))) u.length ?_ ?_
 ·refine .fzh σ.next (pis (List.replicate O.length 0)) (by simp only [pwA,seval,-iQ0]) (zo 0 _) fun o=>.here ⟨0,1,.sl (σ.next+1) 0 1 (.known 1),[.fz true (.sl o 0 O.length (.known O.length)) O.length (pis (List.replicate O.length 0))],by omega,by omega,?_,?_,?_,rfl,?_⟩
  ·simp only [pwA,seval,-iQ0]
   have n1:¬sp=σ.next:=by omega
   simp [sbs,sb,n1]
  ·exact Keep.sub w0 (Keep.kill ((zC σ _).new _) (by omega)) (by omega)
  ·refine⟨σ.next+1,.known 1,rfl,.inr rfl,?_,rfl,by omega,by show σ.next+1<σ.next+2;omega⟩
   have e4:((σ.new (pis (List.replicate O.length 0))).new [PV.sl σ.next 0 O.length (Cap.known O.length)]).obj (σ.next+1)=some [PV.sl σ.next 0 O.length (Cap.known O.length)]:=by simp only [pwA,seval,-iQ0]
   simp only [PHeap.sub,PHeap.kill,if_neg (show ¬σ.next+1=σ.next by omega)]
   rw [e4];simp [sbs,sb,capOK]
  ·refine @All2.snoc _ _ FI [] [] _ _ (All2.nil _) ⟨true,.sl o 0 O.length (.known O.length),?_⟩
   simp [zv]
 rintro m vs h0 ⟨i,n,vo,cs,hi,rfl,rfl,hk0,ho,hn,hcs⟩
 have hrd0:h0.rd1 sp 0=some (.fz wO aO O.length (pis O)):=by unfold PHeap.rd1;rw [hk0.obj _ hsl,hs.obj];rfl
 have lenA:∀w:List (List Int),(∀v∈w,v∈u)→((exA O P C [zv O] w).length:Int)=szU O w:=fun w hw=>by
  rw [zQk (fun v hv=>(b1 v (hw v hv)).1)];simp
 simp only [pwA,seval,-iQ0];refine iteI (fun hlt=>?_) fun hge=>?_
 rotate_left
 ·obtain rfl:i=u.length:=by omega
  rw [List.take_length]at hcs hn
  obtain⟨so,cap,rfl,hcap,q2,q3,q4,q5⟩:=ho;have hlen:=lenA u (fun v hv=>hv)
  have inS:∀x∈exA O P C [zv O] u,gS O x:=fun x hx=>(GC.sub F hu.1).inS ((zGT g hu x).1 hx)
  simp only [pwA,seval,-iQ0];refine zPX q2 q5 (by omega) (by rw [hcs.1];omega) (zNY hcs fun x hx=>by have:=(inS x hx).len;omega) fun L' hp=>?_
  obtain⟨p1,p2⟩:=zNX hcs hp;have hl2:=hp.length_eq;simp only [pwA,seval,-iQ0];refine Gh.finF (hk0.set q4 L') (by rw [zn,if_pos rfl]) q4 (p1.bI 0) hcap.ok fun o=>?_
  refine hk _ (L'.map rowOf) ⟨true,.sl o 0 n cap,L',?_,p1⟩ (fun x=>(p2.mem_iff).trans (zGT g hu x)) (by rw [List.length_map];have:=hcs.1;omega)
  rw [List.length_map,hl2,q3];simp
 have mem:=List.getElem_mem hlt;obtain⟨hdl,hd⟩:=b2 _ mem;have gd:(pis (deps u))[i]? = some (.int .i64 (dep u[i]:Nat)):=by
  rw [zL,gi (by simp [deps];exact hlt)]
  simp [deps]
 have hlt':(i:Int)<(u.length:Int):=by omega
 simp only [pwA,seval,-iQ0,hlt,hlt',gd,ho.acc.pLen];have up:∀{z:List Int},gS O z→TT O (O.length-O.length) z:=fun h=>by rw [Nat.sub_self];exact h
 have hZ0:∀x∈exA O P C [zv O] (u.take i),gS O x:=fun x hx=>by
  obtain⟨z,hz,y,h1,rfl⟩:=(zGS F (out:=[zv O]) (fun x hx=>by rw [List.mem_singleton.1 hx];exact F.g.one) (fun v hv=>hu.1 v (List.mem_of_mem_take hv)) x).1 hx
  rw [List.mem_singleton.1 hz];exact F.g.cl F.g.one (PrU.inS F (fun v hv=>hu.1 v (List.mem_of_mem_take hv)) h1)
 have hZn:1≤n∧n≤117649:=by
  have e:=lenA (u.take i) fun v hv=>List.mem_of_mem_take hv
  have bd:=Zp b1 i hi;have p7:=pow7b (show i≤6 by omega)
  omega
 have hnext:exA O P C [zv O] (u.take (i+1))=exN O P C (exA O P C [zv O] (u.take i)) u[i]:=by
  unfold exA;rw [List.take_succ_eq_append_getElem hlt,List.foldl_append];rfl
 obtain⟨wv,av,hrv⟩:=hrl.rowI hlt;have vS:=hu.1 _ mem;have bv:=b1 _ mem;generalize exA O P C [zv O] (u.take i)=Z0 at *
 generalize hv:u[i]=v at *
 have ek:at_ O (dep v)=((nx O (dep v):Nat):Int):=(Int.toNat_of_nonneg (by omega)).symm
 have gO:(pis O)[dep v]? = some (.int .i64 ((nx O (dep v):Nat):Int)):=by
  rw [zL,gi hd,←ek,at_eq hd];rfl
 have hk7:1≤nx O (dep v)∧nx O (dep v)≤7:=by omega
 have hdI:=inb hd;have hZl:Z0.length=n:=hn.symm;refine zD (fun m vs h1=>∃(j mm:Nat) (vn:PV) (rows:List PV),j≤n∧m=n-j∧vs=[.ptr sp 0,.fz wl al u.length rl,.int .i64 i,.int .i64 (dep v:Nat),vn,.fz true vp u.length (pis (deps u)),.int .i64 u.length,.int .i64 i,vo,.int .i64 n,.int .i64 j]∧Keep h0 h1∧PAcc h0.next 1 h1 vn mm rows∧mm=(exN O P C (Z0.take j) v).length∧All2 FI rows (exN O P C (Z0.take j) v)) n ?_ ?_
 ·exact⟨0,0,_,[],by omega,by omega,rfl,Keep.refl _,PAcc.nil _ _ _,by simp [exN],by simpa [exN]using All2.nil _⟩
 rintro m vs h1 ⟨j,mm,vn,rows,hj,rfl,rfl,hk1,hn1,hmm,hrows⟩
 have hmm2:mm=j*nx O (dep v):=by rw [hmm,zKG,List.length_take];congr 1;omega
 simp only [pwA,seval,-iQ0];refine iteI (fun hjn=>?_) fun hjn=>?_
 rotate_left
 ·obtain rfl:j=n:=by omega
  rw [List.take_of_length_le (by omega)]at hrows hmm
  simp only [pwA,seval,-iQ0,wrapS hlt (by omega:u.length≤4611686018427387904)]
  have hpos:0<mm:=by rw [hmm2];exact Nat.mul_pos (by omega) (by omega)
  refine⟨_,?_,.here ⟨i+1,mm,vn,rows,by omega,rfl,rfl,hk0.trans hk1,?_,by rw [hnext];exact hmm,by rw [hnext];exact hrows⟩⟩
  ·omega
  ·rcases(hn1.low hk0.next)with ⟨_,e,_⟩ | a
   ·omega
   ·exact a
 have hjn':(j:Int)<(n:Int):=by omega
 have hjZ:j<Z0.length:=by omega
 obtain⟨so,cap,rfl,hcap,q2,q3,q4,q5⟩:=ho;obtain⟨wx,ax,hrx⟩:=hcs.rowI hjZ;have e1:h1.rd1 so j=some (.fz wx ax Z0[j].length (pis Z0[j])):=by rw [zF (by rw [hk1.obj _ q5];exact q2)];exact hrx
 have hrd1:h1.rd1 sp 0=some (.fz wO aO O.length (pis O)):=by unfold PHeap.rd1;rw [hk1.obj _ (Nat.lt_of_lt_of_le hsl hk0.next),hk0.obj _ hsl,hs.obj];rfl
 have xS:=hZ0 _ (List.getElem_mem hjZ);have hnx1:exN O P C (Z0.take (j+1)) v=exN O P C (Z0.take j) v++exR O P C Z0[j] v (nx O (dep v)):=by
  unfold exN;rw [List.take_succ_eq_append_getElem hjZ,List.flatMap_append];simp
 simp only [pwA,seval,-iQ0,hjn',e1,hrd1,gO,hdI,hd];generalize hx0:Z0[j]=x0 at *
 refine zD (fun m vs h2=>∃(t m2:Nat) (vn vx:PV) (rows2:List PV),t≤nx O (dep v)∧m=nx O (dep v)-t∧vs=[.ptr sp 0,.fz wl al u.length rl,.int .i64 i,.int .i64 (dep v:Nat),vn,vx,.fz true vp u.length (pis (deps u)),.int .i64 u.length,.int .i64 i,.sl so 0 n cap,.int .i64 n,.int .i64 j,.int .i64 ((nx O (dep v):Nat):Int),.int .i64 t]∧Keep h0 h2∧PAcc h0.next 1 h2 vn m2 rows2∧m2=mm+t∧FI vx (gm O P C x0 (gpw O P C v t))∧All2 FI rows2 (exN O P C (Z0.take j) v++exR O P C x0 v t)) (nx O (dep v)) ?_ ?_
 ·exact⟨0,mm,vn,_,rows,by omega,by omega,rfl,hk1,hn1,rfl,by rw [show gpw O P C v 0=zv O from rfl,F.g.r1 xS];exact⟨_,_,rfl⟩,by simpa [exR]using hrows⟩
 rintro m vs h2 ⟨t,m2,vn2,vx,rows2,ht,rfl,rfl,hk2,hn2,hm2,fx,hrows2⟩
 have gS2:gS O (gm O P C x0 (gpw O P C v t)):=F.g.cl xS (F.g.pw vS t);simp only [pwA,seval,-iQ0];refine iteI (fun htk=>?_) fun htk=>?_
 rotate_left
 ·obtain rfl:t=nx O (dep v):=by omega
  simp only [pwA,seval,-iQ0,wrapS (show j<n by omega) (by omega:n≤4611686018427387904)]
  exact⟨_,by omega,j+1,m2,vn2,rows2,by omega,rfl,rfl,hk2,hn2,by rw [hnx1,List.length_append,zKF,←hmm];exact hm2,by rw [hnx1];exact hrows2⟩
 have fx0:=fx;obtain⟨w5,a5,rfl⟩:=fx;have htb:m2≤1000000:=by
  have:mm≤117649*7:=by rw [hmm2];exact Nat.mul_le_mul (by omega) (by omega)
  omega
 simp only [pwA,seval,-iQ0];refine PAcc.push (bytes:=24) hk2 hn2 (by omega) (by omega) fun v' h3 k3 a3=>?_
 simp only [pwA,seval,-iQ0,hlt,hlt',hrv];refine Ql s F (hs0.keep (hk0.trans k3)) hR0 (up gS2) (up vS) fx0 ⟨wv,av,rfl⟩ fun vy fy=>?_
 simp only [pwA,seval,-iQ0,wrapS htk (by omega:nx O (dep v)≤4611686018427387904)]
 refine⟨_,by omega,t+1,m2+1,v',vy,rows2++[.fz w5 a5 (gm O P C x0 (gpw O P C v t)).length (pis (gm O P C x0 (gpw O P C v t)))],by omega,rfl,rfl,k3,a3.acc,by omega,?_,?_⟩
 ·have e:gm O P C x0 (gpw O P C v (t+1))=gm O P C (gm O P C x0 (gpw O P C v t)) v:=(F.g.as xS (F.g.pw vS t) vS).symm
  rw [e];exact fy
 ·have e:exR O P C x0 v (t+1)=exR O P C x0 v t++[gm O P C x0 (gpw O P C v t)]:=by
   unfold exR;rw [List.range_succ,List.map_append];rfl
  rw [e,←List.append_assoc];exact hrows2.snoc fx0
end Go.Proofs
namespace Go.Grp
end Go.Grp
namespace Go.Proofs
open Go.Ab Go.Lie Go.Grp
variable {σ h:PHeap} {K:PV→PHeap→Prop} {O x y z:List Int} {P:List (List Int)} {C:List (List (List Int))} {u w out Z A:List (List Int)} {k t sp:Nat} {vO vP vC vU vW:PV} {cs cs':List PV}
def TrivM (O:List Int) (P:List (List Int)) (C:List (List (List Int))) (u w:List (List Int)):Prop:=∀x,GC O P C u x→GC O P C w x→x=zv O
theorem TrivM.comm:TrivM O P C u w↔TrivM O P C w u:=⟨fun h x a b=>h x b a,fun h x a b=>h x b a⟩
theorem zRn (F:Full O P C O.length):gB O P C fun x=>x=zv O:=
 ⟨fun e=>by rw [e];exact F.g.one,rfl,fun e e'=>by rw [e,e'];exact F.g.l1 F.g.one,fun e=>by rw [e];exact(F.g.inv_eq F.g.one F.g.one (F.g.l1 F.g.one)).symm⟩
theorem zIj (F:Full O P C O.length) (hA:∀x∈A,gS O x) (h:CanG O (GC O P C A) u):u.length=0↔∀x∈A,x=zv O:=by
 constructor
 ·intro e x hx
  rcases Nat.lt_or_ge (dep x) O.length with hd|hd
  ·obtain⟨v,hv,_⟩:=h.all x (GC.mem hx) hd
   rw [List.eq_nil_of_length_eq_zero e]at hv
   cases hv
  ·exact Zz (hA x hx) hd
 ·intro e
  cases u with
  | nil=>rfl
  | cons v u=>
   have h1:=h.mem v (List.mem_cons_self ..);have h2:v=zv O:=h1 _ (zRn F) e;have h3:=(h.one v (List.mem_cons_self ..)).2.2;rw [h2,show at_ (zv O) (dep (zv O))=0 from Zu _ _]at h3
   omega
theorem zFO:∀i,i≤O.length→prodL (O.take i)=ordF O i
 | 0,_=>by simp [prodL,ordF]
 | i+1,hi=>by
  have h:i<O.length:=by omega
  rw [zAC h,zFO i (by omega),ordF,at_eq h]
theorem qi.ord (h:qi O P C):ordF O O.length≤729:=by
 have e:=zFO (O:=O) O.length (Nat.le_refl _);rw [List.take_length]at e
 rw [←e];exact h.2.2.2.2.1
theorem zGh {a b:Int} (ha:1≤a) (hab:a≤b) (h:a*b≤729):a<50:=by
 rcases Int.lt_or_le a 50 with h1|h1
 ·exact h1
 ·have:50*50≤a*b:=Int.mul_le_mul h1 (by omega) (by omega) (by omega)
  omega
set_option maxHeartbeats 1600000 in
theorem zQW (g:LG O P C) (hs:PtrG σ sp vO vP vC) (hR:IsPr vO vP vC O P C) (hU:FII vU u) (hu:qJ O P C u) (hW:FII vW w) (hw:qJ O P C w) (hsz:szU O u*szU O w≤729)
  (hk:∀v L,FII v L→(L.length=0↔TrivM O P C u w)→K v σ):zA Tryz.prog 155 [.ptr sp 0,vU,vW] σ K:=by
 have s:=g.s;have F:=g.F;have hn6:=s.le;have hul:=hu.len;have hwl:=hw.len;have hR0:=hR;have hp:=qi.isp g.pr;have hO:=hR.O;obtain⟨bu1,bu2⟩:=ZT s hu.2;obtain⟨bw1,bw2⟩:=ZT s hw.2;have pu:=Zp bu1 u.length (Nat.le_refl _);have pw':=Zp bw1 w.length (Nat.le_refl _);rw [List.take_length]at pu pw'
 refine zA.gh ?_;refine zB mix Tryz.func155 ?_;simp only [pwA,seval,-iQ0];refine sizeOf_ok s hs hO hU hu.2 (by omega) ?_
 simp only [pwA,seval,-iQ0];refine sizeOf_ok s hs hO hW hw.2 (by omega) ?_
 simp only [pwA,seval,-iQ0];refine iteI (fun hgt=>?_) fun hle=>?_
 rotate_left
 focus
  have hsm:=zGh pu.1 (by omega) hsz
  clear hsz hle pu pw' bu1 bu2 bw1 bw2 hul hwl;have fA:=hU;have sA:=hu;have fB:=hW;have sB:=hw;clear hU hu hW hw;generalize u=a at *
  generalize w=b at *
  generalize vU=va at *
  generalize vW=vb at *
 rotate_left
 focus
  have hsm:=zGh pw'.1 (by omega) (Int.mul_comm (szU O w) (szU O u) ▸ hsz)
  have hk:=fun v L f e=>hk v L f (Iff.trans e TrivM.comm)
  clear hsz hgt pu pw' bu1 bu2 bw1 bw2 hul hwl;have fA:=hW;have sA:=hw;have fB:=hU;have sB:=hu;clear hU hu hW hw;generalize w=a at *
  generalize u=b at *
  generalize vW=va at *
  generalize vU=vb at *
 all_goals
  refine zAV s hs hR fun ss sb h1 k1 n1 n2 q1=>?_
  simp only [pwA,seval,-iQ0];refine zHJ g (hs.keep k1) hR fA sA hsm fun vZ Z fZ mZ lZ=>?_
  have fZ0:=fZ;obtain⟨wz,az,rz,rfl,hrz⟩:=fZ;simp only [pwA,seval,-iQ0];refine zD (fun m vs h'=>∃(i:Nat) (rb':List PV) (D':List (Option (List Int))),i≤Z.length∧m=Z.length-i∧vs=[.ptr sp 0,vb,.ptr ss 0,.fz wz az Z.length rz,.int .i64 Z.length,.int .i64 i]∧Keep (h1.set sb rb') h'∧All2 (DRow O.length) rb' D'∧OkD O D'∧QI O P C D' []∧
   (∀N,gB O P C N→(InD N D'↔∀q∈Z.take i,GC O P C b q→N q))) Z.length ?_ ?_
  ·refine⟨0,_,_,by omega,by omega,rfl,Keep.self q1.bobj (Keep.refl _),⟨by simp,fun k c r hc hr=>?_⟩,OkD.start O.length rfl,QI.start _,fun N hN=>⟨fun _ q hq=>(by cases hq),fun _=>InD.start _⟩⟩
   rw [List.getElem?_replicate]at hc hr
   split at hc
   ·rename_i h
    rw [if_pos h]at hr
    cases hc;cases hr;exact .inl ⟨rfl,rfl⟩
   ·cases hc
  rintro m vs h' ⟨i,rb',D',hi,rfl,rfl,hkp,hrb',hD',hQ',hN'⟩
  simp only [pwA,seval,-iQ0];refine iteI (fun hlt=>?_) fun hge=>?_
  rotate_left
  ·obtain rfl:i=Z.length:=by omega
   rw [List.take_length]at hN'
   refine zDc s F g.cent ((q1.setB rb').keep hkp) hR hD' hrb' fun v L f1 cd=>?_
   simp only [pwA,seval,-iQ0];refine Gh.fin0 ((k1.set n2 rb').trans hkp) (f1.bel _) (hk v L f1 ?_)
   classical
   have cg:=cd.can s F g.cent hD' hQ' (L:=Z.filter fun q=>decide (GC O P C b q)) fun N hN=>(hN' N hN).trans ⟨fun h q hq=>by
    obtain⟨h1,h2⟩:=List.mem_filter.1 hq;exact h q h1 (of_decide_eq_true h2),fun h q h1 h2=>h q (List.mem_filter.2 ⟨h1,decide_eq_true h2⟩)⟩
   refine(zIj F (fun x hx=>(GC.sub F sA.1).inS ((mZ x).1 (List.mem_filter.1 hx).1)) cg).trans ⟨fun h x h1 h2=>h x (List.mem_filter.2 ⟨(mZ x).2 h1,decide_eq_true h2⟩),fun h x hx=>?_⟩
   obtain⟨h1,h2⟩:=List.mem_filter.1 hx;exact h x ((mZ x).1 h1) (of_decide_eq_true h2)
  obtain⟨wx,ax,hrx⟩:=hrz.rowI hlt;have hlt':(i:Int)<(Z.length:Int):=by omega
  have mz:=List.getElem_mem hlt;have xS:=(GC.sub F sA.1).inS ((mZ _).1 mz);have hsp:PtrG h' sp vO vP vC:=(hs.keep ((k1.set n2 rb').trans hkp));simp only [pwA,seval,-iQ0,hlt,hlt',hrx];refine zES g hsp hR fB sB xS ⟨wx,ax,rfl⟩ fun t ht=>?_
  have tk:Z.take (i+1)=Z.take i++[Z[i]]:=List.take_succ_eq_append_getElem hlt;cases t with
  | false=>
   have nt:¬GC O P C b Z[i]:=fun h=>by have:=ht.2 h;cases this
   simp only [pwA,seval,-iQ0,wrapS hlt (by omega:Z.length≤4611686018427387904)]
   exact⟨_,by omega,i+1,rb',D',by omega,rfl,rfl,hkp,hrb',hD',hQ',fun N hN=>(hN' N hN).trans (by
    rw [tk];exact⟨fun h q hq hb=>(List.mem_append.1 hq).elim (fun h1=>h q h1 hb) (fun h1=>absurd (List.mem_singleton.1 h1 ▸ hb) nt),fun h q hq=>h q (List.mem_append_left _ hq)⟩)⟩
  | true=>
   have yt:GC O P C b Z[i]:=ht.1 rfl;simp only [pwA,seval,-iQ0];have ssl:¬ss=h'.next:=by have:=hkp.next;have:=q1.lt;have e:(h1.set sb rb').next=h1.next:=rfl;omega
   have cap1:capOK (.known 1) 1=true:=rfl;refine zA.frz (s:=h'.next) (cs:=[PV.fz wx ax Z[i].length (pis Z[i])]) (by rw [zH,if_pos rfl]) ⟨trivial,trivial⟩ fun o=>?_
   simp only [sbs,Go.Ab.sb,cap1,and_self,if_true,nm_eq,ssl,if_false];have kH:Keep h' ((h'.new [PV.fz wx ax Z[i].length (pis Z[i])]).kill h'.next):=(zC _ _).kill (Nat.le_refl _);refine zIs (L:=[Z[i]]) s F g.cent hp ((q1.setB rb').keep (hkp.trans kH)) hR hD' hrb' hQ' ⟨true,_,[PV.fz wx ax Z[i].length (pis Z[i])],rfl,@All2.snoc _ _ FI [] [] _ _ (All2.nil _) ⟨wx,ax,rfl⟩⟩ (fun x hx=>by rw [List.mem_singleton.1 hx];exact xS) (by simp) fun t2 rb2 D2 hrb2 hD2 hQ2 hN2 _ _=>?_
   simp only [pwA,seval,-iQ0,wrapS hlt (by omega:Z.length≤4611686018427387904)]
   have kS:=(hkp.trans kH).setB (s:=sb) rb2;rw [qz]at kS
   exact⟨_,by omega,i+1,rb2,D2,by omega,rfl,rfl,kS,hrb2,hD2,hQ2,fun N hN=>(hN2 N hN).trans (by
    rw [hN' N hN,tk];exact⟨fun h q hq hb=>(List.mem_append.1 hq).elim (fun h1=>h.1 q h1 hb) (fun h1=>h.2 q h1),fun h=>⟨fun q hq=>h q (List.mem_append_left _ hq),fun q hq=>h q (List.mem_append_right _ hq) (List.mem_singleton.1 hq ▸ yt)⟩⟩)⟩
end Go.Proofs
namespace Go.Grp
end Go.Grp
namespace Go.Proofs
open Go.Ab Go.Lie Go.Grp
variable {σ:PHeap} {K:PV→PHeap→Prop} {O:List Int} {P:List (List Int)} {C:List (List (List Int))} {vO vP vC vU vx:PV} {u:List (List Int)} {x:List Int} {sp:Nat}
def NorG (O:List Int) (P:List (List Int)) (C:List (List (List Int))) (u:List (List Int)):Prop:=∀g∈Z7 O,∀x∈u,GC O P C u (gcnj O P C x g)
theorem zGZ (s:Shp O P C):∀g∈Z7 O,gS O g:=fun g hg=>by
 obtain⟨i,hi,rfl⟩:=List.mem_map.1 hg;exact s.unit (by simpa using hi) (Nat.zero_le _)
theorem zJi (g:LG O P C) (hs:PtrG σ sp vO vP vC) (hR:IsPr vO vP vC O P C) (hU:FII vU u) (hu:qJ O P C u) (hk:∀t:Bool,(t=true↔NorG O P C u)→K (.bool t) σ):zA Tryz.prog 142 [.ptr sp 0,vU] σ K:=by
 have fl:∀{A:Prop},¬A→((false=true)↔A):=fun h=>⟨fun x=>(by cases x),fun x=>absurd x h⟩
 have up:∀{z:List Int},gS O z→TT O (O.length-O.length) z:=fun h=>by rw [Nat.sub_self];exact h
 have dn:∀{z:List Int},TT O (O.length-O.length) z→gS O z:=fun h=>by rw [Nat.sub_self]at h;exact h
 have s:=g.s;have F:=g.F;have hn6:=s.le;have hul:=hu.len;have hgen:=zGZ s;have hUU:=hU;obtain⟨wu,au,ru,rfl,hru⟩:=hU;refine zB mix Tryz.func142 ?_;simp only [pwA,seval,-iQ0];refine zHE s hs hR fun vG hG=>?_
 have hgl:(Z7 O).length=O.length:=by simp [Z7]
 unfold NorG at hk
 generalize Z7 O=G at *
 obtain⟨wg,ag,rg,rfl,hrg⟩:=hG;simp only [pwA,seval,-iQ0];refine zD (fun m vs h=>∃i:Nat,i≤G.length∧m=G.length-i∧vs=[.ptr sp 0,.fz wu au u.length ru,.fz wg ag G.length rg,.int .i64 G.length,.int .i64 i]∧σ=h∧∀g∈G.take i,∀x∈u,GC O P C u (gcnj O P C x g)) G.length ⟨0,by omega,by omega,rfl,rfl,fun g hg=>by simp at hg⟩ ?_
 rintro m vs h ⟨i,hi,rfl,rfl,rfl,hall⟩
 simp only [pwA,seval,-iQ0];refine iteI (fun hlt=>?_) fun hge=>?_
 rotate_left
 ·have hie:i=G.length:=by omega
  subst hie;rw [List.take_length]at hall
  exact hk _ ⟨fun _=>hall,fun _=>rfl⟩
 obtain⟨w4,a4,hr⟩:=hrg.rowI hlt;have hgi:=hgen _ (List.getElem_mem hlt);simp only [pwA,seval,-iQ0,hlt,hr];refine zD (fun m vs h=>∃k:Nat,k≤u.length∧m=u.length-k∧vs=[.ptr sp 0,.fz wu au u.length ru,.fz w4 a4 G[i].length (pis G[i]),.fz wg ag G.length rg,.int .i64 G.length,.int .i64 i,.fz wu au u.length ru,.int .i64 u.length,.int .i64 k]∧σ=h∧∀x∈u.take k,GC O P C u (gcnj O P C x G[i])) u.length ⟨0,by omega,by omega,rfl,rfl,fun x hx=>by simp at hx⟩ ?_
 rintro m vs h ⟨k,hk1,rfl,rfl,rfl,hall2⟩
 simp only [pwA,seval,-iQ0];refine iteI (fun hlt2=>?_) fun hge=>?_
 rotate_left
 ·have hke:k=u.length:=by omega
  subst hke;rw [List.take_length]at hall2
  simp only [pwA,seval,-iQ0,wrapS hlt (by omega:G.length≤4611686018427387904)]
  refine⟨_,by omega,i+1,by omega,rfl,rfl,fun y hy=>?_⟩
  rw [List.take_succ_eq_append_getElem hlt,List.mem_append,List.mem_singleton]at hy
  rcases hy with hy|rfl
  ·exact hall y hy
  ·exact hall2
 obtain⟨w5,a5,hr2⟩:=hru.rowI hlt2;have hxi:=hu.1 _ (List.getElem_mem hlt2);simp only [pwA,seval,-iQ0,hlt2,hr2];refine zAM s F hs hR (up hxi) (up hgi) ⟨w5,a5,rfl⟩ ⟨w4,a4,rfl⟩ fun v1 z h1 h2 f1=>?_
 obtain rfl:z=gcnj O P C u[k] G[i]:=F.g.cnj_eq hxi hgi (dn h1) h2;simp only [pwA,seval,-iQ0];refine zES g hs hR hUU hu (dn h1) f1 fun t ht=>?_
 cases t with
 | false=>
  simp only [pwA,seval,-iQ0];refine hk _ (fl fun h=>?_)
  have:=ht.2 (h _ (List.getElem_mem hlt) _ (List.getElem_mem hlt2))
  cases this
 | true=>
 have e:=ht.1 rfl;simp only [pwA,seval,-iQ0,wrapS hlt2 (by omega:u.length≤4611686018427387904)]
 refine⟨_,by omega,k+1,by omega,rfl,rfl,fun y hy=>?_⟩
 rw [List.take_succ_eq_append_getElem hlt2,List.mem_append,List.mem_singleton]at hy
 rcases hy with hy|rfl
 ·exact hall2 y hy
 ·exact e
end Go.Proofs
namespace Go.Grp
end Go.Grp
namespace Go.Proofs
open Go.Ab Go.Lie Go.Grp
variable {σ h hE:PHeap} {K:PV→PHeap→Prop} {O x y w:List Int} {P:List (List Int)} {C:List (List (List Int))} {vO vP vC vx vL vU vZ vw vD:PV} {L u Z:List (List Int)} {sp n:Nat}
theorem zLA (g:LG O P C) (hR:IsPr vO vP vC O P C) (hU:FII vU u) (hu:qJ O P C u) (hx:gS O x) (hvx:FI vx x) (hk:∀t:Bool,(t=true↔GC O P C u x)→K (.bool t) σ):zA Tryz.prog 67 [.agg [vO,vP,vC],vU,vx] σ K:=
 zMp g hR (GC.sub g.F hu.1) hU hu.2 hx hvx hk
end Go.Proofs
namespace Go.Grp
end Go.Grp
namespace Go.Proofs
open Go.Ab Go.Lie Go.Grp
variable {σ h:PHeap} {K:PV→PHeap→Prop} {O x y z:List Int} {P:List (List Int)} {C:List (List (List Int))} {u w out Z A:List (List Int)} {k t sp:Nat} {vO vP vC vU vW vZ:PV} {cs cs':List PV}
theorem zFm (g:LG O P C) (hs:PtrG σ sp vO vP vC) (hR:IsPr vO vP vC O P C) (hU:FII vU u) (hu:qJ O P C u) (hW:FII vW w) (hw:qJ O P C w)
  (hk:∀t:Bool,(t=true↔szU O u*szU O w=ordF O O.length∧TrivM O P C u w)→K (.bool t) σ):zA Tryz.prog 94 [.ptr sp 0,vU,vW] σ K:=by
 have fl:∀{A:Prop},¬A→((false=true)↔A):=fun h=>⟨fun x=>(by cases x),fun x=>absurd x h⟩
 have s:=g.s;have hn6:=s.le;have hul:=hu.len;have hwl:=hw.len;have ho:=g.pr.ord;obtain⟨bu1,bu2⟩:=ZT s hu.2;obtain⟨bw1,bw2⟩:=ZT s hw.2;have pu:=Zp bu1 u.length (Nat.le_refl _);have pw':=Zp bw1 w.length (Nat.le_refl _);rw [List.take_length]at pu pw'
 have p7:=pow7b (show u.length≤6 by omega)
 have q7:=pow7b (show w.length≤6 by omega)
 have wm:IntKind.i64.wrap (szU O u*szU O w)=szU O u*szU O w:=by
  have h1:szU O u*szU O w≤117649*117649:=Int.mul_le_mul (by omega) (by omega) (by omega) (by omega)
  have h2:0≤szU O u*szU O w:=Int.mul_nonneg (by omega) (by omega)
  exact wrap64 (by omega) (by omega)
 refine zB mix Tryz.func94 ?_;simp only [pwA,seval,-iQ0];refine sizeOf_ok s hs hR.O hU hu.2 (by omega) ?_
 simp only [pwA,seval,-iQ0];refine sizeOf_ok s hs hR.O hW hw.2 (by omega) ?_
 simp only [pwA,seval,-iQ0,wm];refine zDC s hs hR.O ?_
 by_cases e:szU O u*szU O w=ordF O O.length
 rotate_left
 ·simp only [pwA,seval,-iQ0,wm,e,decide_false]
  exact hk false (fl fun h=>e h.1)
 ·simp only [pwA,seval,-iQ0,wm,e,decide_true]
  refine zQW g hs hR hU hu hW hw (by rw [e];exact ho) fun v L f1 hL=>?_
  obtain⟨w1,a1,r1,rfl,hr1⟩:=f1
  by_cases h0:L.length=0
  ·have z:((L.length:Nat):Int)=0:=by omega
   simp only [pwA,seval,-iQ0,z,decide_true];exact hk true ⟨fun _=>⟨e,hL.1 h0⟩,fun _=>rfl⟩
  ·have z:¬((L.length:Nat):Int)=0:=by omega
   simp only [pwA,seval,-iQ0,h0,z,decide_false];exact hk false (fl fun h=>h0 (hL.2 h.2))
theorem zGV {wL:Bool} {aL:AV} {LL:List (List (List Int))} {rw_:List PV} (hs:PtrG σ sp vO vP vC) (hR:IsPr vO vP vC O P C) (sz:SzP O P C) (hLL:All2 FII rw_ LL) (hl:LL.length≤1000) (szu:∀U∈LL,SzL U)
  (hk:∀t:Bool,(t=true↔(qi O P C∧Cons O P C)∧∀U∈LL,qJ O P C U)→K (.bool t) σ):zA Tryz.prog 135 [.ptr sp 0,.fz wL aL LL.length rw_] σ K:=by
 have fl:∀{A:Prop},¬A→((false=true)↔A):=fun h=>⟨fun x=>(by cases x),fun x=>absurd x h⟩
 have r3:σ.rd sp 0 3=some [vO,vP,vC]:=by rw [ZB hs.obj];rfl
 have hR0:=hR;obtain⟨⟨w0,a0,rfl⟩,_,_⟩:=hR;have r1:σ.rd1 sp 0=some (.fz w0 a0 O.length (pis O)):=by rw [zF hs.obj];rfl
 refine zB mix Tryz.func135 ?_;simp only [pwA,seval,-iQ0,r3];refine zBq hR0 sz fun t ht=>?_
 cases t with
 | false=>
  simp only [pwA,seval,-iQ0];exact hk false (fl fun h=>by have:=ht.2 h.1;cases this)
 | true=>
 have gp:=ht.1 rfl;have g:LG O P C:=⟨gp.1,gp.2⟩;have s:=g.s;have F:=g.F;have hn6:=s.le;clear ht;simp only [pwA,seval,-iQ0];refine zD (fun m us h'=>∃i:Nat,i≤LL.length∧m=LL.length-i∧us=[.ptr sp 0,.fz wL aL LL.length rw_,.int .i64 LL.length,.int .i64 i]∧σ=h'∧∀U∈LL.take i,qJ O P C U) LL.length ?_ ?_
 ·exact⟨0,by omega,by omega,rfl,rfl,fun U hU=>by cases hU⟩
 rintro m us h' ⟨i,hi,rfl,rfl,rfl,hall⟩
 simp only [pwA,seval,-iQ0];refine iteI (fun hi1=>?_) fun hi1=>?_
 rotate_left
 ·rw [List.take_of_length_le (by omega)]at hall
  exact hk true ⟨fun _=>⟨gp,hall⟩,fun _=>rfl⟩
 have hi1':(i:Int)<(LL.length:Int):=by omega
 obtain⟨c,hc,fc⟩:=hLL.get hi1;have mU:=List.getElem_mem hi1;have szu:=szu _ mU;have hU0:=fc;have tkU:LL.take (i+1)=LL.take i++[LL[i]]:=List.take_succ_eq_append_getElem hi1;generalize LL[i]=u at *
 have hul:=szu.l;obtain⟨wu,au,ru,rfl,hru⟩:=fc;have hcd:(List.drop i rw_)[0]? = some (.fz wu au u.length ru):=by rw [List.getElem?_drop];exact hc
 simp only [pwA,seval,-iQ0,hi1,hi1',hc,r1];refine iteI (fun hgt=>?_) fun hle=>?_
 ·refine hk _ (fl fun h=>?_)
  have:=(h.2 _ mU).len
  omega
 have hle':u.length≤O.length:=by omega
 refine zD (fun m us h'=>∃j:Nat,j≤u.length∧m=u.length-j∧us=[.ptr sp 0,.fz wu au u.length ru,.fz wL aL LL.length rw_,.int .i64 LL.length,.int .i64 i,.fz wu au u.length ru,.int .i64 u.length,.int .i64 j]∧σ=h'∧∀x∈u.take j,isExp O x) u.length ?_ ?_
 ·exact⟨0,by omega,by omega,rfl,rfl,fun x hx=>by simp at hx⟩
 rintro m us h' ⟨j,hj,rfl,rfl,rfl,hall'⟩
 simp only [pwA,seval,-iQ0];refine iteI (fun hlt=>?_) fun hge=>?_
 rotate_left
 ·obtain rfl:j=u.length:=by omega
  rw [List.take_length]at hall'
  have hgu:∀x∈u,gS O x:=fun x hx=>(hall' x hx).gS
  simp only [pwA,seval,-iQ0];refine zIU g hs hR0 hU0 hgu (by omega) fun v z hv hz=>?_
  simp only [pwA,seval,-iQ0];have hzl:=hz.len;refine zIy hv hU0 (by omega) (fun x hx=>by have:=(hz.one x hx).1.len;omega) fun t ht=>?_
  cases t with
  | false=>
   simp only [pwA,seval,-iQ0];refine hk _ (fl fun h=>?_)
   have:=ht.2 (hz.unique s F (GC.sub F hgu) (h.2 _ mU).2)
   cases this
  | true=>
   have e:=ht.1 rfl;simp only [pwA,seval,-iQ0,wrapS hi1 (by omega:LL.length≤4611686018427387904)]
   refine⟨_,by omega,i+1,by omega,rfl,rfl,fun U hU=>?_⟩
   rw [tkU]at hU
   rcases List.mem_append.1 hU with h|h
   ·exact hall U h
   ·rw [List.mem_singleton.1 h];exact⟨hgu,by rw [e]at hz;exact hz⟩
 obtain⟨w4,a4,hr⟩:=hru.rowI hlt;have hxi:=szu.r _ (List.getElem_mem hlt);simp only [pwA,seval,-iQ0,hlt,hr];refine zB8 hs hR0.O (by omega) (qi.isp g.pr) ⟨w4,a4,rfl⟩ hxi fun t ht=>?_
 cases t with
 | false=>
  simp only [pwA,seval,-iQ0];refine hk _ (fl fun h=>?_)
  have:=ht.2 (zM6.2 ((h.2 _ mU).1 _ (List.getElem_mem hlt)))
  cases this
 | true=>
 have h1:=ht.1 rfl;simp only [pwA,seval,-iQ0,wrapS hlt (by omega:u.length≤4611686018427387904)]
 refine⟨_,by omega,j+1,by omega,rfl,rfl,fun x hx=>?_⟩
 rw [List.take_succ_eq_append_getElem hlt,List.mem_append,List.mem_singleton]at hx
 rcases hx with hx|hx
 ·exact hall' x hx
 ·rw [hx];exact h1
end Go.Proofs
namespace Go.Grp
end Go.Grp
namespace Go.Proofs
open Go.Ab Go.Lie Go.Grp
variable {σ h:PHeap} {K:PV→PHeap→Prop} {O x y z a b:List Int} {P:List (List Int)} {C:List (List (List Int))} {u w out Z A T:List (List Int)} {k t sp i:Nat} {vO vP vC vU vW vZ va:PV} {cs cs':List PV}
theorem zIg (h:∀j,j<O.length→2≤at_ O j∧at_ O j≤7):∀{c:Nat} {x:List Int},c≤O.length→x.length=c→(∀j,j<c→0≤at_ x j∧at_ x j<at_ O j)→0≤numF O x c∧dgs O c (numF O x c).toNat=x
 | 0,x,_,hl,_=>by rw [List.eq_nil_of_length_eq_zero hl];exact⟨Int.le_refl _,rfl⟩
 | c+1,x,hc,hl,hx=>by
  obtain⟨y,b,rfl⟩:∃y b,x=y++[b]:=by
   rcases zGi x with e|e
   ·rw [e]at hl;simp at hl
   ·exact e
  have hyl:y.length=c:=by simpa using hl
  have hat:∀j,j<c→at_ (y++[b]) j=at_ y j:=fun j hj=>by rw [zBV,if_pos (by omega)]
  have hb:at_ (y++[b]) c=b:=by rw [zBV,if_neg (by omega),hyl,Nat.sub_self];rfl
  obtain⟨h0,ih⟩:=zIg h (c:=c) (x:=y) (by omega) hyl fun j hj=>by rw [←hat j hj];exact hx j (by omega)
  have bb:=hx c (by omega)
  rw [hb]at bb
  have ho:=h c (by omega)
  obtain⟨o,eo⟩:∃o:Nat,at_ O c=(o:Int):=⟨(at_ O c).toNat,by omega⟩
  obtain⟨n,en⟩:∃n:Nat,numF O y c=(n:Int):=⟨(numF O y c).toNat,by omega⟩
  obtain⟨r,er⟩:∃r:Nat,b=(r:Int):=⟨b.toNat,by omega⟩
  have e1:numF O (y++[b]) c=numF O y c:=zCW hat;rw [numF,e1,hb,en,eo,er];have e2:(n:Int)*(o:Int)+(r:Int)=((n*o+r:Nat):Int):=by simp
  rw [e2];refine⟨by omega,?_⟩
  rw [Int.toNat_natCast,dgs,eo,Int.toNat_natCast];rw [en,Int.toNat_natCast]at ih
  have ro:r<o:=by omega
  have d1:(n*o+r) / o=n:=by rw [Nat.add_comm,Nat.add_mul_div_right _ _ (by omega),Nat.div_eq_of_lt ro,Nat.zero_add]
  have d2:(n*o+r) % o=r:=by rw [Nat.add_comm,Nat.add_mul_mod_self_right,Nat.mod_eq_of_lt ro]
  rw [d1,d2,ih]
def prdN (O:List Int) (P:List (List Int)) (C:List (List (List Int))) (u:List (List Int)) (a:List Int):Nat→List Int
 | 0=>zv O
 | i+1=>gm O P C (prdN O P C u a i) (gpw O P C (u.getD i []) (at_ a i).toNat)
theorem zKg (h:∀j,j<i→at_ a j=at_ b j):prdN O P C u a i=prdN O P C u b i:=by
 induction i with
 | zero=>rfl
 | succ i ih=>rw [prdN,prdN,ih fun j hj=>h j (by omega),h i (by omega)]
def ordsU (O:List Int) (u:List (List Int)):List Int:=u.map fun v=>at_ O (dep v)
theorem zAT (hi:i<u.length):at_ (ordsU O u) i=at_ O (dep u[i]):=by
 rw [at_eq (show i<(ordsU O u).length by simpa [ordsU]using hi)];simp [ordsU]
theorem zIY (hi:i<u.length):exA O P C [zv O] (u.take (i+1))=exN O P C (exA O P C [zv O] (u.take i)) u[i]:=by
 unfold exA;rw [List.take_succ_eq_append_getElem hi,List.foldl_append];rfl
theorem zJ7 (ha:∀j,j<u.length→0≤at_ a j∧at_ a j<at_ O (dep (u.getD j []))):∀i,i≤u.length→prdN O P C u a i∈exA O P C [zv O] (u.take i)
 | 0,_=>by simp [prdN,exA]
 | i+1,hi=>by
  have hl:i<u.length:=hi;have g:u.getD i []=u[i]:=by rw [List.getD_eq_getElem?_getD,List.getElem?_eq_getElem hl];rfl
  have:=ha i hl
  rw [zIY hl,prdN,g];rw [g]at this
  exact List.mem_flatMap.2 ⟨_,zJ7 ha i (by omega),List.mem_map.2 ⟨_,List.mem_range.2 (by show(at_ a i).toNat<(at_ O (dep u[i])).toNat;omega),rfl⟩⟩
theorem zKC:∀i,i≤u.length→∀x,x∈exA O P C [zv O] (u.take i)→∃a:List Int,a.length=i∧(∀j,j<i→0≤at_ a j∧at_ a j<at_ O (dep (u.getD j [])))∧x=prdN O P C u a i
 | 0,_,x,hx=>⟨[],rfl,fun j hj=>by omega,by simpa [exA,prdN]using hx⟩
 | i+1,hi,x,hx=>by
  have hl:i<u.length:=hi;have g:u.getD i []=u[i]:=by rw [List.getD_eq_getElem?_getD,List.getElem?_eq_getElem hl];rfl
  rw [zIY hl]at hx
  obtain⟨y,hy,h1⟩:=List.mem_flatMap.1 hx;obtain⟨t,ht,rfl⟩:=List.mem_map.1 h1;have ht:=List.mem_range.1 ht;obtain⟨a,h2,h3,rfl⟩:=zKC i (by omega) y hy
  have hat:∀j,j<i→at_ (a++[(t:Int)]) j=at_ a j:=fun j hj=>by rw [zBV,if_pos (by omega)]
  have hb:at_ (a++[(t:Int)]) i=t:=by rw [zBV,if_neg (by omega),h2,Nat.sub_self];rfl
  have ht':t<(at_ O (dep u[i])).toNat:=ht;refine⟨a++[(t:Int)],by simp [h2],fun j hj=>?_,?_⟩
  ·rcases Nat.lt_or_ge j i with e | e
   ·rw [hat j e];exact h3 j e
   ·obtain rfl:j=i:=by omega
    rw [hb,g];omega
  ·rw [prdN,hb,g,Int.toNat_natCast,zKg (fun j hj=>hat j hj)]
theorem zNo:szU O u=ordF (ordsU O u) u.length:=by
 have key:∀i,i≤u.length→szU O (u.take i)=ordF (ordsU O u) i:=by
  intro i
  induction i with
  | zero=>intro _;simp [szU,ordF]
  | succ i ih=>
   intro hi;rw [List.take_succ_eq_append_getElem (show i<u.length by omega),zAR,ih (by omega),ordF,zAT]
 have:=key u.length (Nat.le_refl _)
 rwa [List.take_length]at this
theorem zEP (g:LG O P C) (hu:qJ O P C u) (x:List Int):GC O P C u x↔∃k:Nat,(k:Int)<szU O u∧x=prdN O P C u (dgs (ordsU O u) u.length k) u.length:=by
 have s:=g.s;obtain⟨b1,b2⟩:=ZT s hu.2;have ol:(ordsU O u).length=u.length:=by simp [ordsU]
 have gd:∀j (hj:j<u.length),u.getD j []=u[j]:=fun j hj=>by rw [List.getD_eq_getElem?_getD,List.getElem?_eq_getElem hj];rfl
 have hpr:∀j,j<(ordsU O u).length→2≤at_ (ordsU O u) j∧at_ (ordsU O u) j≤7:=fun j hj=>by
  rw [ol]at hj
  rw [zAT hj];exact s.pr _ (b2 _ (List.getElem_mem hj)).2
 rw [←zGT g hu x];constructor
 ·intro h
  rw [←List.take_length (l:=u)]at h
  obtain⟨a,h1,h2,e⟩:=zKC u.length (Nat.le_refl _) x h;have hb:∀j,j<u.length→0≤at_ a j∧at_ a j<at_ (ordsU O u) j:=fun j hj=>by rw [zAT hj,←gd j hj];exact h2 j hj
  obtain⟨n0,nd⟩:=zIg hpr (c:=u.length) (x:=a) (by omega) h1 hb
  have bd:=Q6 hpr (x:=a) (fun j hj=>hb j (by omega)) (i:=u.length) (by omega)
  refine⟨(numF (ordsU O u) a u.length).toNat,by rw [zNo];omega,?_⟩
  rw [nd];exact e
 ·rintro ⟨k,hk,rfl⟩
  have:=zJ7 (O:=O) (P:=P) (C:=C) (u:=u) (a:=dgs (ordsU O u) u.length k) (fun j hj=>by
   have:=zFy hpr (c:=u.length) (k:=k) (by omega) j hj
   rw [zAT hj]at this
   rw [gd j hj];exact this) u.length (Nat.le_refl _)
  rwa [List.take_length]at this
end Go.Proofs
namespace Go.Grp
end Go.Grp
namespace Go.Proofs
open Go.Ab Go.Lie Go.Grp
variable {σ h:PHeap} {K:PV→PHeap→Prop} {O x y z a b:List Int} {P:List (List Int)} {C:List (List (List Int))} {u w out Z A T:List (List Int)} {k t sp i:Nat} {vO vP vC vU vW vZ va:PV} {cs cs':List PV}
theorem zIL (g:LG O P C) (hR:IsPr vO vP vC O P C) (hU:FII vU u) (hu:qJ O P C u) (hk:∀v,FI v (ordsU O u)→K v σ):zA Tryz.prog 206 [.agg [vO,vP,vC],vU] σ K:=by
 have s:=g.s;have hn6:=s.le;have hul:=hu.len;have g0:=hR.O.one;have g1:=hR.P.one;have g2:=hR.C.one;obtain⟨b1,b2⟩:=ZT s hu.2;obtain⟨⟨w0,a0,rfl⟩,_,_⟩:=hR;obtain⟨wU,aU,rU,rfl,hrU⟩:=hU;refine zA.gh ?_;refine zB mix Tryz.func206 ?_;simp only [pwA,seval,-iQ0,g0,g1,g2];refine zD (fun m vs h=>∃(i:Nat) (vo:PV),i≤u.length∧m=u.length-i∧vs=[.fz wU aU u.length rU,.ptr σ.next 0,vo,.int .i64 i]∧Keep (σ.new [.fz w0 a0 O.length (pis O),vP,vC]) h∧PSl (σ.next+1) 1 h vo i (pis (ordsU O (u.take i)))) u.length ?_ ?_
 ·exact⟨0,_,Nat.zero_le _,rfl,rfl,zC _ _,PSl.new _ _ rfl (Nat.le_refl _)⟩
 rintro m vs h ⟨i,vo,hi,rfl,rfl,kH,ho⟩
 have e0:h.rd1 σ.next 0=some (.fz w0 a0 O.length (pis O)):=by rw [zF (by rw [kH.obj _ (by show σ.next<σ.next+1;omega),zH];exact if_pos rfl)];rfl
 simp only [pwA,seval,-iQ0];refine iteI (fun hlt=>?_) fun hge=>?_
 rotate_left
 ·obtain rfl:i=u.length:=by omega
  rw [List.take_length]at ho
  exact PAcc.fin ((zC σ _).trans kH) (ho.acc.low (by omega)) (zo _ _) fun a=>hk _ ⟨true,a,by simp [ordsU]⟩
 have hlt':(i:Int)<(u.length:Int):=by omega
 have mem:=List.getElem_mem hlt;obtain⟨hl,hd⟩:=b2 _ mem;have hd':((dep u[i]:Nat):Int)<(O.length:Int):=by omega
 obtain⟨w5,a5,h5⟩:=hrU.rowI hlt;have gO:(pis O)[dep u[i]]? = some (.int .i64 O[dep u[i]]):=by rw [zL,gi hd];rfl
 simp only [pwA,seval,-iQ0,hlt,hlt',h5,e0];refine Qo (x:=u[i]) rfl (by omega) ?_
 simp only [pwA,seval,-iQ0,hlt,hlt',h5,e0,hd,hd',gO];refine PAcc.push (σb:=σ.new [.fz w0 a0 O.length (pis O),vP,vC]) (bytes:=8) kH ho.acc (by omega) (by omega) fun v' h2 k2 a2=>?_
 simp only [pwA,seval,-iQ0,wrapS hlt (by omega:u.length≤4611686018427387904)]
 refine⟨_,by omega,i+1,v',by omega,rfl,rfl,k2,?_⟩
 have e:ordsU O (u.take (i+1))=ordsU O (u.take i)++[O[dep u[i]]]:=by
  unfold ordsU;rw [List.take_succ_eq_append_getElem hlt,List.map_append];exact congrArg (fun z=>_++[z]) (at_eq hd)
 rw [e,show pis (ordsU O (u.take i)++[O[dep u[i]]])=pis (ordsU O (u.take i))++[.int .i64 O[dep u[i]]] by simp [pis]]
 exact a2
theorem zG9 (g:LG O P C) (hR:IsPr vO vP vC O P C) (hU:FII vU u) (hu:qJ O P C u) (ha:FI va a) (hal:a.length=u.length) (hab:∀j,j<u.length→0≤at_ a j∧at_ a j<at_ (ordsU O u) j)
  (hk:∀v,FI v (prdN O P C u a u.length)→K v σ):zA Tryz.prog 208 [.agg [vO,vP,vC],vU,va] σ K:=by
 have s:=g.s;have F:=g.F;have hn6:=s.le;have hul:=hu.len;have g0:=hR.O.one;have g1:=hR.P.one;have g2:=hR.C.one;obtain⟨b1,b2⟩:=ZT s hu.2;obtain⟨wU,aU,rU,rfl,hrU⟩:=hU;obtain⟨wa,aa,rfl⟩:=ha;refine zA.gh ?_;refine zB mix Tryz.func208 ?_;simp only [pwA,seval,-iQ0,g0,g1,g2];generalize hH:σ.new [vO,vP,vC]=H';have kH:Keep σ H':=by rw [←hH];exact zC _ _
 have r3:H'.rd σ.next 0 3=some [vO,vP,vC]:=by rw [←hH];simp only [pwA,seval,-iQ0]
 clear hH;simp only [pwA,seval,-iQ0,r3,g0,g1,g2];refine zOl hR (by omega) fun v0 f0=>?_
 simp only [pwA,seval,-iQ0];refine zD (fun m vs h=>∃(i:Nat) (vx:PV),i≤u.length∧m=u.length-i∧vs=[.fz wU aU u.length rU,.fz wa aa a.length (pis a),.ptr σ.next 0,vx,.int .i64 i]∧h=H'∧FI vx (prdN O P C u a i)) u.length ?_ ?_
 ·exact⟨0,v0,Nat.zero_le _,rfl,rfl,rfl,f0⟩
 rintro m vs h ⟨i,vx,hi,rfl,rfl,rfl,fx⟩
 have inS:∀i,i≤u.length→gS O (prdN O P C u a i):=fun i hi=>by
  induction i with
  | zero=>exact F.g.one
  | succ i ih=>
   have hl:i<u.length:=hi;rw [prdN,List.getD_eq_getElem?_getD,List.getElem?_eq_getElem hl];exact F.g.cl (ih (by omega)) (F.g.pw (hu.1 _ (List.getElem_mem hl)) _)
 simp only [pwA,seval,-iQ0];refine iteI (fun hlt=>?_) fun hge=>?_
 rotate_left
 ·obtain rfl:i=u.length:=by omega
  exact Gh.fin0 kH (fx.bel _) (hk _ fx)
 have hlt':(i:Int)<(u.length:Int):=by omega
 have hlta:(i:Int)<(a.length:Int):=by omega
 have hla:i<a.length:=by omega
 have mem:=List.getElem_mem hlt;obtain⟨w5,a5,h5⟩:=hrU.rowI hlt;have ga:(pis a)[i]? = some (.int .i64 a[i]):=by rw [zL,gi hla];rfl
 have b:=hab i hlt;rw [zAT hlt]at b
 have bo:=b1 _ mem;have ea:at_ a i=a[i]:=at_eq hla;simp only [pwA,seval,-iQ0,hlt,hlt',hlta,hla,h5,ga,r3,g0,g1,g2];refine zDK g hR (hu.1 _ mem) ⟨w5,a5,rfl⟩ (by omega) fun v1 f1=>?_
 simp only [pwA,seval,-iQ0,r3,g0,g1,g2];refine Zn s hR (inS i (by omega)) (F.g.pw (hu.1 _ mem) _) fx f1 fun v2 f2=>?_
 simp only [pwA,seval,-iQ0,wrapS hlt (by omega:u.length≤4611686018427387904)]
 refine⟨_,by omega,i+1,v2,by omega,rfl,rfl,?_⟩
 rw [prdN,List.getD_eq_getElem?_getD,List.getElem?_eq_getElem hlt,ea];exact f2
end Go.Proofs
namespace Go.Grp
end Go.Grp
namespace Go.Proofs
open Go.Ab Go.Lie Go.Grp
variable {σ h:PHeap} {K:PV→PHeap→Prop} {O x y z a b:List Int} {P:List (List Int)} {C:List (List (List Int))} {u w out Z A T:List (List Int)} {k t sp i N:Nat} {vO vP vC vU vW vZ va:PV} {cs cs':List PV} {f:Nat→Nat}
def hitB (f:Nat→Nat) (k t:Nat):Bool:=(List.range k).any fun j=>f j == t
def hitL (f:Nat→Nat) (N k:Nat):List PV:=(List.range N).map fun t=>.bool (hitB f k t)
theorem zIR:hitB f k t=true↔∃j,j<k∧f j=t:=by
 unfold hitB;rw [List.any_eq_true];exact⟨fun⟨j,h1,h2⟩=>⟨j,List.mem_range.1 h1,by simpa using h2⟩,fun⟨j,h1,h2⟩=>⟨j,List.mem_range.2 h1,by simpa using h2⟩⟩
theorem zBS:(hitL f N k).length=N:=by simp [hitL]
theorem zCd (ht:t<N):(hitL f N k)[t]? = some (.bool (hitB f k t)):=by
 unfold hitL;rw [List.getElem?_map,List.getElem?_range ht];rfl
theorem zM3:hitL f N 0=List.replicate N (.bool false):=by
 refine List.ext_getElem? fun t=>?_
 rcases Nat.lt_or_ge t N with h|h
 ·rw [zCd h,List.getElem?_replicate,if_pos h];rfl
 ·rw [List.getElem?_eq_none (by rw [zBS];exact h),List.getElem?_eq_none (by simpa using h)]
theorem zOo:(hitL f N k).set (f k) (.bool true)=hitL f N (k+1):=by
 refine List.ext_getElem? fun t=>?_
 rcases Nat.lt_or_ge t N with h|h
 ·rw [zCd h,List.getElem?_set,zCd h,zBS]
  have e:hitB f (k+1) t=(hitB f k t || (f k == t)):=by
   unfold hitB;rw [List.range_succ,List.any_append];simp
  by_cases c:f k=t
  ·rw [if_pos c,if_pos (by omega),e,c];simp
  ·rw [if_neg c,e,show(f k == t)=false by simpa using c,Bool.or_false]
 ·rw [List.getElem?_eq_none (by rw [List.length_set,zBS];exact h),List.getElem?_eq_none (by rw [zBS];exact h)]
theorem zR1 {a:AV}:FII (.fz true a 0 []) []:=⟨true,a,[],rfl,All2.nil _⟩
set_option maxHeartbeats 1600000 in
theorem zB6 (g:LG O P C) (hR:IsPr vO vP vC O P C) (hU:FII vU u) (hu:qJ O P C u) (hk:∀v Z,FII v Z→(∀x,x∈Z↔GC O P C u x)→Z.length≤729→K v σ):zA Tryz.prog 166 [.agg [vO,vP,vC],vU] σ K:=by
 have s:=g.s;have F:=g.F;have hn6:=s.le;have hul:=hu.len;have g0:=hR.O.one;have g1:=hR.P.one;have g2:=hR.C.one;have hU0:=hU;have gU:=hU.one;obtain⟨b1,b2⟩:=ZT s hu.2;obtain⟨hN,hN1⟩:=QM s;have ho:=g.pr.ord;refine zA.gh ?_;refine zB mix Tryz.func166 ?_;simp only [pwA,seval,-iQ0,g0,g1,g2];generalize hH:σ.new [vO,vP,vC]=H1;have kH:Keep σ H1:=by rw [←hH];exact zC _ _
 have nH:H1.next=σ.next+1:=by rw [←hH];rfl
 have r3:H1.rd σ.next 0 3=some [vO,vP,vC]:=by rw [←hH];simp only [pwA,seval,-iQ0]
 have oH:H1.obj σ.next=some [vO,vP,vC]:=by rw [←hH,zH,if_pos rfl]
 clear hH;simp only [pwA,seval,-iQ0,r3,g0,g1,g2];refine Qn s hR hU0 hu.2 (by omega) ?_
 simp only [pwA,seval,-iQ0,r3,g0,g1,g2];refine QH s hR ?_;rw [hN];have mk1:((nEl O:Nat):Int)*((1:Nat):Int)≤140737488355328:=by omega
 have n1:¬σ.next=H1.next:=by omega
 simp only [pwA,seval,-iQ0,r3,g0,g1,g2,mk1,mkL (n:=nEl O) (by omega),n1]
 refine zIL g hR hU0 hu fun vD fD=>?_
 have fD0:=fD;obtain⟨wd,ad,rfl⟩:=fD;have odl:(ordsU O u).length=u.length:=by simp [ordsU]
 simp only [pwA,seval,-iQ0,r3,g0,g1,g2,n1];have hpr:∀j,j<(ordsU O u).length→2≤at_ (ordsU O u) j∧at_ (ordsU O u) j≤7:=fun j hj=>by
  rw [odl]at hj
  rw [zAT hj];exact s.pr _ (b2 _ (List.getElem_mem hj)).2
 have hshape:IsPr (.fz wd ad (ordsU O u).length (pis (ordsU O u))) (.fz true .nils 0 []) (.fz true .nils 0 []) (ordsU O u) [] []:=⟨fD0,zR1,⟨true,.nils,[],rfl,⟨rfl,fun k a b ha=>by cases ha⟩⟩⟩
 have pmem:∀k:Nat,(k:Int)<szU O u→GC O P C u (prdN O P C u (dgs (ordsU O u) u.length k) u.length):=fun k hk=>(zEP g hu _).2 ⟨k,hk,rfl⟩
 have hS:=GC.sub F hu.1;obtain⟨f,hf⟩:∃f:Nat→Nat,∀k,f k=(numF O (prdN O P C u (dgs (ordsU O u) u.length k) u.length) O.length).toNat:=⟨_,fun _=>rfl⟩
 have fN:∀k:Nat,(k:Int)<szU O u→numF O (prdN O P C u (dgs (ordsU O u) u.length k) u.length) O.length=((f k:Nat):Int)∧f k<nEl O:=fun k hk=>by
  have b:=Q6 s.pr (fun j hj=>(hS.inS (pmem k hk)).bd j hj) (Nat.le_refl O.length)
  rw [hf];omega
 have pu:=Zp b1 u.length (Nat.le_refl _);rw [List.take_length]at pu
 have p7:=pow7b (show u.length≤6 by omega)
 obtain⟨S,eS⟩:∃S:Nat,szU O u=(S:Int):=⟨(szU O u).toNat,by omega⟩
 rw [eS]at pmem fN pu ⊢
 refine zD (fun m vs h=>∃k:Nat,k≤S∧m=S-k∧vs=[vU,.ptr σ.next 0,.int .i64 (S:Int),.sl H1.next 0 (nEl O) (.known (nEl O)),.ptr (H1.next+1) 0,.int .i64 k]∧h=(H1.new (hitL f (nEl O) k)).new [.fz wd ad (ordsU O u).length (pis (ordsU O u)),.fz true .nils 0 [],.fz true .nils 0 []]) S ?_ ?_
 ·exact⟨0,by omega,by omega,rfl,by rw [zM3]⟩
 rintro m vs h ⟨k,hkS,rfl,rfl,rfl⟩
 have n2:¬σ.next=H1.next+1:=by omega
 by_cases hlt:k<S
 rotate_left
 ·obtain rfl:k=S:=by omega
  simp only [pwA,seval,-iQ0,hlt];generalize hH2:(H1.new (hitL f (nEl O) k)).new [.fz wd ad (ordsU O u).length (pis (ordsU O u)),.fz true .nils 0 [],.fz true .nils 0 []]=H2;have k2:Keep H1 H2:=by rw [←hH2];exact(zC _ _).new _
  have nH2:H2.next=H1.next+2:=by rw [←hH2];rfl
  have ob:H2.obj H1.next=some (hitL f (nEl O) k):=by
   rw [←hH2,zH,if_neg (by show ¬H1.next=H1.next+1;omega),zH,if_pos rfl]
  clear hH2;refine zD (fun m vs h=>∃(t:Nat) (vo:PV) (rows:List PV),t≤nEl O∧m=nEl O-t∧vs=[.ptr σ.next 0,.sl H1.next 0 (nEl O) (.known (nEl O)),vo,.int .i64 t]∧Keep H2 h∧PSl H2.next 1 h vo rows.length rows∧rows.length≤t∧All2 FI rows (((List.range t).filter (hitB f k)).map fun t=>dgs O O.length t)) (nEl O) ?_ ?_
  ·refine⟨0,.sl (H1.next+2) 0 0 (.known 0),[],by omega,by omega,rfl,zC _ _,?_,by simp,by simpa using All2.nil _⟩
   rw [←nH2];exact PSl.new H2.next 1 (h:=H2) (n:=0) (cs:=[]) rfl (Nat.le_refl _)
  rintro m vs h ⟨t,vo,rows,ht,rfl,rfl,kh,po,rl,hrows⟩
  have et:h.rd σ.next 0 3=some [vO,vP,vC]:=by rw [ZB (by rw [kh.obj _ (by omega),k2.obj _ (by omega)];exact oH)];rfl
  by_cases htn:t<nEl O
  rotate_left
  ·obtain rfl:t=nEl O:=by omega
   simp only [pwA,seval,-iQ0,htn];refine PAcc.fin ((kH.trans k2).trans kh) (po.acc.low (by omega)) (hrows.bI 0) fun a=>?_
   refine hk _ _ ⟨true,a,rows,by rw [hrows.1],hrows⟩ (fun x=>?_) ?_
   ·rw [List.mem_map,zEP g hu x]
    constructor
    ·rintro ⟨t,h1,rfl⟩
     obtain⟨h1,h2⟩:=List.mem_filter.1 h1;obtain⟨j,hj,e⟩:=zIR.1 h2;refine⟨j,by rw [eS];omega,?_⟩
     obtain⟨e1,e2⟩:=fN j (by omega)
     rw [←e,hf,zIe s (hS.inS (pmem j (by omega)))]
    ·rintro ⟨j,hj,rfl⟩
     rw [eS]at hj
     obtain⟨e1,e2⟩:=fN j hj;refine⟨f j,List.mem_filter.2 ⟨List.mem_range.2 e2,zIR.2 ⟨j,by omega,rfl⟩⟩,?_⟩
     rw [hf,zIe s (hS.inS (pmem j hj))]
   ·rw [←hrows.1];omega
  have htI:=inb htn;have rb:h.rd1 H1.next t=some (.bool (hitB f k t)):=by rw [zF (by rw [kh.obj _ (by omega)];exact ob)];exact zCd htn
  have wt:IntKind.i64.wrap ((t:Int)+1)=((t+1:Nat):Int):=wrapS (show t<200000 by omega) (by omega)
  have rs:List.range (t+1)=List.range t++[t]:=List.range_succ;cases hb:hitB f k t with
  | false=>
   rw [hb]at rb
   simp only [pwA,seval,-iQ0,htn,htI,rb,wt];exact⟨_,by omega,t+1,vo,rows,by omega,rfl,rfl,kh,po,by omega,by rw [rs,List.filter_append,List.map_append];simpa [hb]using hrows⟩
  | true=>
   rw [hb]at rb
   simp only [pwA,seval,-iQ0,htn,htI,rb,et,g0,g1,g2];refine zDr s hR (by omega) fun v3 f3=>?_
   have f30:=f3;obtain⟨w3,a3,rfl⟩:=f3;simp only [pwA,seval,-iQ0];refine PAcc.push (σb:=H2) (bytes:=24) kh po.acc (by omega) (by omega) fun v' h2 k3 p3=>?_
   simp only [pwA,seval,-iQ0,wt];refine⟨_,by omega,t+1,v',rows++[.fz w3 a3 (dgs O O.length t).length (pis (dgs O O.length t))],by omega,rfl,rfl,k3,by rw [List.length_append];exact p3,by rw [List.length_append];simp;omega,?_⟩
   rw [rs,List.filter_append,List.map_append];have e:([t].filter (hitB f k)).map (fun t=>dgs O O.length t)=[dgs O O.length t]:=by simp [hb]
   rw [e];exact hrows.snoc f30
 have hlt':(k:Int)<(S:Int):=by omega
 obtain⟨en,fl⟩:=fN k hlt';have wk:IntKind.i64.wrap ((k:Int)+1)=((k+1:Nat):Int):=wrapS (show k<200000 by omega) (by omega)
 simp only [pwA,seval,-iQ0,hlt,hlt',r3,g0,g1,g2,n1,n2,gU];refine zKD (by omega) hpr hshape (by omega) fun v1 f1=>?_
 rw [odl]at f1
 have g3:=f1.one;simp only [pwA,seval,-iQ0,r3,g0,g1,g2,n1,n2,gU,g3];refine zG9 g hR hU0 hu f1 (Zl _ _ _) (fun j hj=>zFy hpr (by omega) j hj) fun v2 f2=>?_
 have g4:=f2.one;simp only [pwA,seval,-iQ0,r3,g0,g1,g2,n1,n2,gU,g3,g4];refine zBv s hR (hS.inS (pmem k hlt')) f2 ?_;rw [en];have flI:=inb fl;have e1:f k+1≤(hitL f (nEl O) k).length:=by rw [zBS];exact fl
 have e2:List.take (f k) (hitL f (nEl O) k)++[PV.bool true]++List.drop (f k+1) (hitL f (nEl O) k)=hitL f (nEl O) (k+1):=by rw [←zOo];exact zBB e1
 simp only [pwA,seval,-iQ0,r3,g0,g1,g2,n1,n2,gU,g3,g4,flI,e1,e2,wk];exact⟨_,by omega,k+1,by omega,rfl,rfl,rfl⟩
end Go.Proofs
namespace Go.Grp
end Go.Grp
namespace Go.Proofs
open Go.Ab Go.Lie Go.Grp
variable {σ h:PHeap} {K:PV→PHeap→Prop} {O x y z a b:List Int} {P:List (List Int)} {C:List (List (List Int))} {u w out Z A T:List (List Int)} {k t sp i N:Nat} {vO vP vC vU vW vZ va:PV} {cs cs':List PV}
set_option maxHeartbeats 1600000 in
theorem zK9 (g:LG O P C) (hR:IsPr vO vP vC O P C) (hU:FII vU u) (hu:qJ O P C u) (hW:FII vW w) (hw:qJ O P C w)
  (hk:∀v L,FII v L→(L.length=0↔TrivM O P C u w)→K v σ):zA Tryz.prog 121 [.agg [vO,vP,vC],vU,vW] σ K:=by
 have s:=g.s;have F:=g.F;have hn6:=s.le;have g0:=hR.O.one;have g1:=hR.P.one;have g2:=hR.C.one;have gU:=hU.one;have gW:=hW.one;refine zA.gh ?_;refine zB mix Tryz.func121 ?_;simp only [pwA,seval,-iQ0,g0,g1,g2];generalize hH:σ.new [vO,vP,vC]=H1;have kH:Keep σ H1:=by rw [←hH];exact zC _ _
 have nH:H1.next=σ.next+1:=by rw [←hH];rfl
 have r3:H1.rd σ.next 0 3=some [vO,vP,vC]:=by rw [←hH];simp only [pwA,seval,-iQ0]
 have oH:H1.obj σ.next=some [vO,vP,vC]:=by rw [←hH,zH,if_pos rfl]
 clear hH;simp only [pwA,seval,-iQ0,r3,g0,g1,g2];refine zB6 g hR hU hu fun vZ Z fZ mZ lZ=>?_
 have fZ0:=fZ;obtain⟨wz,az,rz,rfl,hrz⟩:=fZ;simp only [pwA,seval,-iQ0];refine zD (fun m vs h=>∃(i:Nat) (vo:PV) (rows:List PV),i≤Z.length∧m=Z.length-i∧vs=[vW,.ptr σ.next 0,.fz wz az Z.length rz,vo,.int .i64 i]∧Keep H1 h∧PSl H1.next 1 h vo rows.length rows∧∃A,All2 FI rows A∧A.length≤i∧(∀x,x∈A↔x∈Z.take i∧GC O P C w x)) Z.length ?_ ?_
 ·exact⟨0,_,[],by omega,by omega,rfl,zC _ _,PSl.new _ _ rfl (Nat.le_refl _),[],All2.nil _,by simp,fun x=>by simp⟩
 rintro m vs h ⟨i,vo,rows,hi,rfl,rfl,kh,po,A,hA,lA,mA⟩
 have r4:h.rd σ.next 0 3=some [vO,vP,vC]:=by rw [ZB (by rw [kh.obj _ (by omega)];exact oH)];rfl
 have gA:∀x∈A,gS O x:=fun x hx=>(GC.sub F hu.1).inS ((mZ x).1 (List.mem_of_mem_take ((mA x).1 hx).1))
 have hAr:=hA.1
 by_cases hlt:i<Z.length
 rotate_left
 ·obtain rfl:i=Z.length:=by omega
  rw [List.take_length]at mA
  obtain⟨so,cap,rfl,hcap,q2,q3,q4,q5⟩:=po;simp only [pwA,seval,-iQ0,hlt,r4,g0,g1,g2];have n1:¬σ.next=so:=by omega
  have capo:=hcap.ok;refine zA.frz (s:=so) (cs:=rows) q2 (hA.bI 0) fun o=>?_
  have bO:Go.Ab.sb so o rows vO=vO:=zBE (Nat.zero_le _) (hR.O.bel 0);have bP:Go.Ab.sb so o rows vP=vP:=zBE (Nat.zero_le _) (hR.P.bel 0);have bC:Go.Ab.sb so o rows vC=vC:=zBE (Nat.zero_le _) (hR.C.bel 0);simp only [sbs,Go.Ab.sb,bO,bP,bC,capo,and_self,if_true,nm_eq];refine zBu (L:=A) g hR ⟨true,.sl o 0 rows.length cap,rows,by rw [hAr],hA⟩ ⟨by omega,fun y hy=>by have:=(gA y hy).len;omega⟩ gA fun v L f1 hL=>?_
  simp only [pwA,seval,-iQ0];refine Gh.fin0 ((kH.trans kh).kill (by omega)) (f1.bel _) (hk v L f1 ?_)
  refine(zIj F gA hL).trans ⟨fun h x h1 h2=>h x ((mA x).2 ⟨(mZ x).2 h1,h2⟩),fun h x hx=>?_⟩
  obtain⟨h1,h2⟩:=(mA x).1 hx;exact h x ((mZ x).1 h1) h2
 obtain⟨wx,ax,hrx⟩:=hrz.rowI hlt;have hlt':(i:Int)<(Z.length:Int):=by omega
 have mz:=List.getElem_mem hlt;have xS:=(GC.sub F hu.1).inS ((mZ _).1 mz);have tk:Z.take (i+1)=Z.take i++[Z[i]]:=List.take_succ_eq_append_getElem hlt;have wt:IntKind.i64.wrap ((i:Int)+1)=((i+1:Nat):Int):=wrapS hlt (by omega)
 simp only [pwA,seval,-iQ0,hlt,hlt',hrx,r4,g0,g1,g2,gW];refine zLA g hR hW hw xS ⟨wx,ax,rfl⟩ fun t ht=>?_
 cases t with
 | false=>
  have nt:¬GC O P C w Z[i]:=fun h=>by have:=ht.2 h;cases this
  simp only [pwA,seval,-iQ0,wt];refine⟨_,by omega,i+1,vo,rows,by omega,rfl,rfl,kh,po,A,hA,by omega,fun x=>(mA x).trans ⟨fun h=>⟨by rw [tk];exact List.mem_append_left _ h.1,h.2⟩,fun h=>⟨?_,h.2⟩⟩⟩
  rw [tk]at h
  rcases List.mem_append.1 h.1 with h1|h1
  ·exact h1
  ·exact absurd (List.mem_singleton.1 h1 ▸ h.2) nt
 | true=>
  have yt:GC O P C w Z[i]:=ht.1 rfl;simp only [pwA,seval,-iQ0,hlt,hlt',hrx];refine PAcc.push (σb:=H1) (bytes:=24) kh po.acc (by omega) (by omega) fun v' h2 k3 p3=>?_
  simp only [pwA,seval,-iQ0,wt];refine⟨_,by omega,i+1,v',rows++[.fz wx ax Z[i].length (pis Z[i])],by omega,rfl,rfl,k3,by rw [List.length_append];exact p3,A++[Z[i]],hA.snoc ⟨wx,ax,rfl⟩,by rw [List.length_append];simp;omega,fun x=>?_⟩
  rw [tk,List.mem_append,List.mem_append,List.mem_singleton];exact⟨fun h=>h.elim (fun h=>⟨.inl ((mA x).1 h).1,((mA x).1 h).2⟩) (fun h=>⟨.inr h,by rw [h];exact yt⟩),fun h=>h.1.elim (fun h1=>.inl ((mA x).2 ⟨h1,h.2⟩)) .inr⟩
theorem zEu (g:LG O P C) (hR:IsPr vO vP vC O P C) (hU:FII vU u) (hu:qJ O P C u) (hW:FII vW w) (hw:qJ O P C w)
  (hk:∀t:Bool,(t=true↔szU O u*szU O w=ordF O O.length∧TrivM O P C u w)→K (.bool t) σ):zA Tryz.prog 72 [.agg [vO,vP,vC],vU,vW] σ K:=by
 have fl:∀{A:Prop},¬A→((false=true)↔A):=fun h=>⟨fun x=>(by cases x),fun x=>absurd x h⟩
 have s:=g.s;have hn6:=s.le;have hul:=hu.len;have hwl:=hw.len;have g0:=hR.O.one;have g1:=hR.P.one;have g2:=hR.C.one;have gU:=hU.one;have gW:=hW.one;obtain⟨bu1,bu2⟩:=ZT s hu.2;obtain⟨bw1,bw2⟩:=ZT s hw.2;have pu:=Zp bu1 u.length (Nat.le_refl _);have pw':=Zp bw1 w.length (Nat.le_refl _);rw [List.take_length]at pu pw'
 have p7:=pow7b (show u.length≤6 by omega)
 have q7:=pow7b (show w.length≤6 by omega)
 have wm:IntKind.i64.wrap (szU O u*szU O w)=szU O u*szU O w:=by
  have h1:szU O u*szU O w≤117649*117649:=Int.mul_le_mul (by omega) (by omega) (by omega) (by omega)
  have h2:0≤szU O u*szU O w:=Int.mul_nonneg (by omega) (by omega)
  exact wrap64 (by omega) (by omega)
 refine zA.gh ?_;refine zB mix Tryz.func72 ?_;simp only [pwA,seval,-iQ0,g0,g1,g2,gU,gW];generalize hH:σ.new [vO,vP,vC]=H1;have kH:Keep σ H1:=by rw [←hH];exact zC _ _
 have r3:H1.rd σ.next 0 3=some [vO,vP,vC]:=by rw [←hH];simp only [pwA,seval,-iQ0]
 clear hH;simp only [pwA,seval,-iQ0,r3,g0,g1,g2,gU,gW];refine Qn s hR hU hu.2 (by omega) ?_
 simp only [pwA,seval,-iQ0,r3,g0,g1,g2,gU,gW];refine Qn s hR hW hw.2 (by omega) ?_
 simp only [pwA,seval,-iQ0,r3,g0,g1,g2,gU,gW,wm];refine QH s hR ?_
 by_cases e:szU O u*szU O w=ordF O O.length
 rotate_left
 ·simp only [pwA,seval,-iQ0,r3,g0,g1,g2,gU,gW,wm,e,decide_false]
  exact Gh.fin0 kH trivial (hk false (fl fun h=>e h.1))
 ·simp only [pwA,seval,-iQ0,r3,g0,g1,g2,gU,gW,wm,e,decide_true]
  refine zK9 g hR hU hu hW hw fun v L f1 hL=>?_
  obtain⟨w1,a1,r1,rfl,hr1⟩:=f1
  by_cases h0:L.length=0
  ·have z:((L.length:Nat):Int)=0:=by omega
   simp only [pwA,seval,-iQ0,r3,g0,g1,g2,gU,gW,z,decide_true];exact Gh.fin0 kH trivial (hk true ⟨fun _=>⟨e,hL.1 h0⟩,fun _=>rfl⟩)
  ·have z:¬((L.length:Nat):Int)=0:=by omega
   simp only [pwA,seval,-iQ0,r3,g0,g1,g2,gU,gW,h0,z,decide_false];exact Gh.fin0 kH trivial (hk false (fl fun h=>h0 (hL.2 h.2)))
end Go.Proofs
namespace Go.Grp
end Go.Grp
namespace Go.Proofs
open Go.Ab Go.Lie Go.Grp
variable {σ:PHeap} {K:PV→PHeap→Prop} {O:List Int} {P:List (List Int)} {C:List (List (List Int))} {vO vP vC vU vx:PV} {u:List (List Int)} {x:List Int} {sp n q:Nat}
theorem zMq (hn:O.length≤6) (hk:∀v,FII v (Z7 O)→K v σ):zA Tryz.prog 165 [.int .i64 O.length] σ K:=by
 have hl:(Z7 O).length=O.length:=by simp [Z7]
 refine zA.pwf fun w0=>zA.gh ?_
 refine zB mix Tryz.func165 ?_;simp only [pwA,seval,-iQ0];refine Qt (fun m vs h'=>∃(i:Nat) (vC:PV) (rows:List PV),i≤O.length∧m=O.length-i∧vs=[.int .i64 O.length,vC,.int .i64 i]∧Keep σ h'∧PSl σ.next 1 h' vC i rows∧All2 FI rows ((List.range i).map (Grp.unit O))) O.length ?_ ?_
 ·exact .here ⟨0,_,[],by omega,by omega,rfl,zC σ _,PSl.new _ 1 rfl (Nat.le_refl _),All2.nil _⟩
 rintro m vs h' ⟨i,vC,rows,hi,rfl,rfl,hkp,ha,hall⟩
 simp only [pwA,seval,-iQ0];refine iteI (fun hlt=>?_) fun hge=>?_
 rotate_left
 ·have hie:i=O.length:=by omega
  subst hie;exact ha.fin hkp (hall.bI 0) fun o cap=>hk _ ⟨true,_,rows,by rw [hl],hall⟩
 have hlt':i<O.length:=by omega
 have hset:(pis (List.replicate O.length 0)).take i++[PV.int .i64 1]++(pis (List.replicate O.length 0)).drop (i+1)=pis (Grp.unit O i):=qm (by simpa using hlt')
 have hul:(Grp.unit O i).length=O.length:=by simp
 simp only [pwA,seval,-iQ0,hlt',List.length_replicate,ZJ,qK,hset,mk8 (n:=O.length) (by omega),mkL (n:=O.length) (by omega),Nat.succ_le_of_lt hlt']
 refine PAcc.pushS (σb:=σ) (bytes:=24) (hkp.new _) (ha.acc.keep (zC _ _)) rfl (by omega) (by omega) fun v' h2 k2 a2 o2 n2 l2=>?_
 have hnx:(h'.new (pis (Grp.unit O i))).next=h'.next+1:=rfl;rw [hnx]at o2 n2 l2
 have hrow2:h2.obj h'.next=some (pis (Grp.unit O i)):=by rw [o2 _ (by omega) (ha.acc.ne (Nat.le_refl _)),zH,if_pos rfl]
 simp only [pwA,seval,-iQ0,wrapS hlt' (by omega:O.length≤4611686018427387904)]
 refine⟨O.length-(i+1),by omega,.fzh h'.next (pis (Grp.unit O i)) hrow2 (zo _ _) fun o1=>?_⟩
 obtain⟨f1,f2,f3⟩:=PSl.fzr w0 k2 a2 (s:=h'.next) (cs:=pis (Grp.unit O i)) (by have:=hkp.next;omega) (n2 _ (by omega)) o1
 refine .here ⟨i+1,v',rows++[.fz true (.sl o1 0 O.length (.known O.length)) O.length (pis (Grp.unit O i))],by omega,rfl,?_,f1,?_,?_⟩
 ·simp only [sbs,Go.Ab.sb,f3]
 ·have hcap:capOK (.known O.length) O.length=true:=by simp [capOK]
  rwa [zPs (hall.bI 0) hcap]at f2
 ·rw [zEA]
  exact hall.snoc ⟨true,_,by rw [hul]⟩
theorem zJb (hR:IsPr vO vP vC O P C) (hn:O.length≤6) (hk:∀v,FII v (Z7 O)→K v σ):zA Tryz.prog 120 [.agg [vO,vP,vC]] σ K:=by
 have h0:=hR.O.one;have h1:=hR.P.one;have h2:=hR.C.one;obtain⟨⟨w0,a0,rfl⟩,hRP,hRC⟩:=hR;refine zA.gh ?_;refine zB mix Tryz.func120 ?_;simp only [pwA,seval,-iQ0,h1,h2];refine zMq hn fun v hv=>?_
 simp only [pwA,seval,-iQ0];exact Gh.fin0 (zC σ _) (hv.bel _) (hk v hv)
end Go.Proofs
namespace Go.Grp
end Go.Grp
namespace Go.Proofs
open Go.Ab Go.Lie Go.Grp
variable {σ h:PHeap} {K:PV→PHeap→Prop} {O x y z a b:List Int} {P:List (List Int)} {C:List (List (List Int))} {u w out Z A T L:List (List Int)} {k t sp i N:Nat} {vO vP vC vU vW vZ va vx vy:PV} {cs cs':List PV}
theorem zNW (h:u.Pairwise fun a b=>dep a<dep b):(u.map dep).Nodup:=by
 rw [List.Nodup,List.pairwise_map];exact h.imp fun h=>by omega
theorem zCX:∀{a b:List Nat},a.Nodup→(∀x∈a,x∈b)→a.length≤b.length
 | [],_,_,_=>Nat.zero_le _
 | x::a,b,h,s=>by
  rw [List.nodup_cons]at h
  have hx:=s x (List.mem_cons_self ..)
  have:=zCX (b:=b.erase x) h.2 fun y hy=>(List.mem_erase_of_ne (fun e=>h.1 (by rw [←e];exact hy))).2 (s y (List.mem_cons_of_mem _ hy))
  rw [List.length_erase_of_mem hx]at this
  have:=List.length_pos_of_mem hx
  simp only [List.length_cons];omega
theorem zMg:∀{a b:List Nat},a.Nodup→(∀x∈a,x∈b)→a.length=b.length→∀x∈b,x∈a:=by
 intro a b h s e x hx;rcases Classical.em (x∈a)with h1|h1
 ·exact h1
 ·have:=zCX (a:=x::a) (b:=b) (List.nodup_cons.2 ⟨h1,h⟩) (fun y hy=>by
   rcases List.mem_cons.1 hy with rfl|hy
   ·exact hx
   ·exact s y hy)
  simp only [List.length_cons]at this;omega
theorem zPo (g:LG O P C) (hu:qJ O P C u) (hL:∀x∈L,gS O x) (hw:CanG O (GC O P C L) w) (hs:∀x∈u,x∈L):u.length≤w.length∧(u.length=w.length→∀x,GC O P C L x→GC O P C u x):=by
 have F:=g.F;have hSL:=GC.sub F hL;have hSu:=GC.sub F hu.1;have sub:∀d∈u.map dep,d∈w.map dep:=fun d hd=>by
  obtain⟨v,hv,rfl⟩:=List.mem_map.1 hd;obtain⟨v',h1,h2⟩:=hw.all v (GC.mem (hs v hv)) (hu.2.one v hv).2.1;exact List.mem_map.2 ⟨v',h1,h2⟩
 have nd:=zNW hu.2.asc;refine⟨by have:=zCX nd sub;simpa using this,fun e=>?_⟩
 have back:=zMg nd sub (by simpa using e)
 have key:∀n x,O.length-dep x≤n→GC O P C L x→GC O P C u x:=by
  intro n
  induction n with
  | zero=>
   intro x hx h;rw [Zz (hSL.inS h) (by omega)];exact hSu.one
  | succ n ih=>
   intro x hx h;have xS:=hSL.inS h;rcases Nat.lt_or_ge (dep x) O.length with hd|hd
   ·obtain⟨v',h1,h2⟩:=hw.all x h hd
    obtain⟨v,hv,ev⟩:=List.mem_map.1 (back (dep x) (List.mem_map.2 ⟨v',h1,h2⟩));obtain⟨v1,v2,v3⟩:=hu.2.one v hv;have vT:=Ze v1;rw [ev]at vT v3
    obtain⟨z,zS,zT,e1,e2⟩:=zCH g hd (Ze xS) vT v3;have hz:GC O P C L z:=by
     rw [e2];exact hSL.cl (hSL.inv (hSL.pw (GC.mem (hs v hv)) _)) h
    have:=Grp.dep_ge zT hd
    rw [e1];exact hSu.cl (hSu.pw (GC.mem hv) _) (ih z (by omega) hz)
   ·rw [Zz xS hd];exact hSu.one
 exact fun x h=>key _ x (Nat.le_refl _) h
theorem zLC (g:LG O P C) (hR:IsPr vO vP vC O P C) (hx:gS O x) (hy:gS O y) (hvx:FI vx x) (hvy:FI vy y) (hk:∀v,FI v (gcnj O P C x y)→K v σ):zA Tryz.prog 164 [.agg [vO,vP,vC],vx,vy] σ K:=by
 have s:=g.s;have F:=g.F;have G:=F.g;have g0:=hR.O.one;have g1:=hR.P.one;have g2:=hR.C.one;have gx:=hvx.one;have gy:=hvy.one;refine zA.gh ?_;refine zB mix Tryz.func164 ?_;simp only [pwA,seval,-iQ0,g0,g1,g2,gx,gy];generalize hH:σ.new [vO,vP,vC]=H1;have kH:Keep σ H1:=by rw [←hH];exact zC _ _
 have r3:H1.rd σ.next 0 3=some [vO,vP,vC]:=by rw [←hH];simp only [pwA,seval,-iQ0]
 clear hH;simp only [pwA,seval,-iQ0,r3,g0,g1,g2,gx,gy];refine zDL s g.co hR hy hvy fun v1 f1=>?_
 have o1:=f1.one;simp only [pwA,seval,-iQ0,r3,g0,g1,g2,gx,gy,o1];refine Zn s hR hx hy hvx hvy fun v2 f2=>?_
 have o2:=f2.one;simp only [pwA,seval,-iQ0,r3,g0,g1,g2,gx,gy,o1,o2];have iy:=(G.inv_in hy).1;refine Zn s hR iy (G.cl hx hy) f1 f2 fun v3 f3=>?_
 have o3:=f3.one;simp only [pwA,seval,-iQ0,r3,g0,g1,g2,gx,gy,o1,o2,o3];refine Gh.fin0 kH (f3.bel _) (hk _ ?_);have e:gm O P C (ginv (gS O) (gm O P C) (zv O) y) (gm O P C x y)=gcnj O P C x y:=G.cnj_eq hx hy (G.cl iy (G.cl hx hy)) (by rw [←G.as hy iy (G.cl hx hy),G.inv_r hy,G.l1 (G.cl hx hy)])
 rw [e]at f3
 exact f3
end Go.Proofs
namespace Go.Grp
end Go.Grp
namespace Go.Proofs
open Go.Ab Go.Lie Go.Grp
variable {σ h:PHeap} {K:PV→PHeap→Prop} {O x y z a b:List Int} {P:List (List Int)} {C:List (List (List Int))} {u w out Z A T L B:List (List Int)} {k t sp i N:Nat} {vO vP vC vU vW vZ va vx vy vB:PV} {cs cs':List PV}
theorem zNR (g:LG O P C) {H:List Int→Prop} (hH:gB O P C H) (hw:CanG O H w):∀x,H x→GC O P C w x:=by
 have F:=g.F;have hSw:=GC.sub F (L:=w) fun x hx=>(hw.one x hx).1
 have key:∀n x,O.length-dep x≤n→H x→GC O P C w x:=by
  intro n
  induction n with
  | zero=>
   intro x hx h;rw [Zz (hH.inS h) (by omega)];exact hSw.one
  | succ n ih=>
   intro x hx h;have xS:=hH.inS h;rcases Nat.lt_or_ge (dep x) O.length with hd|hd
   ·obtain⟨v,hv,ev⟩:=hw.all x h hd
    obtain⟨v1,v2,v3⟩:=hw.one v hv;have vT:=Ze v1;rw [ev]at vT v3
    obtain⟨z,zS,zT,e1,e2⟩:=zCH g hd (Ze xS) vT v3;have hz:H z:=by
     rw [e2];exact hH.cl (hH.inv (hH.pw (hw.mem v hv) _)) h
    have:=Grp.dep_ge zT hd
    rw [e1];exact hSw.cl (hSw.pw (GC.mem hv) _) (ih z (by omega) hz)
   ·rw [Zz xS hd];exact hSw.one
 exact fun x h=>key _ x (Nat.le_refl _) h
set_option maxHeartbeats 1600000 in
theorem zG8 (g:LG O P C) (hR:IsPr vO vP vC O P C) (hU:FII vU u) (hu:qJ O P C u) (hB:FII vB B) (hBS:∀y∈B,gS O y) (hBl:B.length≤6)
  (hk:∀v L,FII v L→(L.length=u.length↔∀y∈B,∀x∈u,GC O P C u (gcnj O P C x y))→K v σ):zA Tryz.prog 119 [.agg [vO,vP,vC],vU,vB] σ K:=by
 have s:=g.s;have F:=g.F;have hn6:=s.le;have g0:=hR.O.one;have g1:=hR.P.one;have g2:=hR.C.one;have gU:=hU.one;have gB:=hB.one;obtain⟨wb,ab,rb,rfl,hrb⟩:=hB;refine zA.gh ?_;refine zB mix Tryz.func119 ?_;simp only [pwA,seval,-iQ0,g0,g1,g2];generalize hH:σ.new [vO,vP,vC]=H1;have kH:Keep σ H1:=by rw [←hH];exact zC _ _
 have nH:H1.next=σ.next+1:=by rw [←hH];rfl
 have oH:H1.obj σ.next=some [vO,vP,vC]:=by rw [←hH,zH,if_pos rfl]
 clear hH;refine zD (fun m vs h=>∃(vo:PV) (out:List (List Int)),m=O.length-out.length∧vs=[.fz wb ab B.length rb,.ptr σ.next 0,vo]∧Keep H1 h∧FII vo out∧qJ O P C out∧(out=u∨(¬(∀y∈B,∀x∈u,GC O P C u (gcnj O P C x y))∧u.length<out.length))) (O.length-u.length) ?_ ?_
 ·exact⟨vU,u,rfl,rfl,Keep.refl _,hU,hu,.inl rfl⟩
 rintro m vs h0 ⟨vo,out,rfl,rfl,k0,fo,so,hor⟩
 have hol:=so.len;have szo:SzL out:=⟨by omega,fun y hy=>by have:=(so.1 y hy).len;omega⟩
 have fo0:=fo;obtain⟨wo,ao,ro,rfl,hro⟩:=fo;simp only [pwA,seval,-iQ0];refine zGj fo0 szo fun v1 h1 rows k1 p1 r1=>?_
 simp only [pwA,seval,-iQ0];refine zD (fun m vs h2=>∃(i:Nat) (vl:PV) (rows:List PV) (A:List (List Int)),i≤B.length∧m=B.length-i∧vs=[.fz wb ab B.length rb,.ptr σ.next 0,.fz wo ao out.length ro,vl,.int .i64 i]∧Keep h0 h2∧PSl h0.next 1 h2 vl rows.length rows∧All2 FI rows (out++A)∧A.length≤6*i∧(∀x∈A,∃y∈B,∃z∈out,x=gcnj O P C z y)∧(∀y∈B.take i,∀z∈out,gcnj O P C z y∈A)) B.length ?_ ?_
 ·refine⟨0,v1,rows,[],by omega,by omega,rfl,k1,by rw [r1.1];exact p1,by rw [List.append_nil];exact r1,by simp,fun x hx=>(by cases hx),fun y hy=>(by simp at hy)⟩
 clear p1 r1 k1
 rintro m vs h2 ⟨i,vl,rows,A,hi,rfl,rfl,k2,p2,r2,lA,a1,a2⟩
 have ars:∀x∈A,gS O x:=fun x hx=>by
  obtain⟨y,hy,z,hz,rfl⟩:=a1 x hx;exact F.g.cnj_in (so.1 z hz) (hBS y hy)
 by_cases hlt:i<B.length
 rotate_left
 ·obtain rfl:i=B.length:=by omega
  rw [List.take_length]at a2
  have gL:∀x∈out++A,gS O x:=fun x hx=>(List.mem_append.1 hx).elim (so.1 x) (ars x)
  have hrl:=r2.1;rw [List.length_append]at hrl
  obtain⟨sl,cap,rfl,hcap,q2,q3,q4,q5⟩:=p2;have k0n:=k0.next;have k2n:=k2.next;have r4:h2.rd σ.next 0 3=some [vO,vP,vC]:=by rw [ZB (by rw [k2.obj _ (by omega),k0.obj _ (by omega)];exact oH)];rfl
  simp only [pwA,seval,-iQ0,hlt,r4,g0,g1,g2];have capo:=hcap.ok;refine zA.frz (s:=sl) (cs:=rows) q2 (r2.bI 0) fun o=>?_
  have bO:Go.Ab.sb sl o rows vO=vO:=zBE (Nat.zero_le _) (hR.O.bel 0);have bP:Go.Ab.sb sl o rows vP=vP:=zBE (Nat.zero_le _) (hR.P.bel 0);have bC:Go.Ab.sb sl o rows vC=vC:=zBE (Nat.zero_le _) (hR.C.bel 0);simp only [sbs,Go.Ab.sb,bO,bP,bC,capo,and_self,if_true,nm_eq];refine zBu (L:=out++A) g hR ⟨true,.sl o 0 rows.length cap,rows,by rw [List.length_append,hrl],r2⟩ ⟨by rw [List.length_append];omega,fun y hy=>by have:=(gL y hy).len;omega⟩ gL fun v L f1 hL=>?_
  have kk:Keep h0 (h2.kill sl):=k2.kill q4;have sL:qJ O P C L:=⟨fun x hx=>(hL.one x hx).1,hL.congr fun x=>⟨zNR g (GC.sub F gL) hL x,fun h=>h _ (GC.sub F gL) hL.mem⟩⟩
  obtain⟨l1,l2⟩:=zPo g so gL hL fun x hx=>List.mem_append_left _ hx
  have f10:=f1;obtain⟨wl,al,rl,rfl,hrl2⟩:=f1
  by_cases hlen:L.length=out.length
  ·simp only [pwA,seval,-iQ0,hlen]
   have f11:FII (.fz wl al out.length rl) L:=by rw [←hlen];exact f10
   refine Gh.fin0 ((kH.trans k0).trans kk) (f11.bel _) (hk _ L f11 ?_);have all:=l2 hlen.symm;rcases hor with rfl|⟨hn,hlo⟩
   ·exact⟨fun _ y hy x hx=>all _ (GC.mem (List.mem_append_right _ (a2 y hy x hx))),fun _=>hlen⟩
   ·exact⟨fun h=>by omega,fun h=>absurd h hn⟩
  ·have hI:¬((L.length:Nat):Int)=(out.length:Int):=by omega
   simp only [pwA,seval,-iQ0,hlen,hI];have sl2:=sL.len;refine⟨_,?_,_,L,rfl,rfl,k0.trans kk,f10,sL,.inr ?_⟩
   ·omega
   ·rcases hor with rfl | ⟨hn,hlo⟩
    ·refine⟨fun h=>hlen ?_,by omega⟩
     have e:∀x,GC O P C (out++A) x↔GC O P C out x:=fun x=>⟨fun hx=>hx _ (GC.sub F so.1) fun l hl=>(List.mem_append.1 hl).elim GC.mem fun h1=>by
      obtain⟨y,hy,z,hz,rfl⟩:=a1 l h1;exact h y hy z hz,fun hx=>hx _ (GC.sub F gL) fun l hl=>GC.mem (List.mem_append_left _ hl)⟩
     rw [(hL.congr e).unique s F (GC.sub F so.1) so.2]
    ·exact⟨hn,by omega⟩
 obtain⟨wy,ay,hry⟩:=hrb.rowI hlt;have hlt':(i:Int)<(B.length:Int):=by omega
 have my:=List.getElem_mem hlt;have yS:=hBS _ my;have tk:B.take (i+1)=B.take i++[B[i]]:=List.take_succ_eq_append_getElem hlt;have wi:IntKind.i64.wrap ((i:Int)+1)=((i+1:Nat):Int):=wrapS hlt (by omega)
 simp only [pwA,seval,-iQ0,hlt];refine zD (fun m vs h3=>∃(j:Nat) (vl:PV) (rows:List PV) (A':List (List Int)),j≤out.length∧m=out.length-j∧vs=[.fz wb ab B.length rb,.ptr σ.next 0,.fz wo ao out.length ro,vl,.int .i64 i,.int .i64 j]∧Keep h0 h3∧PSl h0.next 1 h3 vl rows.length rows∧All2 FI rows (out++A')∧A'.length≤6*i+j∧(∀x∈A',∃y∈B,∃z∈out,x=gcnj O P C z y)∧(∀y∈B.take i,∀z∈out,gcnj O P C z y∈A')∧(∀z∈out.take j,gcnj O P C z B[i]∈A')) out.length ?_ ?_
 ·exact⟨0,vl,rows,A,by omega,by omega,rfl,k2,p2,r2,by omega,a1,a2,fun z hz=>(by simp at hz)⟩
 clear p2 r2 k2 lA a1 a2 ars A rows vl
 rintro m vs h3 ⟨j,vl,rows,A,hj,rfl,rfl,k3,p3,r3,lA,a1,a2,a3⟩
 have hrl:=r3.1;rw [List.length_append]at hrl
 by_cases hjl:j<out.length
 rotate_left
 ·obtain rfl:j=out.length:=by omega
  rw [List.take_length]at a3
  simp only [pwA,seval,-iQ0,hjl,wi];refine⟨_,by omega,i+1,vl,rows,A,by omega,rfl,rfl,k3,p3,r3,by omega,a1,fun y hy z hz=>?_⟩
  rw [tk]at hy
  rcases List.mem_append.1 hy with h|h
  ·exact a2 y h z hz
  ·rw [List.mem_singleton.1 h];exact a3 z hz
 obtain⟨wz,az,hrz⟩:=hro.rowI hjl;have hjl':(j:Int)<(out.length:Int):=by omega
 have mz:=List.getElem_mem hjl;have zS:=so.1 _ mz;have k0n:=k0.next;have r4:h3.rd σ.next 0 3=some [vO,vP,vC]:=by rw [ZB (by rw [k3.obj _ (by omega),k0.obj _ (by omega)];exact oH)];rfl
 have wj:IntKind.i64.wrap ((j:Int)+1)=((j+1:Nat):Int):=wrapS hjl (by omega)
 simp only [pwA,seval,-iQ0,hjl,hjl',hlt,hlt',hrz,hry,r4,g0,g1,g2];refine zLC g hR zS yS ⟨wz,az,rfl⟩ ⟨wy,ay,rfl⟩ fun v4 f4=>?_
 have f40:=f4;obtain⟨w4,a4,rfl⟩:=f4;simp only [pwA,seval,-iQ0,hjl,hjl',hlt,hlt',hrz,hry,r4,g0,g1,g2];refine PAcc.push (σb:=h0) (bytes:=24) k3 p3.acc (by omega) (by omega) fun v' h5 k5 p5=>?_
 simp only [pwA,seval,-iQ0,wj];refine⟨_,by omega,j+1,v',rows++[.fz w4 a4 (gcnj O P C out[j] B[i]).length (pis (gcnj O P C out[j] B[i]))],A++[gcnj O P C out[j] B[i]],by omega,rfl,rfl,k5,by rw [List.length_append];exact p5,by rw [←List.append_assoc];exact r3.snoc f40,by rw [List.length_append];simp;omega,fun x hx=>?_,fun y hy z hz=>List.mem_append_left _ (a2 y hy z hz),fun z hz=>?_⟩
 ·rcases List.mem_append.1 hx with h | h
  ·exact a1 x h
  ·exact⟨_,my,_,mz,List.mem_singleton.1 h⟩
 ·rw [List.take_succ_eq_append_getElem hjl]at hz
  rcases List.mem_append.1 hz with h|h
  ·exact List.mem_append_left _ (a3 z h)
  ·rw [List.mem_singleton.1 h];exact List.mem_append_right _ (List.mem_singleton.2 rfl)
end Go.Proofs
namespace Go.Grp
end Go.Grp
namespace Go.Proofs
open Go.Ab Go.Lie Go.Grp
variable {σ h:PHeap} {K:PV→PHeap→Prop} {O x y z a b:List Int} {P:List (List Int)} {C:List (List (List Int))} {u w out Z A T L B:List (List Int)} {k t sp i N:Nat} {vO vP vC vU vW vZ va vx vy vB:PV} {cs cs':List PV}
theorem zIJ (g:LG O P C) (hR:IsPr vO vP vC O P C) (hU:FII vU u) (hu:qJ O P C u) (hk:∀t:Bool,(t=true↔NorG O P C u)→K (.bool t) σ):zA Tryz.prog 71 [.agg [vO,vP,vC],vU] σ K:=by
 have s:=g.s;have hn6:=s.le;have g0:=hR.O.one;have g1:=hR.P.one;have g2:=hR.C.one;have hU0:=hU;have hgl:(Z7 O).length=O.length:=by simp [Z7]
 obtain⟨wu,au,ru,rfl,hru⟩:=hU;refine zA.gh ?_;refine zB mix Tryz.func71 ?_;simp only [pwA,seval,-iQ0,g0,g1,g2];generalize hH:σ.new [vO,vP,vC]=H1;have kH:Keep σ H1:=by rw [←hH];exact zC _ _
 have r3:H1.rd σ.next 0 3=some [vO,vP,vC]:=by rw [←hH];simp only [pwA,seval,-iQ0]
 clear hH;simp only [pwA,seval,-iQ0,r3,g0,g1,g2];refine zJb hR (by omega) fun vB fB=>?_
 have oB:=fB.one;simp only [pwA,seval,-iQ0,r3,g0,g1,g2,oB];refine zG8 g hR hU0 hu fB (zGZ s) (by omega) fun v L f1 hL=>?_
 obtain⟨wl,al,rl,rfl,hrl⟩:=f1;simp only [pwA,seval,-iQ0,r3,g0,g1,g2,oB];refine Gh.fin0 kH trivial (hk _ ?_);rw [decide_eq_true_iff];exact Iff.trans ⟨fun h=>by omega,fun h=>by omega⟩ hL
end Go.Proofs
namespace Go.Grp
end Go.Grp
namespace Go.Proofs
open Go.Ab Go.Lie Go.Grp Go.Lat
variable {O x y z a b v v':List Int} {P:List (List Int)} {C:List (List (List Int))} {u w:List (List Int)} {k t m e d:Nat} {H:List Int→Prop}
abbrev el (O:List Int) (t:Nat):List Int:=dgs O O.length t
abbrev nu (O:List Int) (x:List Int):Nat:=(numF O x O.length).toNat
def tbM (O:List Int) (P:List (List Int)) (C:List (List (List Int))) (a b:Nat):Nat:=nu O (gm O P C (el O a) (el O b))
theorem nu_el (s:Shp O P C) (ht:t<nEl O):nu O (el O t)=t:=by unfold nu el;rw [zFZ s ht];rfl
theorem el_nu (s:Shp O P C) (hx:gS O x):el O (nu O x)=x:=zIe s hx
theorem nu_lt (s:Shp O P C) (hx:gS O x):nu O x<nEl O:=(zFY s hx).1
theorem nu_zv (O:List Int):nu O (zv O)=0:=by unfold nu;rw [zJ9];rfl
theorem zDx (s:Shp O P C):el O 0=zv O:=by rw [←nu_zv O];exact el_nu s (s.zv _)
theorem zRJ (g:LG O P C) (hx:gS O x) (hy:gS O y):tbM O P C (nu O x) (nu O y)=nu O (gm O P C x y):=by
 unfold tbM;rw [el_nu g.s hx,el_nu g.s hy]
theorem tb (g:LG O P C):Tb (nEl O) (tbM O P C):=by
 have s:=g.s;have G:=g.F.g;have hS:=Qa (O:=O) s;refine⟨(QM s).2,fun ha hb=>nu_lt s (G.cl (hS _) (hS _)),fun ha hb hc=>?_,fun ha=>?_,fun ha=>?_⟩
 ·show nu O (gm O P C (el O (nu O _)) _)=nu O (gm O P C _ (el O (nu O _)))
  rw [el_nu s (G.cl (hS _) (hS _)),el_nu s (G.cl (hS _) (hS _)),G.as (hS _) (hS _) (hS _)]
 ·show nu O (gm O P C (el O 0) _)=_
  rw [zDx s,G.l1 (hS _)];exact nu_el s ha
 ·show nu O (gm O P C _ (el O 0))=_
  rw [zDx s,G.r1 (hS _)];exact nu_el s ha
theorem pw_pw (g:LG O P C) (hx:gS O x) (j:Nat):∀k,pw (gm O P C) (zv O) (pw (gm O P C) (zv O) x j) k=pw (gm O P C) (zv O) x (j*k)
 | 0=>rfl
 | k+1=>by
  have M:=g.F.g.toMon;show gm O P C (pw (gm O P C) (zv O) (pw (gm O P C) (zv O) x j) k) _=_;rw [pw_pw g hx j k,Nat.mul_succ,M.pw_add hx]
theorem per (g:LG O P C):∀(n:Nat) {x:List Int},gS O x→O.length-dep x≤n→∃k,0<k∧pw (gm O P C) (zv O) x k=zv O:=by
 have s:=g.s;have M:=g.F.g.toMon;intro n
 induction n with
 | zero=>
  intro x hx h;refine⟨1,by omega,?_⟩
  rw [Zz hx (by omega)]
  exact M.l1 M.one
 | succ n ih=>
  intro x hx h;rcases Nat.lt_or_ge (dep x) O.length with hd|hd
  ·obtain⟨p1,p2⟩:=Z9 s g.F g.cent hd (Ze hx) (at_ O (dep x)).toNat
   have hO:=s.pr _ hd;rw [Int.toNat_of_nonneg (by omega),Int.mul_emod_right]at p2
   have pS:=M.pw hx (at_ O (dep x)).toNat;have hT:TT O (dep x+1) (pw (gm O P C) (zv O) x (at_ O (dep x)).toNat):=⟨p1.len,p1.bd,fun j hj=>by
    rcases Nat.lt_or_ge j (dep x)with q|q
    ·exact p1.zero j q
    ·rw [show j=dep x by omega];exact p2⟩
   obtain⟨k,hk,hp⟩:=ih pS (by have:=Grp.dep_ge hT (by omega);omega)
   refine⟨(at_ O (dep x)).toNat*k,Nat.mul_pos (by omega) hk,?_⟩
   rw [←pw_pw g hx];exact hp
  ·refine⟨1,by omega,?_⟩
   rw [Zz hx hd];exact M.l1 M.one
def HM (O:List Int) (m:Nat) (x:List Int):Prop:=gS O x∧m.testBit (nu O x)=true
theorem HM.gB (g:LG O P C) (h:SubM (nEl O) (tbM O P C) m):gB O P C (HM O m):=by
 have s:=g.s;have G:=g.F.g;have cl:∀{x y},HM O m x→HM O m y→HM O m (gm O P C x y):=fun {x y} hx hy=>
  ⟨G.cl hx.1 hy.1,by rw [←zRJ g hx.1 hy.1];exact h.mul _ _ hx.2 hy.2⟩
 have one:HM O m (zv O):=⟨s.zv _,by rw [nu_zv];exact h.zero⟩
 refine⟨fun h=>h.1,one,cl,fun {x} hx=>?_⟩
 obtain⟨k,hk,hp⟩:=per g _ hx.1 (Nat.le_refl _);obtain⟨k,rfl⟩:∃j,k=j+1:=⟨k-1,by omega⟩
 have hpw:∀j,HM O m (pw (gm O P C) (zv O) x j):=fun j=>by
  induction j with
  | zero=>exact one
  | succ j ih=>exact cl ih hx
 have e:gm O P C x (pw (gm O P C) (zv O) x k)=zv O:=by rw [←G.toMon.pw_comm hx.1 k];exact hp
 rw [←G.inv_eq hx.1 (hpw k).1 e];exact hpw k
theorem HM.inj (s:Shp O P C) {m':Nat} (h:m<2 ^ nEl O) (h':m'<2 ^ nEl O) (e:∀x,HM O m x↔HM O m' x):m=m':=by
 refine zE7 fun i=>?_
 rcases Nat.lt_or_ge i (nEl O)with hi|hi
 ·have:=e (el O i)
  unfold HM at this
  rw [nu_el s hi]at this
  have hg:=Qa (O:=O) s i;exact⟨fun q=>(this.1 ⟨hg,q⟩).2,fun q=>(this.2 ⟨hg,q⟩).2⟩
 ·exact⟨fun q=>absurd (Zt h q) (by omega),fun q=>absurd (Zt h' q) (by omega)⟩
def Dp (O:List Int) (H:List Int→Prop) (d:Nat):Prop:=d<O.length∧∃x,H x∧dep x=d
def Fit (O:List Int) (H:List Int→Prop) (d:Nat) (x:List Int):Prop:=H x∧dep x=d∧at_ x d=1∧∀e,d<e→Dp O H e→at_ x e=0
theorem zQb {p c:Int} (hp:isP p) (h0:0<c) (h1:c<p):∃k:Nat,((k:Int)*c) % p=1:=by
 have key:∀p∈[2,3,5,7],∀c<p,0<c→∃k<7,(k*c) % p=1:=by decide
 obtain⟨p,rfl⟩:∃q:Nat,p=q:=⟨p.toNat,by have:=hp.bd;omega⟩
 obtain⟨c,rfl⟩:∃q:Nat,c=q:=⟨c.toNat,by omega⟩
 obtain⟨k,_,hk⟩:=key p (by unfold isP at hp;simp only [List.mem_cons,List.not_mem_nil,or_false];omega) c (by omega) (by omega)
 exact⟨k,by exact_mod_cast hk⟩
theorem clr (g:LG O P C) {e:Nat} (he:e<O.length) (hx:gS O x) (hy:gS O y) (hd:dep y=e) (h1:at_ y e=1):
  ∃k:Nat,(∀j,j<e→at_ (gm O P C x (pw (gm O P C) (zv O) y k)) j=at_ x j)∧at_ (gm O P C x (pw (gm O P C) (zv O) y k)) e=0:=by
 have s:=g.s;subst hd;have bx:=hx.bd _ he;refine⟨(at_ O (dep y)-at_ x (dep y)).toNat,?_⟩;obtain⟨p1,p2⟩:=Z9 s g.F g.cent he (Ze hy) (at_ O (dep y)-at_ x (dep y)).toNat;rw [h1,Int.mul_one,Int.toNat_of_nonneg (by omega)]at p2
 obtain⟨q1,q2⟩:=ZR s (d:=O.length) (b:=x) (a:=pw (gm O P C) (zv O) y (at_ O (dep y)-at_ x (dep y)).toNat) (t:=dep y) (Nat.le_refl _) (by omega) he (by rw [Nat.sub_self];exact hx) p1
 refine⟨q1,?_⟩;have e2:at_ (gm O P C x (pw (gm O P C) (zv O) y (at_ O (dep y)-at_ x (dep y)).toNat)) (dep y)=_:=q2;rw [e2,p2,zBX bx ⟨Int.emod_nonneg _ (by omega),Int.emod_lt_of_pos _ (by omega)⟩,Int.add_emod_emod]
 rw [show at_ x (dep y)+(at_ O (dep y)-at_ x (dep y))=at_ O (dep y) by omega,Int.emod_self]
theorem Fit.ex1 (g:LG O P C) (hH:gB O P C H) (hd:Dp O H d):∃x,H x∧dep x=d∧at_ x d=1:=by
 obtain⟨hl,x,hx,rfl⟩:=hd;have s:=g.s;have xS:=hH.inS hx;have bx:=xS.bd _ hl;have hne:at_ x (dep x)≠0:=Z4 (by rw [xS.len];exact hl)
 have hp:isP (at_ O (dep x)):=by rw [at_eq hl];exact g.pr.isp _ (List.getElem_mem hl)
 obtain⟨k,hk⟩:=zQb (c:=at_ x (dep x)) hp (by omega) bx.2
 obtain⟨p1,p2⟩:=Z9 s g.F g.cent hl (Ze xS) k;rw [hk]at p2
 have pS:=g.F.g.toMon.pw xS k;refine⟨_,hH.pw hx k,?_,p2⟩;have h1:=Grp.dep_ge p1 (by omega)
 rcases Nat.lt_or_ge (dep x) (dep (pw (gm O P C) (zv O) x k))with q|q
 ·rw [qw q]at p2;cases p2
 ·omega
theorem zRu {x:List Int} {d:Nat} (h0:∀j,j<d→at_ x j=0) (hl:d<x.length) (h1:at_ x d≠0):dep x=d:=by
 have h2:d≤dep x:=Go.Lie.dep_ge (by omega) h0
 rcases Nat.lt_or_ge d (dep x)with q|q
 ·exact absurd (qw q) h1
 ·omega
theorem Fit.ex (g:LG O P C) (hH:gB O P C H) (hd:Dp O H d):∃x,Fit O H d x:=by
 have hl:=hd.1;have key:∀e,∃x,H x∧dep x=d∧at_ x d=1∧∀e',d<e'→e'<e→Dp O H e'→at_ x e'=0:=by
  intro e
  induction e with
  | zero=>
   obtain⟨x,h1,h2,h3⟩:=Fit.ex1 g hH hd;exact⟨x,h1,h2,h3,fun e' _ q=>by omega⟩
  | succ e ih=>
   obtain⟨x,h1,h2,h3,h4⟩:=ih
   by_cases he:d<e∧Dp O H e
   ·obtain⟨y,y1,y2,y3⟩:=Fit.ex1 g hH he.2
    obtain⟨k,c1,c2⟩:=clr g he.2.1 (hH.inS h1) (hH.inS y1) y2 y3;have hz:=hH.cl h1 (hH.pw y1 k);refine⟨_,hz,zRu (fun j hj=>?_) (by rw [(hH.inS hz).len];exact hl) ?_,?_,fun e' q1 q2 q3=>?_⟩
    ·rw [c1 j (by omega)];exact qw (by omega)
    ·rw [c1 d he.1,h3];decide
    ·rw [c1 d he.1,h3]
    ·rcases Nat.lt_or_ge e' e with q | q
     ·rw [c1 e' q];exact h4 e' q1 q q3
     ·rw [show e'=e by omega];exact c2
   ·refine⟨x,h1,h2,h3,fun e' q1 q2 q3=>?_⟩
    rcases Nat.lt_or_ge e' e with q|q
    ·exact h4 e' q1 q q3
    ·obtain rfl:e'=e:=by omega
     exact absurd ⟨q1,q3⟩ he
 obtain⟨x,h1,h2,h3,h4⟩:=key O.length;exact⟨x,h1,h2,h3,fun e he hD=>h4 e he hD.1 hD⟩
theorem Fit.one (g:LG O P C) (hH:gB O P C H) (hl:d<O.length) (h:Fit O H d v) (h':Fit O H d v'):v=v':=by
 have s:=g.s;have G:=g.F.g;have a1:=hH.inS h.1;have b1:=hH.inS h'.1;have iv:=G.inv_in a1;have hz:H (gm O P C (ginv (gS O) (gm O P C) (zv O) v) v'):=hH.cl (hH.inv h.1) h'.1;have e:gm O P C v (gm O P C (ginv (gS O) (gm O P C) (zv O) v) v')=v':=by rw [←G.as a1 iv.1 b1,iv.2,G.l1 b1]
 generalize gm O P C (ginv (gS O) (gm O P C) (zv O) v) v'=z at *
 have zS:=hH.inS hz;rcases Nat.lt_or_ge (dep z) O.length with hdz|hdz
 ·exfalso
  obtain⟨g1,g2⟩:=ZR s (d:=O.length) (b:=v) (a:=z) (t:=dep z) (Nat.le_refl _) (by omega) hdz (by rw [Nat.sub_self];exact a1) (Ze zS)
  have e':mu O P C O.length v z=v':=e;rw [e']at g1 g2
  have hz0:at_ z (dep z)≠0:=Z4 (by rw [zS.len];exact hdz)
  have hvv:at_ v' (dep z)=at_ v (dep z):=by
   rcases Nat.lt_trichotomy (dep z) d with h1|h1|h1
   ·rw [qw (by rw [h'.2.1];exact h1),qw (by rw [h.2.1];exact h1)]
   ·rw [h1,h.2.2.1,h'.2.2.1]
   ·have hD:Dp O H (dep z):=⟨hdz,z,hz,rfl⟩
    rw [h.2.2.2 _ h1 hD,h'.2.2.2 _ h1 hD]
  exact hz0 (zBY (a1.bd _ hdz) (zS.bd _ hdz) (g2.symm.trans hvv))
 ·rw [Zz zS hdz,G.r1 a1]at e
  exact e
open Classical in
noncomputable def seqM (O:List Int) (m:Nat):List (List Int):=
 (List.range O.length).flatMap fun d=>(((List.range (nEl O)).map (el O)).filter fun x=>decide (Fit O (HM O m) d x))
theorem zBP (s:Shp O P C):v∈seqM O m↔∃d,d<O.length∧Fit O (HM O m) d v:=by
 unfold seqM;simp only [List.mem_flatMap,List.mem_range,List.mem_filter,List.mem_map,decide_eq_true_eq];constructor
 ·rintro ⟨d,hd,_,hf⟩;exact⟨d,hd,hf⟩
 ·rintro ⟨d,hd,hf⟩
  exact⟨d,hd,⟨nu O v,nu_lt s hf.1.1,el_nu s hf.1.1⟩,hf⟩
theorem zCt {α:Type} {p:α→Bool}:∀{L:List α},L.Nodup→(∀x∈L,∀y∈L,p x=true→p y=true→x=y)→(L.filter p).length≤1
 | [],_,_=>by simp
 | a::L,hn,h=>by
  rw [List.nodup_cons]at hn
  rw [List.filter_cons]
  split
  ·rename_i ha
   have:L.filter p=[]:=List.filter_eq_nil_iff.2 fun x hx hp=>hn.1 (by
    rw [h a (by simp) x (by simp [hx]) ha hp];exact hx)
   simp [this]
  ·exact zCt hn.2 fun x hx y hy=>h x (by simp [hx]) y (by simp [hy])
theorem zO7 (s:Shp O P C):((List.range (nEl O)).map (el O)).Nodup:=by
 rw [List.Nodup,List.pairwise_map]
 have:=List.nodup_range (n:=nEl O)
 rw [List.Nodup]at this
 refine List.Pairwise.imp_of_mem ?_ this;intro a b ha hb hne e;exact hne (zRt s (List.mem_range.1 ha) (List.mem_range.1 hb) e)
theorem zAS (g:LG O P C) (h:SubM (nEl O) (tbM O P C) m):CanG O (HM O m) (seqM O m):=by
 have s:=g.s;have hH:=HM.gB g h;have hD:∀{v d},Fit O (HM O m) d v→d<O.length→Dp O (HM O m) (dep v):=fun {v d} f hd=>⟨by rw [f.2.1];exact hd,v,f.1,rfl⟩
 refine⟨?_,fun v hv=>?_,fun v hv=>?_,fun v hv w hw hne=>?_,fun x hx hd=>?_⟩
 ·unfold seqM
  rw [List.pairwise_flatMap];refine⟨fun d hd=>?_,List.Pairwise.imp_of_mem ?_ List.pairwise_lt_range⟩
  ·have h1:=zCt (p:=fun x=>@decide (Fit O (HM O m) d x) (Classical.propDecidable _)) (zO7 s) fun x hx y hy hp hq=>Fit.one g hH (List.mem_range.1 hd) (@of_decide_eq_true _ (_) hp) (@of_decide_eq_true _ (_) hq)
   revert h1
   generalize ((List.range (nEl O)).map (el O)).filter (fun x=>@decide (Fit O (HM O m) d x) (Classical.propDecidable _))=L
   intro h1
   match L,h1 with
   | [],_=>exact List.Pairwise.nil
   | [a],_=>exact List.pairwise_singleton _ _
   | a::b::r,h1=>simp at h1
  ·intro d d' hd hd' hlt x hx y hy
   simp only [List.mem_filter,decide_eq_true_eq]at hx hy
   rw [hx.2.2.1,hy.2.2.1];exact hlt
 ·obtain⟨d,hd,hf⟩:=(zBP s).1 hv
  exact hf.1
 ·obtain⟨d,hd,hf⟩:=(zBP s).1 hv
  exact⟨hf.1.1,by rw [hf.2.1];exact hd,by rw [hf.2.1];exact hf.2.2.1⟩
 ·obtain⟨d,hd,hf⟩:=(zBP s).1 hv
  obtain⟨d',hd',hf'⟩:=(zBP s).1 hw;rcases Nat.lt_or_ge (dep v) (dep w)with q|q
  ·exact hf.2.2.2 _ (by rw [←hf.2.1];exact q) (hD hf' hd')
  ·exact qw (by omega)
 ·obtain⟨v,hv⟩:=Fit.ex g hH ⟨hd,x,hx,rfl⟩
  exact⟨v,(zBP s).2 ⟨_,hd,hv⟩,hv.2.1⟩
theorem zPr (g:LG O P C) (h:SubM (nEl O) (tbM O P C) m) (hu:CanG O (HM O m) u):u=seqM O m:=hu.unique g.s g.F (HM.gB g h) (zAS g h)
theorem zCL (g:LG O P C) (h:SubM (nEl O) (tbM O P C) m):qJ O P C (seqM O m)∧∀x,GC O P C (seqM O m) x↔HM O m x:=by
 have hc:=zAS g h;have hH:=HM.gB g h;have e:∀x,GC O P C (seqM O m) x↔HM O m x:=fun x=>⟨fun hx=>hx _ hH hc.mem,zNR g hH hc x⟩
 exact⟨⟨fun x hx=>(hc.one x hx).1,hc.congr fun x=>(e x).symm⟩,e⟩
theorem zNq (g:LG O P C) {m':Nat} (h:SubM (nEl O) (tbM O P C) m) (h':SubM (nEl O) (tbM O P C) m') (e:seqM O m=seqM O m'):m=m':=by
 refine HM.inj g.s h.lt h'.lt fun x=>?_
 rw [←(zCL g h).2,←(zCL g h').2,e]
end Go.Proofs
namespace Go.Grp
end Go.Grp
namespace Go.Proofs
open Go.Ab Go.Lie Go.Grp Go.Lat
variable {σ h:PHeap} {K:PV→PHeap→Prop} {N m a b x i k:Nat} {T:Nat→Nat→Nat} {vT:PV}
def bt (m a:Nat):Int:=if m.testBit a=true then 1 else 0
theorem zKJ (m a:Nat):(((m / 2 ^ a % 2:Nat)):Int)=bt m a:=by
 unfold bt;rw [Nat.testBit_eq_decide_div_mod_eq]
 by_cases h:m / 2 ^ a % 2=1
 ·rw [if_pos (by simpa using h),h];rfl
 ·rw [if_neg (by simpa using h),show m / 2 ^ a % 2=0 by omega];rfl
theorem two64 {a:Nat} (h:a<2 ^ 32):((a:Nat):Int)<18446744073709551616:=by
 have:(2:Nat) ^ 32=4294967296:=by decide
 omega
theorem mod64 {c:Nat} (hc:c<2 ^ 32):((c:Int) % ((2 ^ 64:Nat):Int)).toNat=c:=by
 have h:=two64 hc;have e:((2 ^ 64:Nat):Int)=18446744073709551616:=by decide
 rw [e,Int.emod_eq_of_lt (by omega) h,Int.toNat_natCast]
theorem wrapU {c:Nat} (hc:c<2 ^ 32):IntKind.u64.wrap (c:Int)=(c:Int):=by
 show(_:Int) % 18446744073709551616=_
 exact Int.emod_eq_of_lt (by omega) (two64 hc)
theorem shr_u (m:Nat) (ha:a≤64):pbin .shr .other (.int .u64 (m:Int)) (.int .i64 (a:Int))=some (.int .u64 ((m / 2 ^ a:Nat):Int)):=by
 have e:ZY .shr .u64 (m:Int) (a:Int)=some (.int .u64 ((m / 2 ^ a:Nat):Int)):=by
  unfold ZY;rw [if_neg (by omega)]
  simp only [Int.toNat_natCast,show IntKind.u64.bits=64 from rfl,Nat.min_eq_left ha]
  congr 2
  rw [Int.fdiv_eq_ediv_of_nonneg _ (by exact_mod_cast Nat.zero_le _)]
  exact_mod_cast rfl
 show(ZY .shr .u64 (m:Int) (a:Int)).map ofAV=_
 rw [e];rfl
theorem zD0 (hm:m<2 ^ 32) (a:Nat):pbin .and .other (.int .u64 ((m / 2 ^ a:Nat):Int)) (.int .u64 1)=some (.int .u64 (bt m a)):=by
 have h1:(m / 2 ^ a:Nat)<2 ^ 32:=Nat.lt_of_le_of_lt (Nat.div_le_self _ _) hm;have h2:(BitVec.ofInt 64 ((m / 2 ^ a:Nat):Int) &&& BitVec.ofInt 64 1).toNat=m / 2 ^ a % 2:=by
  rw [BitVec.toNat_and,BitVec.toNat_ofInt,BitVec.toNat_ofInt];have e1:=mod64 h1;have e2:((1:Int) % ((2 ^ 64:Nat):Int)).toNat=1:=by decide
  rw [e1,e2,Nat.and_one_is_mod]
 have h3:IntKind.u64.wrap ((m / 2 ^ a % 2:Nat):Int)=((m / 2 ^ a % 2:Nat):Int):=by
  show(_:Int) % 18446744073709551616=_
  omega
 show(some (AV.int .u64 (IntKind.u64.wrap (((BitVec.ofInt 64 ((m / 2 ^ a:Nat):Int) &&& BitVec.ofInt 64 1).toNat:Nat):Int)))).map ofAV=_
 rw [h2,h3,zKJ];rfl
theorem or_u (ha:a<2 ^ 32) (hb:b<2 ^ 32):pbin .or .other (.int .u64 (a:Int)) (.int .u64 (b:Int))=some (.int .u64 ((a ||| b:Nat):Int)):=by
 have hor:a ||| b<2 ^ 32:=Nat.or_lt_two_pow ha hb;have h2:(BitVec.ofInt 64 (a:Int) ||| BitVec.ofInt 64 (b:Int)).toNat=a ||| b:=by
  rw [BitVec.toNat_or,BitVec.toNat_ofInt,BitVec.toNat_ofInt];rw [mod64 ha,mod64 hb]
 have h3:=wrapU hor
 show(some (AV.int .u64 (IntKind.u64.wrap (((BitVec.ofInt 64 (a:Int) ||| BitVec.ofInt 64 (b:Int)).toNat:Nat):Int)))).map ofAV=_
 rw [h2,h3];rfl
theorem shl_u (hx:x<32):pbin .shl .other (.int .u64 1) (.int .i64 (x:Int))=some (.int .u64 ((2 ^ x:Nat):Int)):=by
 have e:ZY .shl .u64 1 (x:Int)=some (.int .u64 ((2 ^ x:Nat):Int)):=by
  unfold ZY;rw [if_neg (by omega)]
  simp only [Int.toNat_natCast,show IntKind.u64.bits=64 from rfl,Nat.min_eq_left (show x≤64 by omega)]
  congr 2
  rw [Int.one_mul];have e2:((2:Int) ^ x)=((2 ^ x:Nat):Int):=by exact_mod_cast rfl
  rw [e2];exact wrapU (Nat.pow_lt_pow_right (by omega) hx)
 show(ZY .shl .u64 1 (x:Int)).map ofAV=_
 rw [e];rfl
theorem or_bit (m x i:Nat):(m ||| 2 ^ x).testBit i=true↔m.testBit i=true∨i=x:=by
 rw [Nat.testBit_or,Bool.or_eq_true,Nat.testBit_two_pow];simp only [decide_eq_true_eq];exact or_congr Iff.rfl eq_comm
def tabL (N:Nat) (T:Nat→Nat→Nat):List (List Int):=(List.range N).map fun a=>(List.range N).map fun b=>((T a b:Nat):Int)
theorem zBC:(tabL N T).length=N:=by simp [tabL]
theorem zNn (ha:a<N):(tabL N T)[a]'(by rw [zBC];exact ha)=(List.range N).map fun b=>((T a b:Nat):Int):=by simp [tabL]
theorem zHb {rows:List PV} (hT:All2 FI rows (tabL N T)) (ha:a<N):∃w o,rows[a]? = some (.fz w o N (pis ((List.range N).map fun b=>((T a b:Nat):Int)))):=by
 obtain⟨w,o,h⟩:=hT.rowI (k:=a) (by rw [zBC];exact ha)
 rw [zNn ha]at h
 exact⟨w,o,by rw [h];simp⟩
theorem zJ3 (hb:b<N):(pis ((List.range N).map fun b=>((T a b:Nat):Int)))[b]? = some (.int .i64 ((T a b:Nat):Int)):=by
 rw [zL,List.getElem?_map,List.getElem?_range hb];rfl
structure EI (N:Nat) (T:Nat→Nat→Nat) (m x m':Nat):Prop where
 lt:m'<2 ^ N
 sub:∀i,m.testBit i=true∨i=x→m'.testBit i=true
 cl:∀i,m'.testBit i=true→Cl T (fun j=>m.testBit j=true∨j=x) i
structure EJ (N:Nat) (T:Nat→Nat→Nat) (m x m' n:Nat) (Q:Nat→Nat→Prop):Prop extends EI N T m x n where
 grow:∀i,m'.testBit i=true→n.testBit i=true
 pr:∀a b,a<N→b<N→Q a b→m'.testBit a=true→m'.testBit b=true→n.testBit (T a b)=true
theorem EJ.imp {m' n:Nat} {Q Q':Nat→Nat→Prop} (h:EJ N T m x m' n Q) (hq:∀a b,b<N→m'.testBit a=true→m'.testBit b=true→Q' a b→Q a b):EJ N T m x m' n Q':=
 ⟨h.toEI,h.grow,fun a b ha hb hQ h1 h2=>h.pr a b ha hb (hq a b hb h1 h2 hQ) h1 h2⟩
theorem EJ.step (t:Tb N T) {m' n:Nat} {Q Q':Nat→Nat→Prop} (hm:m<2 ^ N) (hx:x<N) (hm':EI N T m x m') (h:EJ N T m x m' n Q) {a b:Nat} (ha:m'.testBit a=true) (hb:m'.testBit b=true) (hq:∀a' b',Q' a' b'→Q a' b'∨(a'=a∧b'=b)):EJ N T m x m' (n ||| 2 ^ T a b) Q':=by
 have aN:=Zt hm'.lt ha;have bN:=Zt hm'.lt hb;have hS:∀i,(m.testBit i=true∨i=x)→i<N:=fun i hi=>by
  rcases hi with hi|rfl
  ·exact Zt hm hi
  ·exact hx
 refine⟨⟨Nat.or_lt_two_pow h.lt (Nat.pow_lt_pow_right (by omega) (t.lt aN bN)),fun i hi=>(or_bit _ _ _).2 (.inl (h.sub i hi)),fun i hi=>?_⟩,fun i hi=>(or_bit _ _ _).2 (.inl (h.grow i hi)),fun a' b' ha' hb' hQ h1 h2=>?_⟩
 ·rcases(or_bit _ _ _).1 hi with hi | rfl
  ·exact h.cl i hi
  ·exact(hm'.cl _ ha).mulC t hS (hm'.cl _ hb)
 ·rcases hq a' b' hQ with q | ⟨rfl,rfl⟩
  ·exact(or_bit _ _ _).2 (.inl (h.pr a' b' ha' hb' q h1 h2))
  ·exact(or_bit _ _ _).2 (.inr rfl)
theorem EI.done (t:Tb N T) {m':Nat} (hm:m<2 ^ N) (h0:m.testBit 0=true) (hx:x<N) (h:EI N T m x m') (hc:∀a b,m'.testBit a=true→m'.testBit b=true→m'.testBit (T a b)=true):m'=ext N T m x:=by
 have g:=zGR t hm hx;refine GenM.unique ⟨h.lt,fun i=>⟨h.cl i,fun hi=>?_⟩⟩ g
 exact Cl.closed (S:=fun i=>m'.testBit i=true) (h.sub 0 (.inl h0)) hc (hi.mono h.sub)
set_option maxHeartbeats 1600000 in
theorem zHF (t:Tb N T) (hN:N≤32) (hT:FII vT (tabL N T)) (hm:m<2 ^ N) (h0:m.testBit 0=true) (hx:x<N) (hk:K (.int .u64 ((ext N T m x:Nat):Int)) σ):
  zA Tryz.prog 146 [vT,.int .u64 (m:Int),.int .i64 (x:Int)] σ K:=by
 obtain⟨wT,aT,rows,rfl,hrows⟩:=hT;rw [zBC];have p32:∀{m':Nat},m'<2 ^ N→m'<2 ^ 32:=fun h=>Nat.lt_of_lt_of_le h (Nat.pow_le_pow_right (by omega) hN)
 have hx2:2 ^ x<2 ^ N:=Nat.pow_lt_pow_right (by omega) hx
 have o1:=shl_u (x:=x) (by omega)
 have o2:=or_u (p32 hm) (p32 hx2);refine zB mix Tryz.func146 ?_;simp only [pwA,seval,-iQ0,o1,o2];refine zD (fun k vs g=>∃m':Nat,k=2 ^ N-m'∧vs=[.fz wT aT N rows,.int .u64 (m':Int)]∧g=σ∧EI N T m x m') (2 ^ N-(m ||| 2 ^ x)) ?_ ?_
 ·refine⟨_,rfl,rfl,rfl,Nat.or_lt_two_pow hm hx2,fun i hi=>(or_bit _ _ _).2 hi,fun i hi=>?_⟩
  refine Cl.of t (fun i hi=>?_) ((or_bit _ _ _).1 hi)
  rcases hi with hi|rfl
  ·exact Zt hm hi
  ·exact hx
 rintro k vs g ⟨m',rfl,rfl,rfl,hE⟩
 have b32:=p32 hE.lt;simp only [pwA,seval,-iQ0];refine zD (fun k vs g2=>∃a n:Nat,a≤N∧k=N-a∧vs=[.fz wT aT N rows,.int .u64 (m':Int),.int .u64 (n:Int),.int .i64 (N:Int),.int .i64 (a:Int)]∧g2=g∧EJ N T m x m' n (fun a' _=>a'<a)) N ?_ ?_
 ·exact⟨0,m',by omega,rfl,rfl,rfl,⟨hE,fun _ hi=>hi,fun a b _ _ h=>absurd h (by omega)⟩⟩
 rintro k vs g2 ⟨a,n,ha,rfl,rfl,rfl,hJ⟩
 by_cases hlt:a<N
 rotate_left
 ·obtain rfl:a=N:=by omega
  simp only [pwA,seval,-iQ0,hlt]
  by_cases hnm:n=m'
  ·subst hnm
   have e:=hE.done t hm h0 hx fun a b h1 h2=>hJ.pr a b (Zt hE.lt h1) (Zt hE.lt h2) (Zt hE.lt h1) h1 h2
   rw [←e]at hk
   simp only [pwA,seval,-iQ0];exact hk
  ·have hne:¬((n:Nat):Int)=(m':Int):=by omega
   simp only [pwA,seval,-iQ0,hnm,hne];have hle:=zK3 hJ.grow;have hl1:=hE.lt;exact⟨_,by omega,n,rfl,rfl,hJ.toEI⟩
 have wa:IntKind.i64.wrap ((a:Int)+1)=((a+1:Nat):Int):=wrapS (show a<1000 by omega) (by omega)
 have s1:=shr_u m' (a:=a) (by omega)
 have s2:=zD0 b32 a
 by_cases hb:m'.testBit a=true
 rotate_left
 ·have e0:bt m' a=0:=if_neg hb
  rw [e0]at s2
  simp only [pwA,seval,-iQ0,hlt,s1,s2,wa];exact⟨_,by omega,a+1,n,by omega,rfl,rfl,hJ.imp fun a' b' _ h1 _ h2=>by
   rcases Nat.lt_or_ge a' a with q|q
   ·exact q
   ·exact absurd h1 (by rw [show a'=a by omega];exact hb)⟩
 have e1:bt m' a=1:=if_pos hb;rw [e1]at s2
 simp only [pwA,seval,-iQ0,hlt,s1,s2];refine zD (fun k vs g3=>∃b n:Nat,b≤N∧k=N-b∧vs=[.fz wT aT N rows,.int .u64 (m':Int),.int .u64 (n:Int),.int .i64 (a:Int),.int .i64 (N:Int),.int .i64 (a:Int),.int .i64 (N:Int),.int .i64 (b:Int)]∧g3=g2∧EJ N T m x m' n (fun a' b'=>a'<a∨(a'=a∧b'<b))) N ?_ ?_
 ·exact⟨0,n,by omega,rfl,rfl,rfl,hJ.imp fun a' b' _ _ _ h=>by omega⟩
 rintro k vs g3 ⟨b,n,hb',rfl,rfl,rfl,hJ⟩
 by_cases hlb:b<N
 rotate_left
 ·obtain rfl:b=N:=by omega
  simp only [pwA,seval,-iQ0,hlb,wa];exact⟨_,by omega,a+1,n,by omega,rfl,rfl,hJ.imp fun a' b' h _ _ h2=>by omega⟩
 have wb:IntKind.i64.wrap ((b:Int)+1)=((b+1:Nat):Int):=wrapS (show b<1000 by omega) (by omega)
 have s3:=shr_u m' (a:=b) (by omega)
 have s4:=zD0 b32 b
 by_cases hbb:m'.testBit b=true
 rotate_left
 ·have e0:bt m' b=0:=if_neg hbb
  rw [e0]at s4
  simp only [pwA,seval,-iQ0,hlb,s3,s4,wb];exact⟨_,by omega,b+1,n,by omega,rfl,rfl,hJ.imp fun a' b' _ _ h1 h2=>by
   rcases h2 with h2|⟨h2,h3⟩
   ·exact .inl h2
   ·refine .inr ⟨h2,?_⟩
    rcases Nat.lt_or_ge b' b with q|q
    ·exact q
    ·exact absurd h1 (by rw [show b'=b by omega];exact hbb)⟩
 have e2:bt m' b=1:=if_pos hbb;rw [e2]at s4
 obtain⟨wr,ar,hr⟩:=zHb hrows hlt;have hT2:=t.lt hlt hlb;have hrb:=zJ3 (T:=T) (a:=a) hlb;have o3:=shl_u (x:=T a b) (by omega)
 have o4:=or_u (p32 hJ.lt) (p32 (Nat.pow_lt_pow_right (show 1<2 by omega) hT2))
 simp only [pwA,seval,-iQ0,hlb,hlt,s3,s4,wb,hr,hrb,o3,o4];exact⟨_,by omega,b+1,_,by omega,rfl,rfl,EJ.step t hm hx hE hJ hb hbb fun a' b' h=>by omega⟩
end Go.Proofs
