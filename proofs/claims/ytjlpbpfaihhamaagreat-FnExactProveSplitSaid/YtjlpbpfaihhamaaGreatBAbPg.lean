/- GHOST STEPS: slots that are given up, frozen or renamed when a call returns or is made. -/
import Derived.Test.YtjlpbpfaihhamaaGreatBAbPc
set_option linter.unusedVariables false
set_option linter.unusedSimpArgs false
namespace Go.Ab
variable {P:Program} {ι ι':Nat→Nat} {Z Z':Nat→Prop} {h h':AHeap} {σ σ' σ0 σ1 σ2:PHeap} {n n':Nat} {K:PV→PHeap→Prop}
mutual
def addrs:PV→List Nat
 | .fz _ (.sl o _ _ _) _ cs=>o::ZQ cs
 | .fp (.ptr o _) cs=>(if cs.isEmpty then []else [o])++ZQ cs
 | .clo _ a b=>ZQ a++ZQ b
 | .agg cs=>ZQ cs
 | .tup cs=>ZQ cs
 | _=>[]
def ZQ:List PV→List Nat
 | []=>[]
 | c::cs=>addrs c++ZQ cs
end
mutual
theorem zGW:∀{n:Nat} {v:PV},VOK Z h n v→∀o∈addrs v,Z o
 | n,.undef,_,o,ho | n,.bool _,_,o,ho | n,.int _ _,_,o,ho | n,.str _,_,o,ho | n,.nilp,_,o,ho | n,.nilf,_,o,ho=>by simp [addrs]at ho
 | n,.ptr _ _,_,o,ho | n,.sl _ _ _ _,_,o,ho=>by simp [addrs]at ho
 | n,.fz w a len cs,hv,o,ho=>by
  obtain⟨rfl,_,_⟩|⟨o',off,cap,rfl,h1,_⟩:=hv.1
  ·simp [addrs]at ho
  ·simp only [addrs,List.mem_cons]at ho
   rcases ho with rfl|ho
   ·exact h1
   ·exact QK hv.2 o ho
 | n,.fp a cs,hv,o,ho=>by
  cases a with
  | ptr o' i=>
   simp only [addrs,List.mem_append]at ho
   rcases ho with ho|ho
   ·split at ho
    ·simp at ho
    ·rename_i hne
     simp only [List.mem_singleton]at ho
     subst ho;obtain⟨_,h1|⟨o2,i2,he,h2,_⟩⟩:=hv.1
     ·cases cs with
      | nil=>exact absurd rfl hne
      | cons c cs=>simp [ers]at h1
     ·cases he;exact h2
   ·exact QK hv.2 o ho
  | _=>simp [addrs]at ho
 | n,.clo _ a b,hv,o,ho=>by
  simp only [addrs,List.mem_append]at ho
  exact ho.elim (QK hv.1 o) (QK hv.2 o)
 | n,.agg cs,hv,o,ho=>QK (cs:=cs) hv o (by simpa only [addrs]using ho)
 | n,.tup cs,hv,o,ho=>QK (cs:=cs) hv o (by simpa only [addrs]using ho)
theorem QK:∀{n:Nat} {cs:List PV},VOKs Z h n cs→∀o∈ZQ cs,Z o
 | n,[],_,o,ho=>by simp [ZQ]at ho
 | n,c::cs,hv,o,ho=>by
  simp only [ZQ,List.mem_append]at ho
  exact ho.elim (zGW hv.1 o) (QK hv.2 o)
end
def Gh (σ0:PHeap) (K:PV→PHeap→Prop) (v:PV) (σ1:PHeap):Prop:=
 PWF σ0→∀(ι:Nat→Nat) (Z:Nat→Prop) (h:AHeap) (b:Nat),Rel ι Z σ1 h→VOK Z h σ1.next v→σ0.next≤σ1.next→σ0.top≤b→(∀s cs,σ0.next≤s→σ1.obj s=some cs→b≤ι s)→(∀s,s<σ0.next→σ0.obj s=none→σ1.obj s=none)→
  ∃v2 σ2 ι2 Z2,Rel ι2 Z2 σ2 h∧VOK Z2 h σ2.next v2∧σ0.next≤σ2.next∧(∀s,s<σ0.next→ι2 s=ι s)∧(∀o,Z o→Z2 o)∧(∀s cs,σ0.next≤s→σ2.obj s=some cs→b≤ι2 s)∧(∀s,s<σ0.next→σ0.obj s=none→σ2.obj s=none)∧er ι2 v2=er ι v∧K v2 σ2
theorem zA.gh {f:FuncId} {args:List PV} (c:zA P f args σ (Gh σ K)):zA P f args σ K:=by
 intro ι Z h r va;refine(c ι Z h r va).mono ?_
 rintro _ h' ⟨pv,σ',ι',Z',r',a',hv,rfl,k⟩
 obtain⟨v2,σ2,ι2,Z2,g1,g2,g3,g4,g5,g6,g7,g8,g9⟩:=k r.pwf ι' Z' h' h.next r' hv a'.next r.top (fun s cs hs ho=>a'.fresh s cs hs ho) a'.dead
 exact⟨v2,σ2,ι2,Z2,g1,⟨g3,a'.hnext,fun s hs=>(g4 s hs).trans (a'.inj s hs),fun o ho=>⟨g5 o (a'.z o ho).1,(a'.z o ho).2⟩,g7,g6⟩,g2,g8.symm,g9⟩
theorem zA.pwf {f:FuncId} {args:List PV} (c:PWF σ→zA P f args σ K):zA P f args σ K:=fun ι Z h r va=>c r.pwf ι Z h r va
theorem zA.nil0 {f:FuncId} {w:Bool} {a:AV} {l:Nat} {cs:List PV} {rest:List PV} (c:(Zj a=true→l=0∧cs=[])→zA P f (.fz w a l cs::rest) σ K):zA P f (.fz w a l cs::rest) σ K:=fun ι Z h r va=>c (fun hn=>by
 rw [zLH hn]at va
 obtain⟨_,h1,h2⟩|⟨_,_,_,h1,_⟩:=va.1.1
 ·exact⟨h1,List.eq_nil_of_length_eq_zero (by rw [←qd (ι:=idz),h2];rfl)⟩
 ·cases h1) ι Z h r va
theorem Gh.ret {v:PV} (k:K v σ1):Gh σ0 K v σ1:=fun _ ι Z h b r hv hn hb hf hd=>⟨v,σ1,ι,Z,r,hv,hn,fun _ _=>rfl,fun _ h=>h,hf,hd,rfl,k⟩
theorem Gh.cut {v:PV} (hn:σ2.next=σ0.next) (ht:σ2.top≤σ1.top) (ho:∀s cs,σ2.obj s=some cs→s<σ0.next∧σ1.obj s=some cs∧(σ0.obj s=some cs∨Bels σ0.next cs)) (hb:Bel σ0.next v) (k:K v σ2):Gh σ0 K v σ1:=by
 intro w ι Z h b r hv h1 h2 h3 h4;refine⟨v,σ2,ι,Z,⟨r.hwf,r.zlt,Nat.le_trans ht r.top,fun s hs=>?_,fun s cs hs=>?_,fun s s' cs cs' hs hs' hi=>r.inj s s' cs cs' (ho s cs hs).2.1 (ho s' cs' hs').2.1 hi⟩,by rw [hn];exact hv.of_bel hb,by omega,fun _ _=>rfl,fun _ h=>h,fun s cs hs hc=>?_,fun s hs hc=>?_,rfl,k⟩
 ·cases hc:σ2.obj s with
  | none=>rfl
  | some cs=>have:=(ho s cs hc).1;omega
 ·obtain⟨g1,g2,g3⟩:=ho s cs hs
  obtain⟨q1,q2,q3⟩:=r.obj s cs g2;exact⟨q1,by rw [hn];exact q2.of_bel (g3.elim (fun g=>w.bel s cs g) id),q3⟩
 ·exact h3 s cs hs (ho s cs hc).2.1
 ·cases hc':σ2.obj s with
  | none=>rfl
  | some cs=>have:=(ho s cs hc').2.1;rw [h4 s hs hc]at this;cases this
structure Keep (σ0 σ1:PHeap):Prop where
 next:σ0.next≤σ1.next
 top:σ0.top≤σ1.top
 obj:∀s,s<σ0.next→σ1.obj s=σ0.obj s
theorem Keep.refl (σ:PHeap):Keep σ σ:=⟨Nat.le_refl _,Nat.le_refl _,fun _ _=>rfl⟩
theorem Keep.trans (a:Keep σ0 σ1) (b:Keep σ1 σ2):Keep σ0 σ2:=⟨Nat.le_trans a.next b.next,Nat.le_trans a.top b.top,fun s hs=>(b.obj s (Nat.lt_of_lt_of_le hs a.next)).trans (a.obj s hs)⟩
theorem Keep.new (a:Keep σ0 σ1) (cs:List PV):Keep σ0 (σ1.new cs):=
 ⟨by have:=a.next;simp only [PHeap.new];omega,a.top,fun s hs=>by have:=a.next;simp only [PHeap.new];rw [if_neg (by omega)];exact a.obj s hs⟩
theorem Keep.set (a:Keep σ0 σ1) {s:Nat} (hs:σ0.next≤s) (cs:List PV):Keep σ0 (σ1.set s cs):=
 ⟨a.next,a.top,fun t ht=>by simp only [PHeap.set];rw [if_neg (by omega)];exact a.obj t ht⟩
theorem Keep.kill (a:Keep σ0 σ1) {s:Nat} (hs:σ0.next≤s):Keep σ0 (σ1.kill s):=
 ⟨a.next,a.top,fun t ht=>by simp only [PHeap.kill];rw [if_neg (by omega)];exact a.obj t ht⟩
theorem Keep.up (a:Keep σ0 σ1) {t:Nat} (ht:σ1.top≤t):Keep σ0 (σ1.up t):=⟨a.next,Nat.le_trans a.top ht,a.obj⟩
theorem Gh.fin0T {v:PV} {t:Nat} (hk:Keep σ0 σ1) (ht:t≤σ1.top) (hb:Bel σ0.next v) (k:PWF σ0→K v (σ0.up t)):Gh σ0 K v σ1:=fun w=>
 Gh.cut (σ2:=σ0.up t) rfl ht (fun s cs hs=>⟨w.lt hs,by rw [hk.obj s (w.lt hs)];exact hs,.inl hs⟩) hb (k w) w
theorem Gh.fin0 {v:PV} (hk:Keep σ0 σ1) (hb:Bel σ0.next v) (k:K v σ0):Gh σ0 K v σ1:=Gh.fin0T (t:=σ0.top) hk hk.top hb fun _=>k
theorem Gh.finS {s off l:Nat} {cap:Cap} {cs:List PV} (hk:Keep σ0 σ1) (hs:σ1.obj s=some cs) (h0:σ0.next≤s) (hb:Bels σ0.next cs) (k:K (.sl σ0.next off l cap) (σ0.new cs)):Gh σ0 K (.sl s off l cap) σ1:=by
 intro w ι Z h b r hv h1 h2 h3 h4;obtain⟨q1,q2,q3⟩:=r.obj s cs hs;have hi:∀{t:Nat} {ds:List PV},σ0.obj t=some ds→ι t≠ι s:=fun {t ds} ht he=>by
  have:=r.inj t s ds cs (by rw [hk.obj t (w.lt ht)];exact ht) hs he
  have:=w.lt ht
  omega
 have conv:∀t,t<σ0.next→putι ι σ0.next (ι s) t=ι t:=fun t ht=>by simp [putι,Nat.ne_of_lt ht]
 have hc0:VOKs Z h σ0.next cs:=q2.of_bel hb;refine⟨.sl σ0.next off l cap,σ0.new cs,putι ι σ0.next (ι s),Z,⟨r.hwf,r.zlt,Nat.le_trans hk.top r.top,fun t ht=>?_,fun t ds ht=>?_,fun t t' ds ds' ht ht' he=>?_⟩,Nat.lt_succ_self _,by simp [PHeap.new],conv,fun _ h=>h,fun t ds ht hd=>?_,fun t ht hd=>?_,(by simp [er,putι]),k⟩
 ·simp only [PHeap.new]at ht ⊢
  rw [if_neg (by omega)]
  exact w.wf t (by omega)
 ·simp only [PHeap.new]at ht ⊢
  by_cases e:t=σ0.next
  ·subst e
   rw [if_pos rfl]at ht
   cases ht;rw [Zy conv hc0];simp only [putι,if_true];exact⟨q1,hc0.up (Nat.le_succ _),q3⟩
  ·rw [if_neg e]at ht
   have htl:=w.lt ht;obtain⟨p1,p2,p3⟩:=r.obj t ds (by rw [hk.obj t htl];exact ht)
   have p2':=p2.of_bel (w.bel t ds ht);rw [conv t htl,Zy conv p2'];exact⟨p1,p2'.up (Nat.le_succ _),p3⟩
 ·simp only [PHeap.new]at ht ht'
  by_cases e:t=σ0.next
  ·by_cases e':t'=σ0.next
   ·rw [e,e']
   ·rw [if_neg e']at ht'
    rw [conv t' (w.lt ht')]at he
    subst e;simp only [putι,if_true]at he
    exact absurd he.symm (hi ht')
  ·rw [if_neg e]at ht
   rw [conv t (w.lt ht)]at he
   by_cases e':t'=σ0.next
   ·subst e'
    simp only [putι,if_true]at he
    exact absurd he (hi ht)
   ·rw [if_neg e']at ht'
    rw [conv t' (w.lt ht')]at he
    exact r.inj t t' ds ds' (by rw [hk.obj t (w.lt ht)];exact ht) (by rw [hk.obj t' (w.lt ht')];exact ht') he
 ·simp only [PHeap.new]at hd
  by_cases e:t=σ0.next
  ·subst e;simp only [putι,if_true];exact h3 s cs h0 hs
  ·rw [if_neg e]at hd;have:=w.lt hd;omega
 ·simp only [PHeap.new]
  rw [if_neg (by omega)]
  exact hd
theorem Gh.freeze {v:PV} {s:Nat} {cs:List PV} (hs:σ1.obj s=some cs) (h0:σ0.next≤s) (hb:Bels 0 cs)
  (k:∀o,σ0.top≤o→o∉ZQ cs→o∉addrs v→Gh σ0 K (sb s o cs v) ((σ1.kill s).up (max σ1.top (o+1)))):Gh σ0 K v σ1:=by
 intro w ι Z h b r hv h1 h2 h3 h4;obtain⟨r',hc0,ho,hz⟩:=r.freeze hs hb;have hbs:=h3 s cs h0 hs;have conv:∀{t:Nat} {a:List PV},(σ1.kill s).obj t=some a→t≠s∧σ1.obj t=some a:=fun {t a} ht=>by
  simp only [PHeap.kill]at ht
  split at ht
  ·cases ht
  ·exact⟨by assumption,ht⟩
 obtain⟨v2,σ2,ι2,Z2,g1,g2,g3,g4,g5,g6,g7,g8,g9⟩:=k (ι s) (by omega) (fun hm=>hz (QK hc0 _ hm)) (fun hm=>hz (zGW hv _ hm)) w ι (fun o=>Z o∨o=ι s) h b r'
  (VOK.sb (.inr rfl) ho (hc0.mono (fun o ho=>⟨.inl ho,rfl⟩) (Nat.le_refl _)) (hv.mono (fun o ho=>⟨.inl ho,rfl⟩) (Nat.le_refl _))) h1 h2 (fun t ds ht hd=>h3 t ds ht (conv hd).2)
  (fun t ht hd=>by simp only [PHeap.kill,PHeap.up];split;rfl;exact h4 t ht hd)
 exact⟨v2,σ2,ι2,Z2,g1,g2,g3,g4,fun o ho=>g5 o (.inl ho),g6,g7,g8.trans (er_sb rfl v),g9⟩
theorem Gh.finZ {s l:Nat} {cap:Cap} {cs:List PV} (hk:Keep σ0 σ1) (hs:σ1.obj s=some cs) (h0:σ0.next≤s) (hb:Bels 0 cs) (hcap:capOK cap l=true)
  (k:∀o,σ0.top≤o→o∉ZQ cs→∀t,o<t→σ1.top≤t→K (.fz true (.sl o 0 l cap) l cs) (σ0.up t)):Gh σ0 K (.sl s 0 l cap) σ1:=
 Gh.freeze hs h0 hb fun o ho hc _=>by
  simp only [sb];rw [if_pos ⟨trivial,trivial,hcap⟩];exact Gh.fin0T (t:=max σ1.top (o+1)) ((hk.kill h0).up (by simp only [PHeap.kill];omega)) (Nat.le_refl _) trivial fun w=>k o ho hc _ (by omega) (by omega)
theorem Gh.finF {s l:Nat} {cap:Cap} {cs:List PV} (hk:Keep σ0 σ1) (hs:σ1.obj s=some cs) (h0:σ0.next≤s) (hb:Bels 0 cs) (hcap:capOK cap l=true)
  (k:∀o,K (.fz true (.sl o 0 l cap) l cs) σ0):Gh σ0 K (.sl s 0 l cap) σ1:=
 Gh.freeze hs h0 hb fun o ho hc _=>by
  simp only [sb];rw [if_pos ⟨trivial,trivial,hcap⟩];exact Gh.fin0 ((hk.kill h0).up (by simp only [PHeap.kill];omega)) trivial (k o)
theorem zA.frz {f:FuncId} {args:List PV} {s:Nat} {cs:List PV} (hs:σ.obj s=some cs) (hb:Bels 0 cs) (c:∀o,zA P f (sbs s o cs args) (σ.kill s) K):zA P f args σ K:=by
 intro ι Z h r va;obtain⟨r',hc0,ho,hz⟩:=r.freeze hs hb;have r2:Rel ι (fun o=>Z o∨o=ι s) (σ.kill s) h:=⟨r'.hwf,r'.zlt,by have:=r.top;exact this,r'.wf,r'.obj,r'.inj⟩
 have hz1:∀o,Z o→(Z o∨o=ι s)∧h.obj o=h.obj o:=fun o ho=>⟨.inl ho,rfl⟩
 have hm:(σ.kill s).next=σ.next:=rfl
 have:=c (ι s) ι _ h r2 (VOKs.sbs (.inr rfl) ho (hc0.mono hz1 (Nat.le_refl _)) (va.mono hz1 (Nat.le_refl _)))
 rw [QS rfl]at this
 refine this.mono ?_
 rintro v h' ⟨pv,σ',ι',Z',q1,q2,q3,q4,q5⟩
 exact⟨pv,σ',ι',Z',q1,⟨q2.next,q2.hnext,q2.inj,fun o ho=>q2.z o (.inl ho),fun t ht hn=>q2.dead t ht (by simp only [PHeap.kill];split;rfl;exact hn),q2.fresh⟩,q3,q4,q5⟩
end Go.Ab
