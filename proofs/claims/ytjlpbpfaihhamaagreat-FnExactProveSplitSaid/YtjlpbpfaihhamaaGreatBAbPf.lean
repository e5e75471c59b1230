/- FREEZING A SLOT: names of slots, what stands for a slot that nobody writes any more. -/
import Derived.Test.YtjlpbpfaihhamaaGreatBAbPs
set_option linter.unusedVariables false
set_option linter.unusedSimpArgs false
namespace Go.Ab
variable {P:Program} {ι ι':Nat→Nat} {Z Z':Nat→Prop} {h h':AHeap} {σ σ' σ0 σ1 σ2:PHeap} {n n':Nat} {K:PV→PHeap→Prop}
mutual
def Bel (n:Nat):PV→Prop
 | .ptr s _=>s<n
 | .mref s=>s<n
 | .sl s _ _ _=>s<n
 | .clo _ a b=>Bels n a∧Bels n b
 | .agg cs=>Bels n cs
 | .tup cs=>Bels n cs
 | _=>True
def Bels (n:Nat):List PV→Prop
 | []=>True
 | c::cs=>Bel n c∧Bels n cs
end
theorem zBc:∀{cs:List PV},Bels n cs↔∀c∈cs,Bel n c
 | []=>by simp [Bels]
 | c::cs=>by simp [Bels,zBc (cs:=cs)]
mutual
theorem VOK.bel:∀{v:PV},VOK Z h n v→Bel n v
 | .undef,_ | .bool _,_ | .int _ _,_ | .str _,_ | .nilp,_ | .nilf,_ | .fz _ _ _ _,_ | .fp _ _,_=>trivial
 | .ptr _ _,hv=>hv
 | .mref _,hv=>hv
 | .sl _ _ _ _,hv=>hv
 | .clo _ a b,hv=>⟨VOKs.bel hv.1,VOKs.bel hv.2⟩
 | .agg cs,hv=>VOKs.bel (cs:=cs) hv
 | .tup cs,hv=>VOKs.bel (cs:=cs) hv
theorem VOKs.bel:∀{cs:List PV},VOKs Z h n cs→Bels n cs
 | [],_=>trivial
 | c::cs,hv=>⟨VOK.bel hv.1,VOKs.bel hv.2⟩
end
mutual
theorem VOK.of_bel:∀{v:PV},VOK Z h n v→Bel n' v→VOK Z h n' v
 | .undef,_,_ | .bool _,_,_ | .int _ _,_,_ | .str _,_,_ | .nilp,_,_ | .nilf,_,_=>trivial
 | .fz _ _ _ _,hv,_=>hv
 | .fp _ _,hv,_=>hv
 | .ptr _ _,_,hb=>hb
 | .mref _,_,hb=>hb
 | .sl _ _ _ _,_,hb=>hb
 | .clo _ a b,hv,hb=>⟨VOKs.of_bel hv.1 hb.1,VOKs.of_bel hv.2 hb.2⟩
 | .agg cs,hv,hb=>VOKs.of_bel (cs:=cs) hv hb
 | .tup cs,hv,hb=>VOKs.of_bel (cs:=cs) hv hb
theorem VOKs.of_bel:∀{cs:List PV},VOKs Z h n cs→Bels n' cs→VOKs Z h n' cs
 | [],_,_=>trivial
 | c::cs,hv,hb=>⟨VOK.of_bel hv.1 hb.1,VOKs.of_bel hv.2 hb.2⟩
end
mutual
theorem Bel.up (hn:n≤n'):∀{v:PV},Bel n v→Bel n' v
 | .undef,_ | .bool _,_ | .int _ _,_ | .str _,_ | .nilp,_ | .nilf,_ | .fz _ _ _ _,_ | .fp _ _,_=>trivial
 | .ptr _ _,hv=>Nat.lt_of_lt_of_le hv hn
 | .mref _,hv=>Nat.lt_of_lt_of_le hv hn
 | .sl _ _ _ _,hv=>Nat.lt_of_lt_of_le hv hn
 | .clo _ a b,hv=>⟨Bels.up hn hv.1,Bels.up hn hv.2⟩
 | .agg cs,hv=>Bels.up (cs:=cs) hn hv
 | .tup cs,hv=>Bels.up (cs:=cs) hn hv
theorem Bels.up (hn:n≤n'):∀{cs:List PV},Bels n cs→Bels n' cs
 | [],_=>trivial
 | c::cs,hv=>⟨Bel.up hn hv.1,Bels.up hn hv.2⟩
end
structure PWF (σ:PHeap):Prop where
 wf:∀s,σ.next≤s→σ.obj s=none
 bel:∀s cs,σ.obj s=some cs→Bels σ.next cs
theorem Rel.pwf (r:Rel ι Z σ h):PWF σ:=⟨r.wf,fun s cs hs=>(r.obj s cs hs).2.1.bel⟩
theorem PWF.lt (w:PWF σ) {s:Nat} {cs:List PV} (hs:σ.obj s=some cs):s<σ.next:=by
 rcases Nat.lt_or_ge s σ.next with x|x
 ·exact x
 ·rw [w.wf s x]at hs;cases hs
def capOK:Cap→Nat→Bool
 | .known c,l=>decide (l≤c)
 | .grown _,_=>true
mutual
def sb (s o:Nat) (cs:List PV):PV→PV
 | .sl s' off l cap=>if s'=s∧off=0∧capOK cap l=true then .fz true (.sl o 0 l cap) l cs else .sl s' off l cap
 | .clo f a b=>.clo f (sbs s o cs a) (sbs s o cs b)
 | .agg vs=>.agg (sbs s o cs vs)
 | .tup vs=>.tup (sbs s o cs vs)
 | v=>v
def sbs (s o:Nat) (cs:List PV):List PV→List PV
 | []=>[]
 | v::vs=>sb s o cs v::sbs s o cs vs
end
mutual
theorem er_sb {s o:Nat} {cs:List PV} (ho:o=ι s):∀v:PV,er ι (sb s o cs v)=er ι v
 | .undef | .bool _ | .int _ _ | .str _ | .nilp | .nilf | .fz _ _ _ _ | .fp _ _ | .ptr _ _ | .mref _=>rfl
 | .sl s' off l cap=>by
  simp only [sb]
  split
  ·rename_i hc;simp only [er];rw [hc.1,hc.2.1,ho]
  ·rfl
 | .clo f a b=>by simp only [sb,er,QS ho a,QS ho b]
 | .agg a=>by simp only [sb,er,QS ho a]
 | .tup a=>by simp only [sb,er,QS ho a]
theorem QS {s o:Nat} {cs:List PV} (ho:o=ι s):∀vs:List PV,ers ι (sbs s o cs vs)=ers ι vs
 | []=>rfl
 | v::vs=>by simp only [sbs,ers,er_sb ho v,QS ho vs]
end
mutual
theorem VOK.sb {s o:Nat} {cs:List PV} (hz:Z o) (ho:h.obj o=some ⟨true,ers idz cs⟩) (hc:VOKs Z h 0 cs):∀{v:PV},VOK Z h n v→VOK Z h n (sb s o cs v)
 | .undef,_ | .bool _,_ | .int _ _,_ | .str _,_ | .nilp,_ | .nilf,_=>trivial
 | .fz _ _ _ _,hv | .fp _ _,hv | .ptr _ _,hv | .mref _,hv=>hv
 | .sl s' off l cap,hv=>by
  simp only [Go.Ab.sb]
  split
  ·rename_i hcc
   refine⟨.inr ⟨o,0,cap,rfl,hz,.inr (Qw ho rfl),fun c hk=>?_,fun _=>⟨rfl,ho⟩⟩,hc⟩
   subst hk
   simpa [capOK]using hcc.2.2
  ·exact hv
 | .clo f a b,hv=>⟨VOKs.sbs hz ho hc hv.1,VOKs.sbs hz ho hc hv.2⟩
 | .agg a,hv=>VOKs.sbs (vs:=a) hz ho hc hv
 | .tup a,hv=>VOKs.sbs (vs:=a) hz ho hc hv
theorem VOKs.sbs {s o:Nat} {cs:List PV} (hz:Z o) (ho:h.obj o=some ⟨true,ers idz cs⟩) (hc:VOKs Z h 0 cs):∀{vs:List PV},VOKs Z h n vs→VOKs Z h n (sbs s o cs vs)
 | [],_=>trivial
 | v::vs,hv=>⟨VOK.sb hz ho hc hv.1,VOKs.sbs hz ho hc hv.2⟩
end
theorem Rel.freeze (r:Rel ι Z σ h) {s:Nat} {cs:List PV} (hs:σ.obj s=some cs) (hb:Bels 0 cs):
  (Rel ι (fun o=>Z o∨o=ι s) ((σ.kill s).up (max σ.top (ι s+1))) h)∧VOKs Z h 0 cs∧h.obj (ι s)=some ⟨true,ers idz cs⟩∧¬Z (ι s):=by
 obtain⟨q1,q2,q3⟩:=r.obj s cs hs;have hc0:VOKs Z h 0 cs:=q2.of_bel hb;have hlt:=r.hwf.lt q1;have conv:∀{t:Nat} {a:List PV},(σ.kill s).obj t=some a→t≠s∧σ.obj t=some a:=fun {t a} ht=>by
  simp only [PHeap.kill]at ht
  split at ht
  ·cases ht
  ·exact⟨by assumption,ht⟩
 refine⟨⟨r.hwf,?_,?_,fun t ht=>?_,fun t ds ht=>?_,fun t t' ds ds' ht ht' he=>r.inj t t' ds ds' (conv ht).2 (conv ht').2 he⟩,hc0,by rw [←Qg hc0];exact q1,q3⟩
 ·rintro o (ho | rfl)
  ·exact r.zlt o ho
  ·exact hlt
 ·have:=r.top
  simp only [PHeap.up];omega
 ·simp only [PHeap.kill,PHeap.up]
  split
  ·rfl
  ·exact r.wf t ht
 ·obtain⟨e,ht⟩:=conv ht
  obtain⟨p1,p2,p3⟩:=r.obj t ds ht;refine⟨p1,p2.mono (fun o ho=>⟨.inl ho,rfl⟩) (Nat.le_refl _),?_⟩
  rintro (hz | hz)
  ·exact p3 hz
  ·exact e (r.inj t s ds cs ht hs hz)
def PHeap.sub (σ:PHeap) (s o:Nat) (cs:List PV):PHeap:=⟨σ.next,σ.top,fun t=>(σ.obj t).map (sbs s o cs)⟩
theorem Rel.sub (r:Rel ι Z σ h) {s o:Nat} {cs:List PV} (hs:o=ι s) (hz:Z o) (ho:h.obj o=some ⟨true,ers idz cs⟩) (hc:VOKs Z h 0 cs):Rel ι Z (σ.sub s o cs) h:=by
 have conv:∀{t:Nat} {a:List PV},(σ.sub s o cs).obj t=some a→∃b,σ.obj t=some b∧a=sbs s o cs b:=fun {t a} ht=>by
  simp only [PHeap.sub,Option.map_eq_some_iff]at ht
  obtain⟨b,h1,h2⟩:=ht;exact⟨b,h1,h2.symm⟩
 refine⟨r.hwf,r.zlt,r.top,fun t ht=>by simp only [PHeap.sub];rw [r.wf t ht];rfl,fun t ds ht=>?_,fun t t' ds ds' ht ht' he=>?_⟩
 ·obtain⟨b,h1,rfl⟩:=conv ht
  obtain⟨p1,p2,p3⟩:=r.obj t b h1;exact⟨by rw [QS hs];exact p1,VOKs.sbs hz ho hc p2,p3⟩
 ·obtain⟨b,h1,_⟩:=conv ht
  obtain⟨b',h1',_⟩:=conv ht';exact r.inj t t' b b' h1 h1' he
mutual
theorem zBE {s o:Nat} {cs:List PV}:∀{n:Nat} {v:PV},n≤s→Bel n v→sb s o cs v=v
 | n,.undef,_,_ | n,.bool _,_,_ | n,.int _ _,_,_ | n,.str _,_,_ | n,.nilp,_,_ | n,.nilf,_,_ | n,.fz _ _ _ _,_,_ | n,.fp _ _,_,_ | n,.ptr _ _,_,_ | n,.mref _,_,_=>rfl
 | n,.sl s' _ _ _,hn,hb=>by
  have:s'<n:=hb
  simp only [sb];rw [if_neg (by omega)]
 | n,.clo _ a b,hn,hb=>by simp only [sb,QQ hn hb.1,QQ hn hb.2]
 | n,.agg a,hn,hb=>by simp only [sb,QQ (vs:=a) hn hb]
 | n,.tup a,hn,hb=>by simp only [sb,QQ (vs:=a) hn hb]
theorem QQ {s o:Nat} {cs:List PV}:∀{n:Nat} {vs:List PV},n≤s→Bels n vs→sbs s o cs vs=vs
 | n,[],_,_=>rfl
 | n,v::vs,hn,hb=>by simp only [sbs,zBE hn hb.1,QQ hn hb.2]
end
theorem zCM {s o:Nat} {cs:List PV}:∀(a b:List PV),sbs s o cs (a++b)=sbs s o cs a++sbs s o cs b
 | [],b=>rfl
 | v::a,b=>by simp only [List.cons_append,sbs,zCM a b]
inductive GL (I:List PV→PHeap→Prop):List PV→PHeap→Prop where
 | here {vs:List PV} {h:PHeap} (k:I vs h):GL I vs h
 | fz {vs:List PV} {h:PHeap} (s:Nat) (cs:List PV) (hs:h.obj s=some cs) (hb:Bels 0 cs) (k:∀o,GL I (sbs s o cs vs) (h.kill s)):GL I vs h
 | fzh {vs:List PV} {h:PHeap} (s:Nat) (cs:List PV) (hs:h.obj s=some cs) (hb:Bels 0 cs) (k:∀o,GL I (sbs s o cs vs) ((h.kill s).sub s o cs)):GL I vs h
theorem GL.sound {I:List PV→PHeap→Prop} {vs:List PV} {σ:PHeap} (g:GL I vs σ):∀{ι:Nat→Nat} {Z:Nat→Prop} {h:AHeap},Rel ι Z σ h→VOKs Z h σ.next vs→
  ∃Z' σ' vs',Rel ι Z' σ' h∧Aft ι Z σ h ι Z' σ' h∧VOKs Z' h σ'.next vs'∧ers ι vs'=ers ι vs∧I vs' σ':=by
 induction g with
 | here k=>intro ι Z h r hv;exact⟨Z,_,_,r,Aft.refl r,hv,rfl,k⟩
 | fz s cs hs hb k ih=>
  rename_i vs σ
  intro ι Z h r hv;obtain⟨r',hc0,ho,hz⟩:=r.freeze hs hb;have hz1:∀o,Z o→(Z o∨o=ι s)∧h.obj o=h.obj o:=fun o ho=>⟨.inl ho,rfl⟩
  have r2:Rel ι (fun o=>Z o∨o=ι s) (σ.kill s) h:=⟨r'.hwf,r'.zlt,by have:=r.top;exact this,r'.wf,r'.obj,r'.inj⟩
  obtain⟨Z',σ',vs',q1,q2,q3,q4,q5⟩:=ih (ι s) r2 (VOKs.sbs (.inr rfl) ho (hc0.mono hz1 (Nat.le_refl _)) (hv.mono hz1 (Nat.le_refl _)));have ha:Aft ι Z σ h ι (fun o=>Z o∨o=ι s) (σ.kill s) h:=⟨Nat.le_refl _,Nat.le_refl _,fun _ _=>rfl,hz1,fun t ht hn=>by simp only [PHeap.kill];split;rfl;exact hn,fun t ds ht hd=>by
   simp only [PHeap.kill]at hd;split at hd;cases hd;exact absurd (r.none_lt hd) (by omega)⟩
  exact⟨Z',σ',vs',q1,ha.trans q2,q3,q4.trans (QS rfl vs),q5⟩
 | fzh s cs hs hb k ih=>
  rename_i vs σ
  intro ι Z h r hv;obtain⟨r',hc0,ho,hz⟩:=r.freeze hs hb;have hz1:∀o,Z o→(Z o∨o=ι s)∧h.obj o=h.obj o:=fun o ho=>⟨.inl ho,rfl⟩
  have r2:Rel ι (fun o=>Z o∨o=ι s) (σ.kill s) h:=⟨r'.hwf,r'.zlt,by have:=r.top;exact this,r'.wf,r'.obj,r'.inj⟩
  have r3:=r2.sub (s:=s) rfl (.inr rfl) ho (hc0.mono hz1 (Nat.le_refl _));obtain⟨Z',σ',vs',q1,q2,q3,q4,q5⟩:=ih (ι s) r3 (VOKs.sbs (.inr rfl) ho (hc0.mono hz1 (Nat.le_refl _)) (hv.mono hz1 (Nat.le_refl _)));have ha:Aft ι Z σ h ι (fun o=>Z o∨o=ι s) ((σ.kill s).sub s (ι s) cs) h:=⟨Nat.le_refl _,Nat.le_refl _,fun _ _=>rfl,hz1,fun t ht hn=>by simp only [PHeap.kill,PHeap.sub];split;rfl;rw [hn];rfl,fun t ds ht hd=>by
   simp only [PHeap.kill,PHeap.sub]at hd;split at hd;cases hd
   cases hd2:σ.obj t with
   | none=>rw [hd2]at hd;cases hd
   | some b=>exact absurd (r.none_lt hd2) (by omega)⟩
  exact⟨Z',σ',vs',q1,ha.trans q2,q3,q4.trans (QS rfl vs),q5⟩
end Go.Ab
