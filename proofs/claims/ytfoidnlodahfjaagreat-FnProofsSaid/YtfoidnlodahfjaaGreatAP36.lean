/- Lists on their way: reading them, what they own. -/
import Derived.Test.YtfoidnlodahfjaaGreatAAbPn
import Derived.Test.YtfoidnlodahfjaaGreatAAbPz
set_option linter.unusedSimpArgs false
set_option linter.unusedVariables false
namespace Go.Ab
theorem zGf {Z:Nat→Prop} {h:AHeap} {n:Nat}:∀xs:List Int,VOKs Z h n (pis xs)
 | []=>trivial
 | x::xs=>⟨trivial,zGf xs⟩
theorem zA.lendT {P:Program} {f:FuncId} {args:List PV} {σ:PHeap} {K:PV→PHeap→Prop} {s:Nat} {cs:List PV} (hs:σ.obj s=some cs) (hb:Bels 0 cs)
  (c:∀o t,σ.top≤t→zA P f (sbs s o cs args) ((σ.kill s).up t) fun v σ'=>∃t' w a l xs,σ'=(σ.kill s).up t'∧t≤t'∧v=.fz w a l (pis xs)∧xs≠[]∧(∀x∈ead v,t≤x)∧K v (σ.up t')):zA P f args σ K:=by
 intro ι Z h r va;obtain⟨r',hc0,ho,hz⟩:=r.freeze hs hb;have r2:Rel ι (fun o=>Z o∨o=ι s) ((σ.kill s).up h.next) h:=⟨r'.hwf,r'.zlt,Nat.le_refl _,r'.wf,r'.obj,r'.inj⟩
 have hz1:∀o,Z o→(Z o∨o=ι s)∧h.obj o=h.obj o:=fun o ho=>⟨.inl ho,rfl⟩
 have:=c (ι s) h.next r.top ι _ h r2 (VOKs.sbs (.inr rfl) ho (hc0.mono hz1 (Nat.le_refl _)) (va.mono hz1 (Nat.le_refl _)))
 rw [ZY rfl]at this
 refine this.mono ?_
 rintro v h' ⟨pv,σ',ι',Z',q1,q2,q3,q4,t',w,a,l,xs,rfl,ht,rfl,hne,hx,hk⟩
 have hzz:∀o,Z o→(Z o∨Z' o∧h.next≤o)∧h'.obj o=h.obj o:=fun o ho=>⟨.inl ho,(q2.z o (.inl ho)).2⟩
 have hlt:∀t ds,σ.obj t=some ds→ι t<h.next:=fun t ds ht=>r.hwf.lt (r.obj _ _ ht).1
 have ob:∀t ds,σ.obj t=some ds→h'.obj (ι t)=h.obj (ι t):=by
  intro t ds ht
  by_cases e:t=s
  ·subst e;exact(q2.z _ (.inr rfl)).2
  ·have htl:=r.none_lt ht
   have hk':(σ.kill s).obj t=some ds:=by simp only [PHeap.kill];rw [if_neg e];exact ht
   obtain⟨p1,_,_⟩:=q1.obj t ds hk';obtain⟨g1,g2,_⟩:=r2.obj t ds hk';rw [q2.inj t htl,q2.ers g2]at p1
   rw [p1,g1]
 refine⟨.fz w a l (pis xs),σ.up t',ι,fun o=>Z o∨Z' o∧h.next≤o,⟨q1.hwf,?_,q1.top,r.wf,fun t ds ht=>⟨by rw [ob t ds ht];exact(r.obj t ds ht).1,(r.obj t ds ht).2.1.mono hzz (Nat.le_refl _),?_⟩,r.inj⟩,⟨Nat.le_refl _,q2.hnext,fun _ _=>rfl,hzz,fun _ _ h=>h,fun t ds ht hd=>absurd (r.none_lt hd) (by omega)⟩,⟨?_,zGf xs⟩,q4,hk⟩
 ·rintro o (ho | ⟨ho,_⟩)
  ·exact Nat.lt_of_lt_of_le (r.zlt o ho) q2.hnext
  ·exact q1.zlt o ho
 ·rintro (hz | ⟨_,hz⟩)
  ·exact(r.obj t ds ht).2.2 hz
  ·have:=hlt t ds ht;omega
 ·rcases q3.1 with e | ⟨o,off,cap,rfl,g1,g2,g3,g4⟩
  ·exact .inl e
  ·refine .inr ⟨o,off,cap,rfl,.inr ⟨g1,hx o ?_⟩,g2,g3,g4⟩
   rw [zBv (zLi hne)];exact List.mem_cons_self ..
end Go.Ab
namespace Go.Ab
theorem PAcc.first {b e n:Nat} {h:PHeap} {v:PV} {cs:List PV} (a:PAcc b e h v n cs) (h0:n≠0):qW e h v n=some cs:=by
 rcases a with ⟨rfl,rfl,rfl⟩|⟨s,cap,rfl,h1,h2,h3,h4,h5⟩
 ·exact absurd rfl h0
 ·rw [qC,if_neg h0,if_pos (Nat.le_refl _),zT h2,if_pos (by omega),List.drop_zero,List.take_of_length_le (by omega)]
theorem PAcc.lenc {b e n:Nat} {h:PHeap} {v:PV} {cs:List PV} (a:PAcc b e h v n cs):cs.length=n*e:=by
 rcases a with ⟨rfl,rfl,rfl⟩|⟨s,cap,rfl,h1,h2,h3,h4,h5⟩
 ·simp
 ·exact h3
theorem Own.ge {lo hi:Nat} {v:PV} (h:Own lo hi v):∀x∈ead v,lo≤x:=fun x hx=>(h.lt x hx).1
theorem Owns.cons {lo t hi:Nat} {cs:List PV} {c:PV} (h:Owns lo t cs) (g:Own t hi c) (hl:lo≤t) (ht:t≤hi):Owns lo hi (c::cs):=by
 refine⟨⟨g.wh,h.wh⟩,?_,fun o ho=>?_⟩
 ·show(ead c++eads cs).Nodup
  rw [List.nodup_append];refine⟨g.nd,h.nd,fun a ha b hb e=>?_⟩
  have:=g.lt a ha
  have:=h.lt b hb
  omega
 ·rcases List.mem_append.1 (show o∈ead c++eads cs from ho)with ho | ho
  ·have:=g.lt o ho;omega
  ·have:=h.lt o ho;omega
theorem Owns.last {pre rows:List PV} {o l lo hi hi':Nat} {cap:Cap} (h:Owns lo hi (pre++rows)) (h1:lo≤o) (h2:o<hi') (hh:hi≤hi') (hn:o∉eads (pre++rows)):Owns lo hi' (pre++[.fz true (.sl o 0 l cap) l rows]):=by
 have hw:=Zm.1 h.wh;have nd:=h.nd;rw [zg]at nd hn
 by_cases hr:rows=[]
 ·subst hr
  refine⟨Zm.2 fun c hc=>?_,?_,fun x hx=>?_⟩
  ·rcases List.mem_append.1 hc with hc | hc
   ·exact hw c (List.mem_append.2 (.inl hc))
   ·rw [List.mem_singleton.1 hc];exact .inl rfl
  ·rw [zg]
   simpa [eads,ead]using nd
  ·rw [zg]at hx
   have:=h.lt x (by rw [zg];simpa [eads,ead]using hx)
   omega
 ·have e:eads (pre++[PV.fz true (.sl o 0 l cap) l rows])=eads pre++(o::eads rows):=by
   rw [zg];simp only [eads,List.append_nil];rw [zBv hr]
  refine⟨Zm.2 fun c hc=>?_,?_,fun x hx=>?_⟩
  ·rcases List.mem_append.1 hc with hc | hc
   ·exact hw c (List.mem_append.2 (.inl hc))
   ·rw [List.mem_singleton.1 hc]
    exact .inr ⟨rfl,rfl,Zm.2 fun c hc=>hw c (List.mem_append.2 (.inr hc))⟩
  ·rw [e]
   exact(List.perm_middle (a:=o) (l₁:=eads pre) (l₂:=eads rows)).nodup_iff.2 (List.nodup_cons.2 ⟨hn,nd⟩)
  ·rw [e,List.mem_append,List.mem_cons]at hx
   have hl:=h.lt x;rw [zg,List.mem_append]at hl
   rcases hx with hx|rfl|hx
   ·have:=hl (.inl hx);omega
   ·omega
   ·have:=hl (.inr hx);omega
end Go.Ab
