/- MORE ON SLOTS: a slot that is lent to a call that only reads it; rows in slots that are appended and frozen there. -/
import Derived.Test.YtkhbdmlhjnijaaaGreatAAbPy
set_option linter.unusedVariables false
set_option linter.unusedSimpArgs false
namespace Go.Ab
theorem Keep.sub {σ0 h:PHeap} (w:PWF σ0) (hk:Keep σ0 h) {s o:Nat} {cs:List PV} (hs:σ0.next≤s):Keep σ0 (h.sub s o cs):=
 ⟨hk.next,hk.top,fun t ht=>by
  simp only [PHeap.sub];rw [hk.obj t ht];cases hd:σ0.obj t with
  | none=>rfl
  | some b=>simp only [Option.map_some];rw [Z8 hs (w.bel t b hd)]⟩
theorem PAcc.ne {b e n t:Nat} {h:PHeap} {v:PV} {cs:List PV} (a:PAcc b e h v n cs) (ht:h.next≤t) (off l:Nat) (c:Cap):v≠.sl t off l c:=by
 rcases a with ⟨rfl,_,_⟩|⟨s,cap,rfl,_,_,_,_,h5⟩
 ·exact fun e=>by cases e
 ·intro e
  simp only [PV.sl.injEq]at e
  omega
theorem PAcc.appS {σb h:PHeap} {e bytes n m:Nat} {v x:PV} {rows news:List PV} {K:PV×PHeap→Prop} (hk:Keep σb h) (a:PAcc σb.next e h v n rows) (hx:plen x=some m) (hm:m≠0) (hf:Ze e h x m=some news) (hl:news.length=m*e)
  (h1:(n+m)*bytes≤140737488355328) (h2:n+m≤4611686018427387904)
  (k:∀v' h',Keep σb h'→PSl σb.next e h' v' (n+m) (rows++news)→(∀t,t<h.next→(∀off l c,v≠.sl t off l c)→h'.obj t=h.obj t)→(∀t,t<h.next→∀off l c,v'≠.sl t off l c)→h.next<h'.next→K (v',h')):optK (ZC e bytes h v x) K:=by
 rw [Z9,hx];simp only [Option.bind_some];rw [if_neg hm,hf];simp only [Option.bind_some];have hn:=hk.next;have nw:∀t,t<h.next→∀(off l:Nat) (c:Cap) (m':Nat) (c':Cap),PV.sl h.next 0 m' c'≠.sl t off l c:=fun t ht off l c m' c' e=>by
  simp only [PV.sl.injEq]at e
  omega
 rcases a with ⟨rfl,rfl,rfl⟩|⟨t,c,rfl,hc,q2,q3,q4,q5⟩
 ·rw [zDc,if_pos ⟨by simpa using h1,by omega⟩]
  refine ZO rfl (k _ _ (hk.new _) ⟨_,_,by rw [Nat.zero_add],.inl rfl,by simp [PHeap.new],by simpa using hl,hn,by simp [PHeap.new]⟩ (fun t ht _=>?_) (fun t ht off l c=>nw t ht off l c _ _) (Nat.lt_succ_self _))
  rw [ZG,if_neg (by omega)]
 ·rcases hc with rfl | rfl
  ·rw [Qq,if_pos ⟨h1,h2,rfl⟩,q2]
   simp only [Option.bind_some];rw [if_pos (by omega),List.drop_zero,List.take_of_length_le (by omega)]
   refine ZO rfl (k _ _ ((hk.kill q4).new _) ⟨_,_,rfl,.inl rfl,by simp [PHeap.new,PHeap.kill],by rw [List.length_append,q3,hl,Nat.add_mul],hn,by simp [PHeap.new,PHeap.kill]⟩ (fun u hu hne=>?_) (fun u hu off l c=>nw u hu off l c _ _) (Nat.lt_succ_self _))
   rw [ZG,if_neg (by simp only [PHeap.kill];omega)]
   show(if u=t then none else _)=_
   rw [if_neg fun e=>hne 0 n _ (by rw [e])]
  ·rw [Qp,if_neg (by omega),if_pos ⟨h1,h2⟩,Zw q2,if_pos (by omega),List.drop_zero,List.take_of_length_le (by omega)]
   simp only [Option.map_some];refine ZO rfl (k _ _ (hk.new _) ⟨_,_,rfl,.inl rfl,by simp [PHeap.new],by rw [List.length_append,q3,hl,Nat.add_mul],hn,by simp [PHeap.new]⟩ (fun u hu hne=>?_) (fun u hu off l c=>nw u hu off l c _ _) (Nat.lt_succ_self _))
   rw [ZG,if_neg (by omega)]
end Go.Ab
