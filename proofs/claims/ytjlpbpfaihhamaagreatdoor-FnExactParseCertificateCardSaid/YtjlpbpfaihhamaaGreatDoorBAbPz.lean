/- MORE ON SLOTS: a slot that is lent to a call that only reads it; rows in slots that are appended and frozen there. -/
import Derived.Test.YtjlpbpfaihhamaaGreatDoorBAbPy
set_option linter.unusedVariables false
set_option linter.unusedSimpArgs false
namespace Go.Ab
theorem PAcc.ne' {b e n t:Nat} {h:PHeap} {v:PV} {cs:List PV} (a:PAcc b e h v n cs) (ht:t<b) (off l:Nat) (c:Cap):v≠.sl t off l c:=by
 rcases a with ⟨rfl,_,_⟩|⟨s,cap,rfl,_,_,_,h4,_⟩
 ·exact fun e=>by cases e
 ·intro e
  simp only [PV.sl.injEq]at e
  omega
theorem PAcc.pos {b e n:Nat} {h:PHeap} {v:PV} {cs:List PV} (a:PAcc b e h v n cs) (hn:0<n):PSl b e h v n cs:=by
 rcases a with ⟨_,h0,_⟩|a
 ·omega
 ·exact a
theorem PAcc.low {b b' e n:Nat} {h:PHeap} {v:PV} {cs:List PV} (a:PAcc b e h v n cs) (hb:b'≤b):PAcc b' e h v n cs:=by
 rcases a with a|⟨s,cap,rfl,h1,h2,h3,h4,h5⟩
 ·exact .inl a
 ·exact .inr ⟨s,cap,rfl,h1,h2,h3,Nat.le_trans hb h4,h5⟩
theorem PSl.high {b b' e n:Nat} {h:PHeap} {v:PV} {cs:List PV} (a:PSl b e h v n cs) (hb:∀t,t<b'→∀off l c,v≠.sl t off l c):PSl b' e h v n cs:=by
 obtain⟨s,cap,rfl,h1,h2,h3,h4,h5⟩:=a;refine⟨s,cap,rfl,h1,h2,h3,?_,h5⟩;rcases Nat.lt_or_ge s b' with x|x
 ·exact absurd rfl (hb s x 0 n cap)
 ·exact x
theorem PAcc.appS {σb h:PHeap} {e bytes n m:Nat} {v x:PV} {rows news:List PV} {K:PV×PHeap→Prop} (hk:Keep σb h) (a:PAcc σb.next e h v n rows) (hx:plen x=some m) (hm:m≠0) (hf:Zr e h x m=some news) (hl:news.length=m*e)
  (h1:(n+m)*bytes≤140737488355328) (h2:n+m≤4611686018427387904)
  (k:∀v' h',Keep σb h'→PSl σb.next e h' v' (n+m) (rows++news)→(∀t,t<h.next→(∀off l c,v≠.sl t off l c)→h'.obj t=h.obj t)→(∀t,t<h.next→∀off l c,v'≠.sl t off l c)→h.next<h'.next→K (v',h')):optK (qd e bytes h v x) K:=by
 rw [zBW,hx];simp only [Option.bind_some];rw [if_neg hm,hf];simp only [Option.bind_some];have hn:=hk.next;have nw:∀t,t<h.next→∀(off l:Nat) (c:Cap) (m':Nat) (c':Cap),PV.sl h.next 0 m' c'≠.sl t off l c:=fun t ht off l c m' c' e=>by
  simp only [PV.sl.injEq]at e
  omega
 rcases a with ⟨rfl,rfl,rfl⟩|⟨t,c,rfl,hc,q2,q3,q4,q5⟩
 ·rw [zDo,if_pos ⟨by simpa using h1,by omega⟩]
  refine Zz rfl (k _ _ (hk.new _) ⟨_,_,by rw [Nat.zero_add],.inl rfl,by simp [PHeap.new],by simpa using hl,hn,by simp [PHeap.new]⟩ (fun t ht _=>?_) (fun t ht off l c=>nw t ht off l c _ _) (Nat.lt_succ_self _))
  rw [zT,if_neg (by omega)]
 ·rcases hc with rfl | rfl
  ·rw [zCu,if_pos ⟨h1,h2,rfl⟩,q2]
   simp only [Option.bind_some];rw [if_pos (by omega),List.drop_zero,List.take_of_length_le (by omega)]
   refine Zz rfl (k _ _ ((hk.kill q4).new _) ⟨_,_,rfl,.inl rfl,by simp [PHeap.new,PHeap.kill],by rw [List.length_append,q3,hl,Nat.add_mul],hn,by simp [PHeap.new,PHeap.kill]⟩ (fun u hu hne=>?_) (fun u hu off l c=>nw u hu off l c _ _) (Nat.lt_succ_self _))
   rw [zT,if_neg (by simp only [PHeap.kill];omega)]
   show(if u=t then none else _)=_
   rw [if_neg fun e=>hne 0 n _ (by rw [e])]
  ·rw [zCt,if_neg (by omega),if_pos ⟨h1,h2⟩,Z9 q2,if_pos (by omega),List.drop_zero,List.take_of_length_le (by omega)]
   simp only [Option.map_some];refine Zz rfl (k _ _ (hk.new _) ⟨_,_,rfl,.inl rfl,by simp [PHeap.new],by rw [List.length_append,q3,hl,Nat.add_mul],hn,by simp [PHeap.new]⟩ (fun u hu hne=>?_) (fun u hu off l c=>nw u hu off l c _ _) (Nat.lt_succ_self _))
   rw [zT,if_neg (by omega)]
theorem PAcc.pushS {σb h:PHeap} {e bytes n:Nat} {v:PV} {rows news:List PV} {K:PV×PHeap→Prop} (hk:Keep σb h) (a:PAcc σb.next e h v n rows) (hl:news.length=e) (h1:(n+1)*bytes≤140737488355328) (h2:n+1≤4611686018427387904)
  (k:∀v' h',Keep σb h'→PSl σb.next e h' v' (n+1) (rows++news)→(∀t,t<h.next→(∀off l c,v≠.sl t off l c)→h'.obj t=h.obj t)→(∀t,t<h.next→∀off l c,v'≠.sl t off l c)→h.next<h'.next→K (v',h')):optK (qd e bytes (h.new news) v (.sl h.next 0 1 (.known 1))) K:=
 PAcc.appS (m:=1) (hk.new _) (a.keep (zD _ _)) rfl (by omega) (by rw [Qr,if_neg (by omega),if_pos (Nat.le_refl _),zBF,if_pos rfl,if_pos (by omega),List.drop_zero,List.take_of_length_le (by omega)]) (by omega) h1 h2
  fun v' h' k1 k2 k3 k4 k5=>k v' h' k1 k2 (fun t ht hne=>by rw [k3 t (Nat.lt_succ_of_lt ht) hne,zT,if_neg (by omega)]) (fun t ht=>k4 t (Nat.lt_succ_of_lt ht)) (Nat.lt_trans (Nat.lt_succ_self _) k5)
end Go.Ab
