/- MORE ON SLOTS: a slot that is lent to a call that only reads it; rows in slots that are appended and frozen there. -/
import Derived.Test.YtjlpbpfaihhamaaGreatBAbPy
set_option linter.unusedVariables false
set_option linter.unusedSimpArgs false
namespace Go.Ab
theorem zFH {s o:Nat} {cs:List PV}:∀vs:List PV,(sbs s o cs vs).length=vs.length
 | []=>rfl
 | v::vs=>by simp only [sbs,List.length_cons,zFH vs]
theorem Keep.sub {σ0 h:PHeap} (w:PWF σ0) (hk:Keep σ0 h) {s o:Nat} {cs:List PV} (hs:σ0.next≤s):Keep σ0 (h.sub s o cs):=
 ⟨hk.next,hk.top,fun t ht=>by
  simp only [PHeap.sub];rw [hk.obj t ht];cases hd:σ0.obj t with
  | none=>rfl
  | some b=>simp only [Option.map_some];rw [QQ hs (w.bel t b hd)]⟩
theorem PAcc.ne {b e n t:Nat} {h:PHeap} {v:PV} {cs:List PV} (a:PAcc b e h v n cs) (ht:h.next≤t) (off l:Nat) (c:Cap):v≠.sl t off l c:=by
 rcases a with ⟨rfl,_,_⟩|⟨s,cap,rfl,_,_,_,_,h5⟩
 ·exact fun e=>by cases e
 ·intro e
  simp only [PV.sl.injEq]at e
  omega
theorem PAcc.pos {b e n:Nat} {h:PHeap} {v:PV} {cs:List PV} (a:PAcc b e h v n cs) (hn:0<n):PSl b e h v n cs:=by
 rcases a with ⟨_,h0,_⟩|a
 ·omega
 ·exact a
theorem PAcc.low {b b' e n:Nat} {h:PHeap} {v:PV} {cs:List PV} (a:PAcc b e h v n cs) (hb:b'≤b):PAcc b' e h v n cs:=by
 rcases a with a|⟨s,cap,rfl,h1,h2,h3,h4,h5⟩
 ·exact .inl a
 ·exact .inr ⟨s,cap,rfl,h1,h2,h3,Nat.le_trans hb h4,h5⟩
theorem PAcc.appS {σb h:PHeap} {e bytes n m:Nat} {v x:PV} {rows news:List PV} {K:PV×PHeap→Prop} (hk:Keep σb h) (a:PAcc σb.next e h v n rows) (hx:plen x=some m) (hm:m≠0) (hf:Zv e h x m=some news) (hl:news.length=m*e)
  (h1:(n+m)*bytes≤140737488355328) (h2:n+m≤4611686018427387904)
  (k:∀v' h',Keep σb h'→PSl σb.next e h' v' (n+m) (rows++news)→(∀t,t<h.next→(∀off l c,v≠.sl t off l c)→h'.obj t=h.obj t)→(∀t,t<h.next→∀off l c,v'≠.sl t off l c)→h.next<h'.next→K (v',h')):optK (qo e bytes h v x) K:=by
 rw [Zw,hx];simp only [Option.bind_some];rw [if_neg hm,hf];simp only [Option.bind_some];have hn:=hk.next;have nw:∀t,t<h.next→∀(off l:Nat) (c:Cap) (m':Nat) (c':Cap),PV.sl h.next 0 m' c'≠.sl t off l c:=fun t ht off l c m' c' e=>by
  simp only [PV.sl.injEq]at e
  omega
 rcases a with ⟨rfl,rfl,rfl⟩|⟨t,c,rfl,hc,q2,q3,q4,q5⟩
 ·rw [zFR,if_pos ⟨by simpa using h1,by omega⟩]
  refine Zb rfl (k _ _ (hk.new _) ⟨_,_,by rw [Nat.zero_add],.inl rfl,by simp [PHeap.new],by simpa using hl,hn,by simp [PHeap.new]⟩ (fun t ht _=>?_) (fun t ht off l c=>nw t ht off l c _ _) (Nat.lt_succ_self _))
  rw [zH,if_neg (by omega)]
 ·rcases hc with rfl | rfl
  ·rw [Qj,if_pos ⟨h1,h2,rfl⟩,q2]
   simp only [Option.bind_some];rw [if_pos (by omega),List.drop_zero,List.take_of_length_le (by omega)]
   refine Zb rfl (k _ _ ((hk.kill q4).new _) ⟨_,_,rfl,.inl rfl,by simp [PHeap.new,PHeap.kill],by rw [List.length_append,q3,hl,Nat.add_mul],hn,by simp [PHeap.new,PHeap.kill]⟩ (fun u hu hne=>?_) (fun u hu off l c=>nw u hu off l c _ _) (Nat.lt_succ_self _))
   rw [zH,if_neg (by simp only [PHeap.kill];omega)]
   show(if u=t then none else _)=_
   rw [if_neg fun e=>hne 0 n _ (by rw [e])]
  ·rw [zAc,if_neg (by omega),if_pos ⟨h1,h2⟩,ZB q2,if_pos (by omega),List.drop_zero,List.take_of_length_le (by omega)]
   simp only [Option.map_some];refine Zb rfl (k _ _ (hk.new _) ⟨_,_,rfl,.inl rfl,by simp [PHeap.new],by rw [List.length_append,q3,hl,Nat.add_mul],hn,by simp [PHeap.new]⟩ (fun u hu hne=>?_) (fun u hu off l c=>nw u hu off l c _ _) (Nat.lt_succ_self _))
   rw [zH,if_neg (by omega)]
theorem PAcc.pushS {σb h:PHeap} {e bytes n:Nat} {v:PV} {rows news:List PV} {K:PV×PHeap→Prop} (hk:Keep σb h) (a:PAcc σb.next e h v n rows) (hl:news.length=e) (h1:(n+1)*bytes≤140737488355328) (h2:n+1≤4611686018427387904)
  (k:∀v' h',Keep σb h'→PSl σb.next e h' v' (n+1) (rows++news)→(∀t,t<h.next→(∀off l c,v≠.sl t off l c)→h'.obj t=h.obj t)→(∀t,t<h.next→∀off l c,v'≠.sl t off l c)→h.next<h'.next→K (v',h')):optK (qo e bytes (h.new news) v (.sl h.next 0 1 (.known 1))) K:=
 PAcc.appS (m:=1) (hk.new _) (a.keep (zC _ _)) rfl (by omega) (by rw [QE,if_neg (by omega),if_pos (Nat.le_refl _),Q4,if_pos rfl,if_pos (by omega),List.drop_zero,List.take_of_length_le (by omega)]) (by omega) h1 h2
  fun v' h' k1 k2 k3 k4 k5=>k v' h' k1 k2 (fun t ht hne=>by rw [k3 t (Nat.lt_succ_of_lt ht) hne,zH,if_neg (by omega)]) (fun t ht=>k4 t (Nat.lt_succ_of_lt ht)) (Nat.lt_trans (Nat.lt_succ_self _) k5)
theorem PSl.fzr {σb h:PHeap} {e n s:Nat} {v:PV} {cells cs:List PV} (w:PWF σb) (hk:Keep σb h) (a:PSl σb.next e h v n cells) (hs:σb.next≤s) (hne:∀off l c,v≠.sl s off l c) (o:Nat):
  Keep σb ((h.kill s).sub s o cs)∧PSl σb.next e ((h.kill s).sub s o cs) v n (sbs s o cs cells)∧sb s o cs v=v:=by
 obtain⟨t,c,rfl,q1,q2,q3,q4,q5⟩:=a;have hts:t≠s:=fun e=>hne 0 n c (by rw [e])
 refine⟨(hk.kill hs).sub w hs,⟨t,c,rfl,q1,?_,by rw [zFH];exact q3,q4,q5⟩,?_⟩
 ·simp only [PHeap.sub,PHeap.kill,if_neg hts,q2,Option.map_some]
 ·simp only [sb]
  rw [if_neg fun e=>hts e.1]
theorem zPs {s o l:Nat} {cap:Cap} {rows cs:List PV} (hb:Bels 0 rows) (hc:capOK cap l=true):sbs s o cs (rows++[.sl s 0 l cap])=rows++[.fz true (.sl o 0 l cap) l cs]:=by
 rw [zCM,QQ (Nat.zero_le _) hb];simp only [sbs,sb,hc,and_self,if_true]
end Go.Ab
