/- WHOSE FROZEN VALUES ARE: results that are their own memory; what marks write, and how it reads behind them. -/
import Derived.Test.YtjlpbpfaihhamaaGreatBAbPm
set_option linter.unusedVariables false
set_option linter.unusedSimpArgs false
namespace Go.Ab
variable {P:Program} {ι ι':Nat→Nat} {Z Z':Nat→Prop} {h h' h'':AHeap} {σ σ' σ0 σ1 σ2:PHeap} {n n' lo hi lo' hi' t t':Nat} {K:PV→PHeap→Prop} {L L':List (Nat×List PV)}
def isSl:AV→Bool
 | .sl _ _ _ _=>true
 | _=>false
mutual
def Wh:PV→Prop
 | .fz w a _ cs=>cs=[]∨(w=true∧isSl a=true∧Whs cs)
 | .fp _ cs=>cs=[]
 | .clo _ a b=>Whs a∧Whs b
 | .agg cs=>Whs cs
 | .tup cs=>Whs cs
 | _=>True
def Whs:List PV→Prop
 | []=>True
 | c::cs=>Wh c∧Whs cs
end
theorem qy:∀{cs:List PV},Whs cs↔∀c∈cs,Wh c
 | []=>by simp [Whs]
 | c::cs=>by simp [Whs,qy (cs:=cs)]
structure Own (lo hi:Nat) (v:PV):Prop where
 wh:Wh v
 nd:(ead v).Nodup
 lt:∀o∈ead v,lo≤o∧o<hi
structure Owns (lo hi:Nat) (cs:List PV):Prop where
 wh:Whs cs
 nd:(eads cs).Nodup
 lt:∀o∈eads cs,lo≤o∧o<hi
theorem Own.mono {v:PV} (h:Own lo hi v) (h1:lo'≤lo) (h2:hi≤hi'):Own lo' hi' v:=⟨h.wh,h.nd,fun o ho=>by have:=h.lt o ho;omega⟩
theorem Owns.mono {v:List PV} (h:Owns lo hi v) (h1:lo'≤lo) (h2:hi≤hi'):Owns lo' hi' v:=⟨h.wh,h.nd,fun o ho=>by have:=h.lt o ho;omega⟩
theorem Owns.nil (lo hi:Nat):Owns lo hi []:=⟨trivial,List.nodup_nil,fun o ho=>by cases ho⟩
theorem Owns.snoc {cs:List PV} {c:PV} (h:Owns lo t cs) (g:Own t hi c) (hl:lo≤t) (ht:t≤hi):Owns lo hi (cs++[c]):=by
 refine⟨qy.2 fun x hx=>?_,?_,fun o ho=>?_⟩
 ·rcases List.mem_append.1 hx with hx | hx
  ·exact qy.1 h.wh x hx
  ·rw [List.mem_singleton.1 hx];exact g.wh
 ·rw [qX,List.nodup_append]
  simp only [eads,List.append_nil];refine⟨h.nd,g.nd,fun a ha b hb e=>?_⟩
  have:=h.lt a ha
  have:=g.lt b hb
  omega
 ·rw [qX]at ho
  simp only [eads,List.append_nil,List.mem_append]at ho
  rcases ho with ho|ho
  ·have:=h.lt o ho;omega
  ·have:=g.lt o ho;omega
theorem Own.empty (lo hi:Nat) (w:Bool) (a:AV) (l:Nat):Own lo hi (.fz w a l []):=⟨.inl rfl,List.nodup_nil,fun o ho=>by cases ho⟩
theorem Owns.agg {cs:List PV} (h:Owns lo hi cs):Own lo hi (.agg cs):=⟨h.wh,h.nd,h.lt⟩
theorem Owns.fz {cs:List PV} {o l:Nat} {cap:Cap} (h:Owns lo hi cs) (h1:lo≤o) (h2:o<hi) (hn:o∉eads cs):Own lo hi (.fz true (.sl o 0 l cap) l cs):=by
 refine⟨.inr ⟨rfl,rfl,h.wh⟩,?_,fun x hx=>?_⟩
 ·unfold ead
  cases cs.isEmpty
  ·simp only [cond_false,List.singleton_append]
   exact List.nodup_cons.2 ⟨hn,h.nd⟩
  ·exact List.nodup_nil
 ·unfold ead at hx
  cases he:cs.isEmpty<;>rw [he]at hx
  ·simp only [cond_false,List.singleton_append,List.mem_cons]at hx
   rcases hx with rfl|hx
   ·exact⟨h1,h2⟩
   ·exact h.lt x hx
  ·cases hx
theorem zE6 (xs:List Int):eads (pis xs)=[]:=by
 induction xs with
 | nil=>rfl
 | cons x xs ih=>simp only [zEm,eads,ead,ih,List.append_nil]
theorem zKM (xs:List Int):Whs (pis xs):=by
 induction xs with
 | nil=>trivial
 | cons x xs ih=>exact⟨trivial,ih⟩
theorem Owns.pis (lo hi:Nat) (xs:List Int):Owns lo hi (pis xs):=⟨zKM xs,by rw [zE6];exact List.nodup_nil,fun o ho=>by rw [zE6]at ho;cases ho⟩
mutual
theorem zBo:∀{v:PV} {o:Nat},o∈ead v→o∈addrs v
 | .undef,o,ho | .bool _,o,ho | .int _ _,o,ho | .str _,o,ho | .nilp,o,ho | .nilf,o,ho | .ptr _ _,o,ho | .sl _ _ _ _,o,ho=>by simp [ead]at ho
 | .fz w a len cs,o,ho=>by
  unfold ead at ho
  cases he:cs.isEmpty<;>rw [he]at ho
  ·simp only [cond_false,List.mem_append]at ho
   have hc:o∈eads cs→o∈ZQ cs:=ZC;cases a<;>simp only [addrs,List.mem_cons,List.not_mem_nil,false_or,or_false]at ho ⊢<;>first | exact ho.imp id hc | skip
  ·cases ho
 | .fp a cs,o,ho=>by
  unfold ead at ho
  cases he:cs.isEmpty<;>rw [he]at ho
  ·simp only [cond_false,List.mem_append]at ho
   have hc:o∈eads cs→o∈ZQ cs:=ZC;cases a<;>simp only [addrs,he,Bool.false_eq_true,if_false,List.mem_append,List.mem_cons,List.not_mem_nil,false_or,or_false]at ho ⊢<;>first | exact ho.imp id hc | skip
  ·cases ho
 | .clo _ a b,o,ho=>by
  simp only [ead,addrs,List.mem_append]at ho ⊢
  exact ho.imp ZC ZC
 | .agg cs,o,ho=>ZC (cs:=cs) ho
 | .tup cs,o,ho=>ZC (cs:=cs) ho
theorem ZC:∀{cs:List PV} {o:Nat},o∈eads cs→o∈ZQ cs
 | [],o,ho=>by cases ho
 | c::cs,o,ho=>by
  simp only [eads,ZQ,List.mem_append]at ho ⊢
  exact ho.imp zBo ZC
end
theorem Gh.own {s l:Nat} {cap:Cap} {cs:List PV} (hk:Keep σ0 σ1) (hs:σ1.obj s=some cs) (h0:σ0.next≤s) (hb:Bels 0 cs) (hcap:capOK cap l=true) (ho:Owns σ0.top σ1.top cs)
  (k:∀o t,Own σ0.top t (.fz true (.sl o 0 l cap) l cs)→σ0.top≤t→K (.fz true (.sl o 0 l cap) l cs) (σ0.up t)):Gh σ0 K (.sl s 0 l cap) σ1:=
 Gh.finZ hk hs h0 hb hcap fun o h1 h2 t h3 h4=>k o t ((ho.mono (Nat.le_refl _) h4).fz h1 h3 fun hm=>h2 (ZC hm)) (Nat.le_trans hk.top h4)
theorem zA.fzT {f:FuncId} {args:List PV} {l e:Nat} {cs:List PV} (c:∀K':PV→PHeap→Prop,(∀cap,full e cap l→K' (.sl σ.next 0 l cap) (σ.new cs))→zA P f args σ K') (hb:Bels 0 cs) (ho:Owns σ.top σ.top cs)
  (k:∀o cap t,Own σ.top t (.fz true (.sl o 0 l cap) l cs)→σ.top≤t→K (.fz true (.sl o 0 l cap) l cs) (σ.up t)):zA P f args σ K:=
 zA.gh (c _ fun cap hc=>Gh.own (zC σ cs) (by simp [PHeap.new]) (Nat.le_refl _) hb hc.ok ho fun o t h1 h2=>k o cap t h1 h2)
theorem zA.fzIT {f:FuncId} {args:List PV} {xs:List Int} (c:∀K':PV→PHeap→Prop,ResI σ K' xs→zA P f args σ K') (k:∀v t,FI v xs→Own σ.top t v→σ.top≤t→K v (σ.up t)):zA P f args σ K:=
 zA.gh (c _ ⟨fun h0=>by subst h0;exact Gh.ret (k _ σ.top ⟨true,.nils,rfl⟩ (Own.empty _ _ _ _ _) (Nat.le_refl _)),fun cap hc=>Gh.own (zC σ _) (by simp [PHeap.new]) (Nat.le_refl _) (zo _ _) hc.ok (Owns.pis _ _ _) fun o t h1 h2=>k _ t ⟨true,_,rfl⟩ h1 h2⟩)
theorem PAcc.own {e:Nat} {v:PV} {cs:List PV} (hk:Keep σ σ1) (a:PAcc σ.next e σ1 v n cs) (hb:Bels 0 cs) (ho:Owns σ.top σ1.top cs)
  (k:∀a t,Own σ.top t (.fz true a n cs)→σ.top≤t→K (.fz true a n cs) (σ.up t)):Gh σ K v σ1:=by
 rcases a with ⟨rfl,rfl,rfl⟩|⟨s,cap,rfl,hc,q2,q3,q4,q5⟩
 ·exact Gh.fin0T hk hk.top trivial fun _=>k _ σ.top (Own.empty _ _ _ _ _) (Nat.le_refl _)
 ·exact Gh.own hk q2 q4 hb hc.ok ho fun o t h1 h2=>k _ t h1 h2
theorem zA.notop {f:FuncId} {args:List PV} {p:PV→Nat→Prop} (c:∀K':PV→PHeap→Prop,(∀v t,Bel σ.next v→p v t→σ.top≤t→K' v (σ.up t))→zA P f args σ K') (k:∀v t,p v t→K v σ):zA P f args σ K:=
 zA.gh (c _ fun v t hb hp ht=>Gh.fin0 (Keep.up (Keep.refl σ) ht) hb (k v t hp))
mutual
theorem Qv:∀{v:PV},(∀o∈ead v,L.lookup o=L'.lookup o)→rm L v=rm L' v
 | .undef,_ | .bool _,_ | .int _ _,_ | .str _,_ | .nilp,_ | .nilf,_ | .ptr _ _,_ | .mref _,_ | .sl _ _ _ _,_=>rfl
 | .fz w a len cs,h=>by
  unfold rm;cases he:cs.isEmpty
  ·simp only [cond_false]
   cases a<;>try rfl
   rename_i o off l cap
   simp only [ead,he,cond_false,List.mem_cons]at h
   have hc:=QD (cs:=cs) fun o ho=>h o (.inr ho)
   simp only [hc,h o (.inl rfl)]
  ·rfl
 | .fp a cs,h=>by
  unfold rm;cases he:cs.isEmpty
  ·simp only [cond_false]
   cases a<;>try rfl
   rename_i o i
   simp only [ead,he,cond_false,List.mem_cons]at h
   have hc:=QD (cs:=cs) fun o ho=>h o (.inr ho)
   simp only [hc,h o (.inl rfl)]
  ·rfl
 | .clo f a b,h=>by
  simp only [ead,List.mem_append]at h
  simp only [rm,QD (cs:=a) fun o ho=>h o (.inl ho),QD (cs:=b) fun o ho=>h o (.inr ho)]
 | .agg cs,h=>by simp only [rm,QD (cs:=cs) h]
 | .tup cs,h=>by simp only [rm,QD (cs:=cs) h]
theorem QD:∀{cs:List PV},(∀o∈eads cs,L.lookup o=L'.lookup o)→rms L cs=rms L' cs
 | [],_=>rfl
 | c::cs,h=>by
  simp only [eads,List.mem_append]at h
  simp only [rms,Qv (v:=c) fun o ho=>h o (.inl ho),QD (cs:=cs) fun o ho=>h o (.inr ho)]
end
theorem zBH {v:PV} (hk:∀o∈L.map Prod.fst,o∉ead v):rm L v=v:=rm_id fun o ho=>qh.2 fun hm=>hk o hm ho
theorem ZF {v:PV} (hk:∀o∈L.map Prod.fst,lo≤o∧o<hi) (hv:∀o∈ead v,o<lo∨hi≤o):rm L v=v:=zBH fun o ho hm=>by have:=hk o ho;have:=hv o hm;omega
def seqI (k:Int):Nat→List Int
 | 0=>[]
 | n+1=>k::seqI (k+1) n
theorem Z5 (n:Nat):∀k,(seqI k n).length=n:=by
 induction n with
 | zero=>intro k;rfl
 | succ n ih=>intro k;simp [seqI,ih]
theorem zHc (n:Nat):∀(k:Int) (i:Nat) (hi:i<(seqI k n).length),(seqI k n)[i]=k+i:=by
 induction n with
 | zero=>intro k i hi;simp [seqI]at hi
 | succ n ih=>
  intro k i hi;cases i with
  | zero=>simp [seqI]
  | succ i=>simp only [seqI,List.getElem_cons_succ];rw [ih];omega
theorem zQV {α:Type} (ys xs:List α) {i:Nat} (hi:i<xs.length) (hy:i<ys.length):(ys.take i++xs.drop i).set i ys[i]=ys.take (i+1)++xs.drop (i+1):=by
 have h1:(ys.take i).length=i:=by rw [List.length_take];omega
 rw [List.set_append,if_neg (by omega),h1,Nat.sub_self,List.drop_eq_getElem_cons hi,List.set_cons_zero,List.take_succ_eq_append_getElem hy,List.append_assoc,List.singleton_append]
def aof:PV→Nat
 | .fz _ (.sl o _ _ _) _ _=>o
 | _=>0
def rowsOf:PV→List PV
 | .fz _ _ _ rows=>rows
 | _=>[]
def mkI (k:Int) (v:PV) (xs:List Int):List (Nat×List PV):=if xs=[]then []else [(aof v,pis (seqI k xs.length))]
def mkS {α:Type} (mk:Int→PV→α→List (Nat×List PV)) (len:α→Nat):Int→List PV→List α→List (Nat×List PV)
 | k,v::rows,x::xs=>mk k v x++mkS mk len (k+len x) rows xs
 | _,_,_=>[]
def mkF {α:Type} (mk:Int→PV→α→List (Nat×List PV)) (len:α→Nat) (k:Int) (v:PV) (xs:List α):List (Nat×List PV):=mkS mk len k (rowsOf v) xs
def totL {α:Type} (len:α→Nat) (xs:List α):Nat:=(xs.map len).sum
def sqL {α:Type} (sq:Int→α→α) (len:α→Nat):Int→List α→List α
 | _,[]=>[]
 | k,x::xs=>sq k x::sqL sq len (k+len x) xs
def sqI (k:Int) (xs:List Int):List Int:=seqI k xs.length
theorem zCE {α:Type} (len:α→Nat):totL len []=0:=rfl
theorem zCy {α:Type} (len:α→Nat) (x:α) (xs:List α):totL len (x::xs)=len x+totL len xs:=by simp [totL]
theorem zBe {α:Type} {len:α→Nat} {xs:List α} {i:Nat} (hi:i<xs.length):totL len (xs.take (i+1))=totL len (xs.take i)+len xs[i]:=by
 rw [List.take_succ_eq_append_getElem hi];simp only [totL,List.map_append,List.sum_append,List.map_cons,List.map_nil,List.sum_cons,List.sum_nil];omega
theorem zDk {α:Type} (len:α→Nat) (xs:List α) (i:Nat):totL len (xs.take i)≤totL len xs:=by
 have:totL len xs=totL len (xs.take i)+totL len (xs.drop i):=by
  conv=>lhs;rw [←List.take_append_drop i xs]
  simp only [totL,List.map_append,List.sum_append]
 omega
theorem zF8 {α:Type} {len:α→Nat} {m:Nat}:∀{xs:List α},(∀x∈xs,len x≤m)→totL len xs≤xs.length*m
 | [],_=>by simp [totL]
 | x::xs,h=>by
  have h1:=zF8 (xs:=xs) fun y hy=>h y (by simp [hy])
  have h2:=h x (by simp)
  rw [zCy,List.length_cons,Nat.add_mul];omega
theorem Q9 {α:Type} (sq:Int→α→α) (len:α→Nat):∀(xs:List α) (k:Int),(sqL sq len k xs).length=xs.length
 | [],_=>rfl
 | x::r,k=>by simp [sqL,Q9 sq len r]
theorem zF9 {α:Type} (sq:Int→α→α) (len:α→Nat):∀(xs:List α) (k:Int) (i:Nat) (hi:i<xs.length),(sqL sq len k xs)[i]'(by rw [Q9];exact hi)=sq (k+totL len (xs.take i)) xs[i]
 | [],k,i,hi=>by simp at hi
 | x::r,k,0,hi=>by simp [sqL,totL]
 | x::r,k,i+1,hi=>by
  simp only [sqL,List.getElem_cons_succ,List.take_succ_cons];rw [zF9 sq len r (k+len x) i (by simpa using hi),zCy]
  congr 1
  omega
structure MkT {α:Type} (R:PV→α→Prop) (mk:Int→PV→α→List (Nat×List PV)) (len:α→Nat) (sq:Int→α→α):Prop where
 keys:∀{k:Int} {v:PV} {x:α},R v x→Wh v→∀o∈(mk k v x).map Prod.fst,o∈ead v
 rd:∀{k:Int} {v:PV} {x:α},R v x→Wh v→(ead v).Nodup→R (rm (mk k v x) v) (sq k x)
theorem VOK.whole {w:Bool} {a:AV} {cs:List PV} (hv:VOK Z h n (.fz w a n' cs)) (hw:w=true) (hne:cs≠[]):∃o cap,a=.sl o 0 n' cap∧h.obj o=some ⟨true,ers idz cs⟩∧Z o:=by
 obtain⟨rfl,_,h0⟩|⟨o,off,cap,rfl,h1,h2,h3,h4⟩:=hv.1
 ·cases cs with
  | nil=>exact absurd rfl hne
  | cons c cs=>simp [ers]at h0
 ·obtain⟨rfl,ho⟩:=h4 hw
  exact⟨o,cap,rfl,ho,h1⟩
theorem zAf {xs:List Int} (h:xs≠[]):pis xs≠[]:=fun e=>h (List.eq_nil_of_length_eq_zero (by rw [←qK,e];rfl))
theorem zFl {α:Type} {cs:List α} (h:cs≠[]):cs.isEmpty=false:=by cases cs;exact absurd rfl h;rfl
theorem rm_fz {w:Bool} {o off l n:Nat} {cap:Cap} {cs:List PV} (hne:cs≠[]):rm L (.fz w (.sl o off l cap) n cs)=match L.lookup o with
   | some ms=>bif w then .fz true (.sl o off l cap) n ms else .fp (.sl o off l cap) []
   | none=>.fz w (.sl o off l cap) n (rms L cs):=by
 rw [rm,zFl hne];rfl
theorem QB {w:Bool} {o off l n:Nat} {cap:Cap} {cs:List PV} (hne:cs≠[]):ead (.fz w (.sl o off l cap) n cs)=o::eads cs:=by
 rw [ead,zFl hne];rfl
theorem zDt {a:AV} (h:isSl a=true):∃o off l cap,a=.sl o off l cap:=by cases a<;>first | exact⟨_,_,_,_,rfl⟩ | cases h
theorem mkT_I:MkT FI mkI List.length sqI where
 keys:=by
  rintro k v xs ⟨w,a,rfl⟩ hW o ho
  unfold mkI at ho
  split at ho
  ·cases ho
  ·rename_i hne
   obtain⟨hw,hs,_⟩:=hW.resolve_left (zAf hne);obtain⟨o',off,l',cap,rfl⟩:=zDt hs;rw [QB (zAf hne)];simp only [aof,List.map_cons,List.map_nil,List.mem_singleton]at ho
   subst ho;exact List.mem_cons_self ..
 rd:=by
  rintro k v xs ⟨w,a,rfl⟩ hW hnd
  unfold mkI
  split
  ·rename_i he
   subst he;exact⟨w,a,rfl⟩
  ·rename_i hne
   obtain⟨hw,hs,_⟩:=hW.resolve_left (zAf hne);obtain⟨o',off,l',cap,rfl⟩:=zDt hs;subst hw;rw [rm_fz (zAf hne)];simp only [aof,List.lookup_cons,beq_self_eq_true,cond_true];exact⟨true,_,by rw [sqI,Z5]⟩
variable {α:Type} {R:PV→α→Prop} {mk:Int→PV→α→List (Nat×List PV)} {len:α→Nat} {sq:Int→α→α}
theorem All2.tl {β γ:Type} {R:β→γ→Prop} {a:β} {as:List β} {b:γ} {bs:List γ} (h:All2 R (a::as) (b::bs)):R a b∧All2 R as bs:=
 ⟨h.2 0 a b rfl rfl,by have:=h.1;simpa using this,fun k x y hx hy=>h.2 (k+1) x y (by simpa using hx) (by simpa using hy)⟩
theorem MkT.keysS (M:MkT R mk len sq):∀{rows:List PV} {xs:List α} {k:Int},All2 R rows xs→Whs rows→∀o∈(mkS mk len k rows xs).map Prod.fst,o∈eads rows
 | [],xs,k,_,_,o,ho=>by simp [mkS]at ho
 | v::rows,[],k,hr,_,o,ho=>by have:=hr.1;simp at this
 | v::rows,x::xs,k,hr,hW,o,ho=>by
  obtain⟨h1,h2⟩:=hr.tl;simp only [mkS,List.map_append,List.mem_append]at ho
  simp only [eads,List.mem_append];exact ho.imp (M.keys h1 hW.1 o) (M.keysS h2 hW.2 o)
theorem zAw {o:Nat} (ho:o∉L'.map Prod.fst):(L++L').lookup o=L.lookup o:=by rw [zAx,qh.2 ho,Option.or_none]
theorem Qm {o:Nat} (ho:o∉L.map Prod.fst):(L++L').lookup o=L'.lookup o:=by rw [zAx,qh.2 ho,Option.none_or]
theorem MkT.rdS (M:MkT R mk len sq):∀{rows:List PV} {xs:List α} {k:Int},All2 R rows xs→Whs rows→(eads rows).Nodup→All2 R (rms (mkS mk len k rows xs) rows) (sqL sq len k xs)
 | [],[],k,_,_,_=>All2.nil _
 | [],x::xs,k,hr,_,_=>by have:=hr.1;simp at this
 | v::rows,[],k,hr,_,_=>by have:=hr.1;simp at this
 | v::rows,x::xs,k,hr,hW,hnd=>by
  obtain⟨h1,h2⟩:=hr.tl;simp only [eads,List.nodup_append]at hnd
  obtain⟨n1,n2,n3⟩:=hnd;have e1:rm (mkS mk len k (v::rows) (x::xs)) v=rm (mk k v x) v:=Qv fun o ho=>zAw fun hm=>n3 o ho o (M.keysS h2 hW.2 o hm) rfl
  have e2:rms (mkS mk len k (v::rows) (x::xs)) rows=rms (mkS mk len (k+len x) rows xs) rows:=QD fun o ho=>Qm fun hm=>n3 o (M.keys h1 hW.1 o hm) o ho rfl
  simp only [rms,sqL];rw [e1,e2];exact All2.cons (M.rdS h2 hW.2 n2) (M.rd h1 hW.1 n1)
theorem All2.nil_iff {β γ:Type} {R:β→γ→Prop} {as:List β} {bs:List γ} (h:All2 R as bs):as=[]↔bs=[]:=
 ⟨fun e=>List.eq_nil_of_length_eq_zero (by rw [←h.1,e];rfl),fun e=>List.eq_nil_of_length_eq_zero (by rw [h.1,e];rfl)⟩
theorem MkT.F (M:MkT R mk len sq):MkT (FL R) (mkF mk len) (totL len) (sqL sq len) where
 keys:=by
  rintro k v xs ⟨w,a,rows,rfl,hr⟩ hW o ho
  by_cases hne:rows=[]
  ·subst hne
   simp [mkF,rowsOf,mkS]at ho
  ·obtain⟨hw,hs,hWs⟩:=hW.resolve_left hne
   obtain⟨o',off,l',cap,rfl⟩:=zDt hs;rw [QB hne];exact List.mem_cons_of_mem _ (M.keysS hr hWs o ho)
 rd:=by
  rintro k v xs ⟨w,a,rows,rfl,hr⟩ hW hnd
  by_cases hne:rows=[]
  ·subst hne
   have:=hr.nil_iff.1 rfl
   subst this;exact⟨w,a,[],rfl,All2.nil _⟩
  ·obtain⟨hw,hs,hWs⟩:=hW.resolve_left hne
   obtain⟨o',off,l',cap,rfl⟩:=zDt hs;rw [QB hne]at hnd
   obtain⟨h1,h2⟩:=List.nodup_cons.1 hnd;have hl:(mkF mk len k (.fz w (.sl o' off l' cap) xs.length rows) xs).lookup o'=none:=qh.2 fun hm=>h1 (M.keysS hr hWs o' hm)
   rw [rm_fz hne,hl];exact⟨w,.sl o' off l' cap,rms (mkS mk len k rows xs) rows,by rw [Q9];rfl,M.rdS hr hWs h2⟩
theorem zKB (k:Int) (xs:List α):mkS mk len k [] xs=[]:=by simp [mkS]
theorem zH7:∀{rows:List PV} {xs:List α} {k:Int} {i:Nat} {v:PV} (hi:i<xs.length),rows[i]? = some v→mkS mk len k (rows.take (i+1)) (xs.take (i+1))=mkS mk len k (rows.take i) (xs.take i)++mk (k+totL len (xs.take i)) v xs[i]
 | [],xs,k,i,v,hi,hv=>by simp at hv
 | r::rows,[],k,i,v,hi,hv=>by simp at hi
 | r::rows,x::xs,k,0,v,hi,hv=>by
  simp only [List.getElem?_cons_zero,Option.some.injEq]at hv
  subst hv;simp [mkS,totL]
 | r::rows,x::xs,k,i+1,v,hi,hv=>by
  simp only [List.getElem?_cons_succ]at hv
  simp only [List.take_succ_cons,mkS,List.getElem_cons_succ];rw [zH7 (by simpa using hi) hv,zCy,List.append_assoc]
  congr 3
  omega
theorem Whs.get {rows:List PV} (h:Whs rows) {i:Nat} {v:PV} (hv:rows[i]? = some v):Wh v:=qy.1 h v (List.mem_of_getElem? hv)
theorem zNL {rows:List PV} {i:Nat} {v:PV} (hv:rows[i]? = some v) (hnd:(eads rows).Nodup):(ead v).Nodup∧∀o∈eads (rows.take i),o∉ead v:=by
 have hi:=(List.getElem?_eq_some_iff.1 hv).1;have hg:rows[i]=v:=(List.getElem?_eq_some_iff.1 hv).2;have e:rows=rows.take i++v::rows.drop (i+1):=by
  conv=>lhs;rw [←List.take_append_drop i rows]
  rw [List.drop_eq_getElem_cons hi,hg]
 rw [e,qX,List.nodup_append]at hnd
 simp only [eads,List.nodup_append]at hnd
 exact⟨hnd.2.1.1,fun o ho hm=>hnd.2.2 o ho o (List.mem_append.2 (.inl hm)) rfl⟩
theorem zGp {rows:List PV} {i o:Nat} (ho:o∈eads (rows.take i)):o∈eads rows:=by
 obtain⟨c,hc,ho⟩:=zEq.1 ho;exact zEq.2 ⟨c,List.mem_of_mem_take hc,ho⟩
theorem MkT.step (M:MkT R mk len sq) {rows:List PV} {xs:List α} {k:Int} (hr:All2 R rows xs) (hW:Whs rows) (hnd:(eads rows).Nodup) (hv:VOKs (zlt h) h 0 rows) {i:Nat} (hi:i<xs.length)
  (u:Upd h (mkS mk len k (rows.take i) (xs.take i)) h'):∃v,rows[i]? = some v∧R v xs[i]∧Wh v∧(ead v).Nodup∧VOK (zlt h') h' 0 v∧
   ∀h'',Upd h' (mk (k+totL len (xs.take i)) v xs[i]) h''→Upd h (mkS mk len k (rows.take (i+1)) (xs.take (i+1))) h'':=by
 obtain⟨v,h1,h2⟩:=hr.get hi;obtain⟨n1,n2⟩:=zNL h1 hnd;have hWi:Whs (rows.take i):=qy.2 fun c hc=>qy.1 hW c (List.mem_of_mem_take hc)
 have hk:∀o∈(mkS mk len k (rows.take i) (xs.take i)).map Prod.fst,o∈eads (rows.take i):=M.keysS (hr.take i) hWi
 have hvv:=hv.get h1;have hv':VOK (zlt h) h' 0 v:=by
  have:=zAd u (fun o ho=>ho) hvv
  rwa [zBH fun o ho hm=>n2 o (hk o ho) hm]at this
 refine⟨v,h1,h2,hW.get h1,n1,hv'.mono (fun o ho=>⟨Nat.lt_of_lt_of_le ho u.next,rfl⟩) (Nat.le_refl _),fun h'' u'=>?_⟩
 rw [zH7 hi h1];have hk2:=M.keys (k:=k+totL len (xs.take i)) h2 (hW.get h1);exact u.trans u' (fun o ho hm=>n2 o (hk o ho) (hk2 o hm)) fun o ho=>ead_z hvv o (hk2 o ho)
theorem Qr.of {f:FuncId} {v:PV} {k r:Int} (hb:Bel 0 v) (hkeys:∀o∈L.map Prod.fst,o∈ead v)
  (hA:∀h,HWF h→VOK (zlt h) h 0 v→qj P f [er idz v,.int .i64 k] h fun x h'=>x=.int .i64 r∧Upd h L h'):Qr P f [v,.int .i64 k] σ L .i64 r:=by
 intro ι Z h rl va;have hv0:VOK Z h 0 v:=va.1.of_bel hb;have hvz:VOK (zlt h) h 0 v:=hv0.mono (fun o ho=>⟨rl.zlt o ho,rfl⟩) (Nat.le_refl _)
 refine⟨fun o ms hl=>ead_z hv0 o (hkeys o ?_),?_⟩
 ·by_cases hm:o∈L.map Prod.fst
  ·exact hm
  ·rw [qh.2 hm]at hl;cases hl
 ·have:=hA h rl.hwf hvz
  rw [←zDU (ι:=ι) hv0]at this
  exact this
theorem CallM.mark' {f:FuncId} {args:List IX} {args':List PV} {e:PEnv} {KM:PEnv→PV→PHeap→Prop} {k:IntKind} {r:Int} (ha:args.map (·.pv e)=args') (c:Qr P f args' σ L k r) (hk:KM (fun t=>rm L (e t)) (.int k r) (σ.rmap L)):CallM P f args e σ KM:=
 .mark (ha ▸ c) hk
end Go.Ab
