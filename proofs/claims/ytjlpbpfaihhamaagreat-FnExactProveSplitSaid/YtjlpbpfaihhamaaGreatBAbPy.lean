/- WHAT A VALUE READS AS; rules that look only at what comes next; loops. -/
import Derived.Test.YtjlpbpfaihhamaaGreatBAbPw
set_option linter.unusedVariables false
set_option linter.unusedSimpArgs false
namespace Go.Ab
section
variable {P:Program}
@[congr] theorem cg_vp {c:IC} {Q:Exit→PEnv→PHeap→Prop} {e e':PEnv} {h h':PHeap} (h1:nm e=e') (h2:h=h'):vp P c Q e h=vp P c Q e' h':=by rw [nm_eq]at h1;rw [h1,h2]
@[congr] theorem zSO {t:OT} {recs recs':List RecP} {K:PEnv→PHeap→Prop} {e e':PEnv} {h h':PHeap} (h0:recs=recs') (h1:nm e=e') (h2:h=h'):TVp P t recs e h K=TVp P t recs' e' h' K:=by rw [nm_eq]at h1;rw [h0,h1,h2]
@[congr] theorem zSP {its:List II} {K:PEnv→PHeap→Prop} {e e':PEnv} {h h':PHeap} (h1:nm e=e') (h2:h=h'):RVp P its e h K=RVp P its e' h' K:=by rw [nm_eq]at h1;rw [h1,h2]
@[congr] theorem zSR {nb nb' nr nr':Nat} {its:List DI} {recs recs':List RecP} {K:PEnv→PHeap→Prop} {e e':PEnv} {h h':PHeap} (h0:nm nb=nb') (h4:nr=nr') (h1:recs=recs') (h2:e=e') (h3:h=h'):DVp P nb nr its recs e h K=DVp P nb' nr' its recs' e' h' K:=by rw [nm_eq]at h0;rw [h0,h1,h2,h3,h4]
@[congr] theorem zSL {it:II} {K:PV→PHeap→Prop} {e e':PEnv} {h h':PHeap} (h1:nm e=e') (h2:h=h'):gep P it e h K=gep P it e' h' K:=by rw [nm_eq]at h1;rw [h1,h2]
@[congr] theorem cg_ep {op:IOp} {K:PV→PHeap→Prop} {e e':PEnv} {h h':PHeap} (h1:nm e=e') (h2:h=h'):ep P op e h K=ep P op e' h' K:=by rw [nm_eq]at h1;rw [h1,h2]
@[congr] theorem zSE {f:FuncId} {K:PV→PHeap→Prop} {args args':List PV} {h h':PHeap} (h1:nm args=args') (h2:h=h'):zA P f args h K=zA P f args' h' K:=by rw [nm_eq]at h1;rw [h1,h2]
@[congr] theorem zR8 {n:Nat} {K:PV→PHeap→Prop} {x x' v v':PV} {h h':PHeap} (h0:nm x=x') (h1:v=v') (h2:h=h'):zFT n x v h K=zFT n x' v' h' K:=by rw [nm_eq]at h0;rw [h0,h1,h2]
@[congr] theorem zSG {sz b:Nat} {z:List AV} {K:PV→PHeap→Prop} {x x' v v':PV} {h h':PHeap} (h0:nm x=x') (h1:v=v') (h2:h=h'):pMake sz b z x v h K=pMake sz b z x' v' h' K:=by rw [nm_eq]at h0;rw [h0,h1,h2]
@[congr] theorem zSA {sz b:Nat} {z:List AV} {K:PV→PHeap→Prop} {x x' v v':PV} {h h':PHeap} (h0:nm x=x') (h1:v=v') (h2:h=h'):zFV sz b z x v h K=zFV sz b z x' v' h' K:=by rw [nm_eq]at h0;rw [h0,h1,h2]
@[congr] theorem zR9 {K:PV→PHeap→Prop} {f f':PV} {args args':List PV} {h h':PHeap} (h0:nm f=f') (h1:args=args') (h2:h=h'):zFU P f args h K=zFU P f' args' h' K:=by rw [nm_eq]at h0;rw [h0,h1,h2]
@[congr] theorem zR7 {v v':PV} {a b:Prop} (h0:nm v=v'):Zq v a b=Zq v' a b:=by rw [nm_eq]at h0;rw [h0]
@[congr] theorem zR6 {v v':PV} {b:Bool} {x y:Prop} (h0:nm v=v'):Za v b x y=Za v' b x y:=by rw [nm_eq]at h0;rw [h0]
end
def pis (xs:List Int):List PV:=xs.map (.int .i64)
theorem zEm (x:Int) (xs:List Int):pis (x::xs)=.int .i64 x::pis xs:=rfl
theorem qK (xs:List Int):(pis xs).length=xs.length:=by simp [pis]
theorem zL (xs:List Int) (k:Nat):(pis xs)[k]? = (xs[k]?).map (.int .i64):=by simp [pis]
theorem zQG (xs:List Int) (k:Nat) (x:Int):(pis xs).set k (.int .i64 x)=pis (xs.set k x):=by simp [pis,List.map_set]
theorem Qd (xs ys:List Int):pis xs++pis ys=pis (xs++ys):=by simp [pis]
theorem zOL (xs:List Int) (k:Nat):(pis xs).take k=pis (xs.take k):=by simp [pis,List.map_take]
theorem zON (xs:List Int) (k:Nat):(pis xs).drop k=pis (xs.drop k):=by simp [pis,List.map_drop]
theorem ZJ (n:Nat) (x:Int):List.replicate n (PV.int .i64 x)=pis (List.replicate n x):=by simp [pis]
theorem zo (n:Nat) (xs:List Int):Bels n (pis xs):=by
 induction xs with
 | nil=>trivial
 | cons x xs ih=>exact⟨trivial,ih⟩
theorem qm {xs:List Int} {i:Nat} (hi:i<xs.length) {x:Int}:(pis xs).take i++[.int .i64 x]++(pis xs).drop (i+1)=pis (xs.set i x):=by
 rw [←zQG,List.set_eq_take_append_cons_drop,if_pos (by rw [qK];exact hi),List.append_assoc,List.singleton_append]
theorem QG {h:PHeap} {s:Nat} {cs:List PV} (hs:h.obj s=some cs):h.set s cs=h:=by
 cases h with
 | mk n t f=>
  simp only [PHeap.set]
  congr 1
  funext y
  by_cases hy:y=s
  ·subst hy;simp at hs ⊢;exact hs.symm
  ·simp [hy]
theorem take_set {α:Type} (xs:List α) {i:Nat} (hi:i<xs.length) (v:α):xs.take i++v::xs.drop (i+1)=xs.set i v:=by
 rw [List.set_eq_take_append_cons_drop,if_pos hi]
theorem gi {α:Type} {xs:List α} {i:Nat} (hi:i<xs.length):xs[i]? = some xs[i]:=List.getElem?_eq_getElem hi
theorem mk8 {n:Nat} (h:n≤4294967296):(n:Int)*((8:Nat):Int)≤140737488355328:=by omega
theorem mk24 {n:Nat} (h:n≤4294967296):(n:Int)*((24:Nat):Int)≤140737488355328:=by omega
theorem mkL {n:Nat} (h:n≤4294967296):(n:Int)≤9223372036854775807:=by omega
def FI (v:PV) (xs:List Int):Prop:=∃w a,v=.fz w a xs.length (pis xs)
def FL {α:Type} (R:PV→α→Prop) (v:PV) (xs:List α):Prop:=∃w a rows,v=.fz w a xs.length rows∧All2 R rows xs
abbrev FII:PV→List (List Int)→Prop:=FL FI
abbrev FIII:PV→List (List (List Int))→Prop:=FL FII
theorem FI.one {v:PV} {xs:List Int} (h:FI v xs):v.one=true:=by obtain⟨w,a,rfl⟩:=h;rfl
theorem FI.cells {v:PV} {xs:List Int} (h:FI v xs):v.cells=[v]:=by obtain⟨w,a,rfl⟩:=h;rfl
theorem FI.bel {v:PV} {xs:List Int} (h:FI v xs) (n:Nat):Bel n v:=by obtain⟨w,a,rfl⟩:=h;trivial
theorem FL.one {α:Type} {R:PV→α→Prop} {v:PV} {xs:List α} (h:FL R v xs):v.one=true:=by obtain⟨w,a,r,rfl,_⟩:=h;rfl
theorem FL.cells {α:Type} {R:PV→α→Prop} {v:PV} {xs:List α} (h:FL R v xs):v.cells=[v]:=by obtain⟨w,a,r,rfl,_⟩:=h;rfl
theorem FL.bel {α:Type} {R:PV→α→Prop} {v:PV} {xs:List α} (h:FL R v xs) (n:Nat):Bel n v:=by obtain⟨w,a,r,rfl,_⟩:=h;trivial
theorem FI.sb {v:PV} {xs:List Int} (h:FI v xs) (s o:Nat) (cs:List PV):sb s o cs v=v:=by obtain⟨w,a,rfl⟩:=h;rfl
theorem FL.sb {α:Type} {R:PV→α→Prop} {v:PV} {xs:List α} (h:FL R v xs) (s o:Nat) (cs:List PV):sb s o cs v=v:=by obtain⟨w,a,r,rfl,_⟩:=h;rfl
theorem All2.at {α β:Type} {R:α→β→Prop} {as:List α} {bs:List β} (h:All2 R as bs) {k:Nat} (hk:k<bs.length):∃a,as[k]? = some a∧R a bs[k]:=h.get hk
theorem All2.rowI {rows:List PV} {xss:List (List Int)} (h:All2 FI rows xss) {k:Nat} (hk:k<xss.length):∃w a,rows[k]? = some (.fz w a xss[k].length (pis xss[k])):=by
 obtain⟨r,h1,w,a,rfl⟩:=h.get hk;exact⟨w,a,h1⟩
theorem All2.rowL {α:Type} {R:PV→α→Prop} {rows:List PV} {xss:List (List α)} (h:All2 (FL R) rows xss) {k:Nat} (hk:k<xss.length):∃w a rs,rows[k]? = some (.fz w a xss[k].length rs)∧All2 R rs xss[k]:=by
 obtain⟨r,h1,w,a,rs,rfl,h2⟩:=h.get hk;exact⟨w,a,rs,h1,h2⟩
theorem All2.bels {α:Type} {R:PV→α→Prop} {n:Nat} {rows:List PV} {xs:List α} (h:All2 R rows xs) (hb:∀v x,R v x→Bel n v):Bels n rows:=by
 rw [zBc];intro c hc;obtain⟨k,hk,rfl⟩:=List.mem_iff_getElem.1 hc;exact hb _ _ (h.2 k _ (xs[k]'(by rw [←h.1];exact hk)) (List.getElem?_eq_getElem hk) (List.getElem?_eq_getElem _))
theorem All2.ones {α:Type} {R:PV→α→Prop} {rows:List PV} {xs:List α} (h:All2 R rows xs) (hb:∀v x,R v x→v.one=true):rows.all PV.one=true:=by
 rw [List.all_eq_true];intro c hc;obtain⟨k,hk,rfl⟩:=List.mem_iff_getElem.1 hc;exact hb _ _ (h.2 k _ (xs[k]'(by rw [←h.1];exact hk)) (List.getElem?_eq_getElem hk) (List.getElem?_eq_getElem _))
theorem All2.bI {rows:List PV} {xs:List (List Int)} (h:All2 FI rows xs) (n:Nat):Bels n rows:=h.bels fun _ _ k=>k.bel n
theorem All2.bL {α:Type} {R:PV→α→Prop} {rows:List PV} {xs:List (List α)} (h:All2 (FL R) rows xs) (n:Nat):Bels n rows:=h.bels fun _ _ k=>k.bel n
theorem All2.take {α β:Type} {R:α→β→Prop} {as:List α} {bs:List β} (h:All2 R as bs) (k:Nat):All2 R (as.take k) (bs.take k):=by
 refine⟨by simp [h.1],fun j a b ha hb=>?_⟩
 rw [List.getElem?_take]at ha hb
 split at ha
 ·exact h.2 j a b ha (by simpa [*]using hb)
 ·cases ha
theorem All2.drop {α β:Type} {R:α→β→Prop} {as:List α} {bs:List β} (h:All2 R as bs) (k:Nat):All2 R (as.drop k) (bs.drop k):=by
 refine⟨by simp [h.1],fun j a b ha hb=>?_⟩
 rw [List.getElem?_drop]at ha hb
 exact h.2 _ a b ha hb
theorem All2.append {α β:Type} {R:α→β→Prop} {as cs:List α} {bs ds:List β} (h:All2 R as bs) (g:All2 R cs ds):All2 R (as++cs) (bs++ds):=by
 refine⟨by simp [h.1,g.1],fun j a b ha hb=>?_⟩
 rcases Nat.lt_or_ge j as.length with x|x
 ·rw [List.getElem?_append_left x]at ha
  rw [List.getElem?_append_left (by rw [←h.1];exact x)]at hb
  exact h.2 j a b ha hb
 ·rw [List.getElem?_append_right x]at ha
  rw [List.getElem?_append_right (by rw [←h.1];exact x),←h.1]at hb
  exact g.2 _ a b ha hb
theorem zD {P:Program} {Q:Exit→PEnv→PHeap→Prop} {e:PEnv} {h:PHeap} {S:List Nat} {c:IC} (I:Nat→List PV→PHeap→Prop) (n:Nat) (h0:I n (S.map e) h)
  (round:∀n vs h,I n vs h→vp P c (fun x e' h'=>match x with | .normal=>∃n',n'<n∧I n' (S.map e') h' | x=>Q x e' h') (PEnv.mk S vs) h):vp P (.loop S c) Q e h:=
 ⟨I,⟨n,.here h0⟩,fun n vs h hI=>Qz c (fun x e h k=>by cases x<;>first | exact k.imp fun _ q=>⟨q.1,.here q.2⟩ | exact k) (round n vs h hI)⟩
theorem Qt {P:Program} {Q:Exit→PEnv→PHeap→Prop} {e:PEnv} {h:PHeap} {S:List Nat} {c:IC} (I:Nat→List PV→PHeap→Prop) (n:Nat) (h0:GL (I n) (S.map e) h)
  (round:∀n vs h,I n vs h→vp P c (fun x e' h'=>match x with | .normal=>∃n',n'<n∧GL (I n') (S.map e') h' | x=>Q x e' h') (PEnv.mk S vs) h):vp P (.loop S c) Q e h:=⟨I,⟨n,h0⟩,round⟩
theorem iteI {c:Prop} [Decidable c] {A B:Prop} (h1:c→A) (h2:¬c→B):if c then A else B:=by
 by_cases h:c
 ·rw [if_pos h];exact h1 h
 ·rw [if_neg h];exact h2 h
theorem pkt {K:PV→PHeap→Prop} {h:PHeap} {p:Prop} [Decidable p] (hk:K (.bool (decide p)) h) (hp:p):K (.bool true) h:=by
 rw [decide_eq_true hp]at hk;exact hk
theorem pkf {K:PV→PHeap→Prop} {h:PHeap} {p:Prop} [Decidable p] (hk:K (.bool (decide p)) h) (hp:¬p):K (.bool false) h:=by
 rw [decide_eq_false hp]at hk;exact hk
theorem pke {K:PV→PHeap→Prop} {h:PHeap} {p q:Prop} [Decidable p] [Decidable q] (hk:K (.bool (decide p)) h) (hp:p↔q):K (.bool (decide q)) h:=by
 have:decide q=decide p:=decide_eq_decide.2 hp.symm
 rw [this];exact hk
theorem zC (σ:PHeap) (cs:List PV):Keep σ (σ.new cs):=(Keep.refl σ).new cs
theorem Keep.setB {σ0 σ1:PHeap} (a:Keep σ0 σ1) {s:Nat} (cs:List PV):Keep (σ0.set s cs) (σ1.set s cs):=
 ⟨a.next,a.top,fun t ht=>by simp only [PHeap.set];split;rfl;exact a.obj t ht⟩
theorem Keep.setN {σ0 σ1:PHeap} {cs:List PV} (a:Keep (σ0.new cs) σ1) (ds:List PV):Keep (σ0.new ds) (σ1.set σ0.next ds):=
 ⟨a.next,a.top,fun t ht=>by
  by_cases e:t=σ0.next
  ·subst e;simp [PHeap.set,PHeap.new]
  ·have:=a.obj t ht
   simp only [PHeap.set,PHeap.new,if_neg e]at this ⊢
   exact this⟩
theorem zF {h:PHeap} {s:Nat} {cs:List PV} (ho:h.obj s=some cs) (i:Nat):h.rd1 s i=cs[i]?:=by simp [PHeap.rd1,ho]
theorem ZB {h:PHeap} {s:Nat} {cs:List PV} (ho:h.obj s=some cs) (i n:Nat):h.rd s i n=if i+n≤cs.length then some ((cs.drop i).take n)else none:=by simp [PHeap.rd,ho]
theorem Zr {h:PHeap} {s:Nat} {cs:List PV} (ho:h.obj s=some cs) (i:Nat) (vs:List PV):h.wr s i vs=if i+vs.length≤cs.length∧vs.all PV.one=true then some (h.set s (cs.take i++vs++cs.drop (i+vs.length)))else none:=by simp [PHeap.wr,ho]
def full (e:Nat) (cap:Cap) (n:Nat):Prop:=cap=.grown e∨cap=.known n
theorem full.ok {e n:Nat} {cap:Cap} (h:full e cap n):capOK cap n=true:=by
 rcases h with rfl|rfl
 ·rfl
 ·simp [capOK]
def PSl (b e:Nat) (h:PHeap) (v:PV) (n:Nat) (cs:List PV):Prop:=∃s cap,v=.sl s 0 n cap∧full e cap n∧h.obj s=some cs∧cs.length=n*e∧b≤s∧s<h.next
def PAcc (b e:Nat) (h:PHeap) (v:PV) (n:Nat) (cs:List PV):Prop:=
 (v=.fz true .nils 0 []∧n=0∧cs=[])∨PSl b e h v n cs
theorem PAcc.nil (b e:Nat) (h:PHeap):PAcc b e h (.fz true .nils 0 []) 0 []:=.inl ⟨rfl,rfl,rfl⟩
theorem PSl.own {b e n s:Nat} {h:PHeap} {cap:Cap} {cs:List PV} (hc:full e cap n) (ho:h.obj s=some cs) (hl:cs.length=n*e) (hb:b≤s) (hs:s<h.next):PSl b e h (.sl s 0 n cap) n cs:=⟨s,cap,rfl,hc,ho,hl,hb,hs⟩
theorem PSl.acc {b e n:Nat} {h:PHeap} {v:PV} {cs:List PV} (a:PSl b e h v n cs):PAcc b e h v n cs:=.inr a
theorem PSl.new (b e:Nat) {h:PHeap} {n:Nat} {cs:List PV} (hl:cs.length=n*e) (hb:b≤h.next):PSl b e (h.new cs) (.sl h.next 0 n (.known n)) n cs:=⟨_,_,rfl,.inr rfl,by simp [PHeap.new],hl,hb,by simp [PHeap.new]⟩
theorem PSl.keep {b e n:Nat} {h h':PHeap} {v:PV} {cs:List PV} (a:PSl b e h v n cs) (hk:Keep h h'):PSl b e h' v n cs:=by
 obtain⟨s,cap,rfl,h1,h2,h3,h4,h5⟩:=a;exact⟨s,cap,rfl,h1,by rw [hk.obj s h5];exact h2,h3,h4,Nat.lt_of_lt_of_le h5 hk.next⟩
theorem PSl.one {b e n:Nat} {h:PHeap} {v:PV} {cs:List PV} (a:PSl b e h v n cs):v.one=true:=by obtain⟨s,cap,rfl,_⟩:=a;rfl
theorem PSl.cells {b e n:Nat} {h:PHeap} {v:PV} {cs:List PV} (a:PSl b e h v n cs):v.cells=[v]:=by obtain⟨s,cap,rfl,_⟩:=a;rfl
theorem PSl.pLen {b e n:Nat} {h:PHeap} {v:PV} {cs:List PV} (a:PSl b e h v n cs):pLen v=some (.int .i64 n):=by obtain⟨s,cap,rfl,_⟩:=a;rfl
theorem PAcc.keep {b e n:Nat} {h h':PHeap} {v:PV} {cs:List PV} (a:PAcc b e h v n cs) (hk:Keep h h'):PAcc b e h' v n cs:=by
 rcases a with ⟨rfl,rfl,rfl⟩|⟨s,cap,rfl,h1,h2,h3,h4,h5⟩
 ·exact PAcc.nil _ _ _
 ·exact .inr ⟨s,cap,rfl,h1,by rw [hk.obj s h5];exact h2,h3,h4,Nat.lt_of_lt_of_le h5 hk.next⟩
theorem PAcc.one {b e n:Nat} {h:PHeap} {v:PV} {cs:List PV} (a:PAcc b e h v n cs):v.one=true:=by
 rcases a with ⟨rfl,rfl,rfl⟩|⟨s,cap,rfl,_⟩<;>rfl
theorem PAcc.cells {b e n:Nat} {h:PHeap} {v:PV} {cs:List PV} (a:PAcc b e h v n cs):v.cells=[v]:=by
 rcases a with ⟨rfl,rfl,rfl⟩|⟨s,cap,rfl,_⟩<;>rfl
theorem PAcc.len {b e n:Nat} {h:PHeap} {v:PV} {cs:List PV} (a:PAcc b e h v n cs):plen v=some n:=by
 rcases a with ⟨rfl,rfl,rfl⟩|⟨s,cap,rfl,_⟩<;>rfl
theorem PAcc.pLen {b e n:Nat} {h:PHeap} {v:PV} {cs:List PV} (a:PAcc b e h v n cs):pLen v=some (.int .i64 n):=by
 rcases a with ⟨rfl,rfl,rfl⟩|⟨s,cap,rfl,_⟩<;>rfl
theorem PSl.app {σb h:PHeap} {b e bytes n m:Nat} {v x:PV} {cs news:List PV} {K:PV×PHeap→Prop} (hk:Keep σb h) (hb:b≤σb.next) (a:PSl σb.next e h v n cs) (hx:plen x=some m) (hf:m≠0→Zv e h x m=some news) (hl:news.length=m*e)
  (h1:(n+m)*bytes≤140737488355328) (h2:n+m≤4611686018427387904) (k:∀v' h',Keep σb h'→PSl σb.next e h' v' (n+m) (cs++news)→K (v',h')):optK (qo e bytes h v x) K:=by
 rw [Zw,hx];simp only [Option.bind_some];obtain⟨s,cap,rfl,hc,q2,q3,q4,q5⟩:=a
 by_cases h0:m=0
 ·rw [if_pos h0]
  subst h0
  have:news=[]:=List.eq_nil_of_length_eq_zero (by omega)
  subst this;rcases hc with rfl|rfl
  ·refine Zb rfl (k _ _ hk ?_)
   rw [List.append_nil,Nat.add_zero];exact⟨s,_,rfl,.inl rfl,q2,q3,q4,q5⟩
  ·rw [zEJ,if_pos (Nat.le_refl _)]
   refine Zb rfl (k _ _ hk ?_);rw [List.append_nil,Nat.add_zero];exact⟨s,_,rfl,.inr rfl,q2,q3,q4,q5⟩
 ·rw [if_neg h0,hf h0]
  simp only [Option.bind_some];have hn:=hk.next;rcases hc with rfl|rfl
  ·rw [Qj,if_pos ⟨h1,h2,rfl⟩,q2]
   simp only [Option.bind_some];rw [if_pos (by omega),List.drop_zero]
   refine Zb rfl (k _ _ ((hk.kill q4).new _) ?_);rw [List.take_of_length_le (by omega)]
   exact⟨h.next,_,rfl,.inl rfl,by simp [PHeap.new,PHeap.kill],by rw [List.length_append,q3,hl,Nat.add_mul],hn,by simp [PHeap.new,PHeap.kill]⟩
  ·rw [zAc,if_neg (by omega),if_pos ⟨h1,h2⟩,ZB q2,if_pos (by omega),List.drop_zero,List.take_of_length_le (by omega)]
   simp only [Option.map_some];refine Zb rfl (k _ _ (hk.new _) ?_);exact⟨h.next,_,rfl,.inl rfl,by simp [PHeap.new],by rw [List.length_append,q3,hl,Nat.add_mul],hn,by simp [PHeap.new]⟩
theorem PAcc.app {σb h:PHeap} {b e bytes n m:Nat} {v x:PV} {cs news:List PV} {K:PV×PHeap→Prop} (hk:Keep σb h) (hb:b≤σb.next) (a:PAcc σb.next e h v n cs) (hx:plen x=some m) (hf:m≠0→Zv e h x m=some news) (hl:news.length=m*e)
  (h1:(n+m)*bytes≤140737488355328) (h2:n+m≤4611686018427387904) (k:∀v' h',Keep σb h'→PAcc σb.next e h' v' (n+m) (cs++news)→(0<n+m→PSl σb.next e h' v' (n+m) (cs++news))→K (v',h')):optK (qo e bytes h v x) K:=by
 rcases a with ⟨rfl,rfl,rfl⟩|a
 ·rw [Zw,hx]
  simp only [Option.bind_some]
  by_cases h0:m=0
  ·rw [if_pos h0]
   subst h0
   have:news=[]:=List.eq_nil_of_length_eq_zero (by omega)
   subst this;exact Zb rfl (k _ _ hk (PAcc.nil _ _ _) (by omega))
  ·rw [if_neg h0,hf h0]
   simp only [Option.bind_some];rw [zFR,if_pos ⟨by simpa using h1,by omega⟩]
   have hp:PSl σb.next e (h.new news) (.sl h.next 0 m (.grown e)) m news:=⟨h.next,_,rfl,.inl rfl,by simp [PHeap.new],hl,hk.next,by simp [PHeap.new]⟩
   refine Zb rfl (k _ _ (hk.new _) ?_ ?_)
   ·rw [List.nil_append,Nat.zero_add];exact .inr hp
   ·rw [List.nil_append,Nat.zero_add];exact fun _=>hp
 ·exact PSl.app hk hb a hx hf hl h1 h2 fun v' h' k1 k2=>k v' h' k1 (.inr k2) fun _=>k2
theorem PAcc.push {σb h:PHeap} {bytes n:Nat} {v x:PV} {cs:List PV} {K:PV×PHeap→Prop} (hk:Keep σb h) (a:PAcc σb.next 1 h v n cs) 
  (h1:(n+1)*bytes≤140737488355328) (h2:n+1≤4611686018427387904) (k:∀v' h',Keep σb h'→PSl σb.next 1 h' v' (n+1) (cs++[x])→K (v',h')):optK (qo 1 bytes (h.new [x]) v (.sl h.next 0 1 (.known 1))) K:=
 PAcc.app (news:=[x]) (m:=1) (hk.new _) (Nat.le_refl _) (a.keep (zC _ _)) rfl (fun _=>by simp [QE,Q4]) rfl h1 h2 fun v' h' k1 _ k3=>k v' h' k1 (k3 (by omega))
theorem PSl.push {σb h:PHeap} {bytes n:Nat} {v x:PV} {cs:List PV} {K:PV×PHeap→Prop} (hk:Keep σb h) (a:PSl σb.next 1 h v n cs)
  (h1:(n+1)*bytes≤140737488355328) (h2:n+1≤4611686018427387904) (k:∀v' h',Keep σb h'→PSl σb.next 1 h' v' (n+1) (cs++[x])→K (v',h')):optK (qo 1 bytes (h.new [x]) v (.sl h.next 0 1 (.known 1))) K:=
 PAcc.push hk a.acc h1 h2 k
theorem PAcc.cat {σb h:PHeap} {bytes n m:Nat} {w:Bool} {av:AV} {v:PV} {cs news:List PV} {K:PV×PHeap→Prop} (hk:Keep σb h) (a:PAcc σb.next 1 h v n cs) (hl:news.length=m)
  (h1:(n+m)*bytes≤140737488355328) (h2:n+m≤4611686018427387904) (k:∀v' h',Keep σb h'→PAcc σb.next 1 h' v' (n+m) (cs++news)→K (v',h')):optK (qo 1 bytes h v (.fz w av m news)) K:=
 PAcc.app (news:=news) (m:=m) hk (Nat.le_refl _) a rfl (fun h0=>by rw [zBj,if_neg h0,if_pos ⟨Nat.le_refl _,by omega,by omega⟩,List.take_of_length_le (by omega)]) (by omega) h1 h2 fun v' h' k1 k2 _=>k v' h' k1 k2
theorem PSl.cat {σb h:PHeap} {bytes n m:Nat} {w:Bool} {av:AV} {v:PV} {cs news:List PV} {K:PV×PHeap→Prop} (hk:Keep σb h) (a:PSl σb.next 1 h v n cs) (hl:news.length=m)
  (h1:(n+m)*bytes≤140737488355328) (h2:n+m≤4611686018427387904) (k:∀v' h',Keep σb h'→PSl σb.next 1 h' v' (n+m) (cs++news)→K (v',h')):optK (qo 1 bytes h v (.fz w av m news)) K:=
 PSl.app (b:=0) (news:=news) (m:=m) hk (Nat.zero_le _) a rfl (fun h0=>by rw [zBj,if_neg h0,if_pos ⟨Nat.le_refl _,by omega,by omega⟩,List.take_of_length_le (by omega)]) (by omega) h1 h2 k
theorem PSl.fin {σ h:PHeap} {e n:Nat} {v:PV} {cs:List PV} {K:PV→PHeap→Prop} (hk:Keep σ h) (a:PSl σ.next e h v n cs) (hb:Bels 0 cs) (k:∀o cap,K (.fz true (.sl o 0 n cap) n cs) σ):Gh σ K v h:=by
 obtain⟨s,cap,rfl,hc,q2,q3,q4,q5⟩:=a;exact Gh.finF hk q2 q4 hb hc.ok fun o=>k _ _
theorem PSl.out {σ h:PHeap} {e n:Nat} {v:PV} {cs:List PV} {K:PV→PHeap→Prop} (hk:Keep σ h) (a:PSl σ.next e h v n cs) (hb:Bels σ.next cs) (k:∀cap,full e cap n→K (.sl σ.next 0 n cap) (σ.new cs)):Gh σ K v h:=by
 obtain⟨s,cap,rfl,hc,q2,q3,q4,q5⟩:=a;exact Gh.finS hk q2 q4 hb (k cap hc)
theorem PAcc.fin {σ h:PHeap} {e n:Nat} {v:PV} {cs:List PV} {K:PV→PHeap→Prop} (hk:Keep σ h) (a:PAcc σ.next e h v n cs) (hb:Bels 0 cs) (k:∀a,K (.fz true a n cs) σ):Gh σ K v h:=by
 rcases a with ⟨rfl,rfl,rfl⟩|⟨s,cap,rfl,hc,q2,q3,q4,q5⟩
 ·exact Gh.fin0 hk trivial (k _)
 ·exact Gh.finF hk q2 q4 hb hc.ok fun o=>k _
theorem zA.fz {P:Program} {f:FuncId} {args:List PV} {σ:PHeap} {K:PV→PHeap→Prop} {l e:Nat} {cs:List PV} (c:∀K':PV→PHeap→Prop,(∀cap,full e cap l→K' (.sl σ.next 0 l cap) (σ.new cs))→zA P f args σ K') (hb:Bels 0 cs)
  (k:∀o cap,K (.fz true (.sl o 0 l cap) l cs) σ):zA P f args σ K:=
 zA.gh (c _ fun cap hc=>Gh.finF (zC σ cs) (by simp [PHeap.new]) (Nat.le_refl _) hb hc.ok fun o=>k o cap)
def ResI (σ:PHeap) (K:PV→PHeap→Prop) (xs:List Int):Prop:=(xs=[]→K (.fz true .nils 0 []) σ)∧∀cap,full 1 cap xs.length→K (.sl σ.next 0 xs.length cap) (σ.new (pis xs))
theorem zA.fzI {P:Program} {f:FuncId} {args:List PV} {σ:PHeap} {K:PV→PHeap→Prop} {xs:List Int} (c:∀K':PV→PHeap→Prop,ResI σ K' xs→zA P f args σ K') (k:∀a,K (.fz true a xs.length (pis xs)) σ):zA P f args σ K:=
 zA.gh (c _ ⟨fun h0=>by subst h0;exact Gh.ret (k _),fun cap hc=>Gh.finF (zC σ _) (by simp [PHeap.new]) (Nat.le_refl _) (zo _ _) hc.ok fun o=>k _⟩)
abbrev qI (d:Nat) (o:IOp):II:=⟨some d,o,true,none⟩
abbrev eI (d:Nat) (o:IOp):II:=⟨some d,o,false,none⟩
abbrev nI (o:IOp):II:=⟨none,o,false,none⟩
abbrev qD (d:Nat) (o:IOp) (i:Nat):DI:=⟨⟨some d,o,true,none⟩,i,[]⟩
abbrev eD (d:Nat) (o:IOp) (i:Nat) (c:List Nat):DI:=⟨⟨some d,o,false,none⟩,i,c⟩
end Go.Ab
