/- . -/
import Derived.Test.YtgkbfiilhocioaaGreatHAbHeap
open Nat renaming le_refl→vM
set_option linter.unusedVariables false
set_option linter.unusedSimpArgs false
namespace Go.Ab
variable{P:Program}{ι:Nat->Nat}{Z:Nat->Prop}{h h' cN:AHeap}{U σ0 σ1:PHeap}{n n' lo hi sG gQ t:Nat}{K:PV->PHeap->Prop}{L L':List (Nat×List PV)}
def isSl:AV->Bool
 | .sl _ _ _ _=>true
 |_=>false
mutual
def Wh:PV->Prop
 | .fz w a _ cs=>cs=[]\/(w=true/\isSl a=true/\Whs cs)
 | .fp _ cs=>cs=[]
 | .clo _ a b=>Whs a/\Whs b
 | .agg cs=>Whs cs
 | .tup cs=>Whs cs
 |_=>True
def Whs:List PV->Prop
 |[]=>True
 |c::cs=>Wh c/\Whs cs
end
theorem Qp:∀{cs:List PV},Whs cs↔∀c∈cs,Wh c
 |[]=>by simp[Whs]
 |c::cs=>by simp[Whs,Qp (cs:=cs)]
structure Own(lo hi:Nat)(v:PV):Prop where
 wh:Wh v
 nd:(ead v).Nodup
 lt:∀o∈ead v,lo<=o/\o<hi
structure Owns(lo hi:Nat)(cs:List PV):Prop where
 wh:Whs cs
 nd:(eads cs).Nodup
 lt:∀o∈eads cs,lo<=o/\o<hi
theorem Own.mono{v:PV}(h:Own lo hi v)(h1:sG<=lo)(h2:hi<=gQ):Own sG gQ v:=⟨h.wh,h.nd,λo ho=>by have:=h.lt o ho;omega⟩
theorem Owns.mono{v:List PV}(h:Owns lo hi v)(h1:sG<=lo)(h2:hi<=gQ):Owns sG gQ v:=⟨h.wh,h.nd,λo ho=>by have:=h.lt o ho;omega⟩
theorem Owns.nil(lo hi:Nat):Owns lo hi []:=⟨trivial,List.nodup_nil,λo ho=>by cases ho⟩
theorem Owns.snoc{cs:List PV}{c:PV}(h:Owns lo t cs)(g:Own t hi c)(hl:lo<=t)(ht:t<=hi):Owns lo hi (cs++[c]):=by
 refine⟨Qp.2 λx hx=>?_,?_,λo ho=>?_⟩
 .rcases List.mem_append.1 hx with hx|hx
  .exact Qp.1 h.wh x hx
  .rw[List.mem_singleton.1 hx];exact g.wh
 .rw[zAo,List.nodup_append];simp only[eads,List.append_nil];refine⟨h.nd,g.nd,λa ha b hb e=>?_⟩
  have:=h.lt a ha
  have:=g.lt b hb
  omega
 .rw[zAo]at ho;simp only[eads,List.append_nil,List.mem_append]at ho;rcases ho with ho|ho
  .have:=h.lt o ho;omega
  .have:=g.lt o ho;omega
theorem Own.int(lo hi:Nat)(k:IntKind)(x:Int):Own lo hi (.int k x):=⟨trivial,List.nodup_nil,λo ho=>by cases ho⟩
theorem Own.empty(lo hi:Nat)(w:Bool)(a:AV)(l:Nat):Own lo hi (.fz w a l []):=⟨.inl rfl,List.nodup_nil,λo ho=>by cases ho⟩
theorem Owns.agg{cs:List PV}(h:Owns lo hi cs):Own lo hi (.agg cs):=⟨h.wh,h.nd,h.lt⟩
theorem Owns.fz{cs:List PV}{o l:Nat}{cap:Cap}(h:Owns lo hi cs)(h1:lo<=o)(h2:o<hi)(hn:o∉eads cs):Own lo hi (.fz true (.sl o 0 l cap) l cs):=by
 refine⟨.inr ⟨rfl,rfl,h.wh⟩,?_,λx hx=>?_⟩
 .unfold ead;cases cs.isEmpty
  .simp only[cond_false,List.singleton_append];exact List.nodup_cons.2 ⟨hn,h.nd⟩
  .exact List.nodup_nil
 .unfold ead at hx;cases he:cs.isEmpty<;>rw[he]at hx
  .simp only[cond_false,List.singleton_append,List.mem_cons]at hx;rcases hx with rfl|hx
   .exact⟨h1,h2⟩
   .exact h.lt x hx
  .cases hx
theorem zIZ(xs:L3):eads (pis xs)=[]:=by
 induction xs with
 |nil=>rfl
 |cons x xs ih=>simp only[zHn,eads,ead,ih,List.append_nil]
theorem zRO(xs:L3):Whs (pis xs):=by
 induction xs with
 |nil=>trivial
 |cons x xs ih=>exact⟨trivial,ih⟩
theorem Owns.pis(lo hi:Nat)(xs:L3):Owns lo hi (pis xs):=⟨zRO xs,by rw[zIZ];exact List.nodup_nil,λo ho=>by rw[zIZ]at ho;cases ho⟩
mutual
theorem zNo:∀{v:PV} {o:Nat},o∈ead v->o∈addrs v
 | .undef,o,ho | .bool _,o,ho | .int _ _,o,ho | .str _,o,ho | .nilp,o,ho | .nilf,o,ho | .ptr _ _,o,ho | .sl _ _ _ _,o,ho=>by simp[ead]at ho
 | .fz w a len cs,o,ho=>by
  unfold ead at ho;cases he:cs.isEmpty<;>rw[he]at ho
  .simp only[cond_false,List.mem_append]at ho;have hc:o∈eads cs->o∈Zw cs:=QJ;cases a<;>simp only[addrs,List.mem_cons,List.not_mem_nil,false_or,or_false]at ho ⊢<;>first|exact ho.imp id hc|skip
  .cases ho
 | .fp a cs,o,ho=>by
  unfold ead at ho;cases he:cs.isEmpty<;>rw[he]at ho
  .simp only[cond_false,List.mem_append]at ho;have hc:o∈eads cs->o∈Zw cs:=QJ;cases a<;>simp only[addrs,he,Bool.false_eq_true,if_false,List.mem_append,List.mem_cons,List.not_mem_nil,false_or,or_false]at ho ⊢<;>first|exact ho.imp id hc|skip
  .cases ho
 | .clo _ a b,o,ho=>by
  simp only[ead,addrs,List.mem_append]at ho ⊢;exact ho.imp QJ QJ
 | .agg cs,o,ho=>QJ (cs:=cs) ho
 | .tup cs,o,ho=>QJ (cs:=cs) ho
theorem QJ:∀{cs:List PV} {o:Nat},o∈eads cs->o∈Zw cs
 |[],o,ho=>by cases ho
 |c::cs,o,ho=>by
  simp only[eads,Zw,List.mem_append]at ho ⊢;exact ho.imp zNo QJ
end
theorem Gh.own{s l:Nat}{cap:Cap}{cs:List PV}(hk:Keep σ0 σ1)(hs:σ1.obj s=some cs)(h0:σ0.next<=s)(hb:Bels 0 cs)(bQ:capOK cap l=true)(ho:Owns σ0.top σ1.top cs)
  (k:∀o t,Own σ0.top t (.fz true (.sl o 0 l cap) l cs)->σ0.top<=t->K (.fz true (.sl o 0 l cap) l cs) (σ0.up t)):Gh σ0 K (.sl s 0 l cap) σ1:=
 Gh.finZ hk hs h0 hb bQ λo h1 h2 t h3 h4=>k o t ((ho.mono (vM _) h4).fz h1 h3 λhm=>h2 (QJ hm)) (Nat.le_trans hk.top h4)
theorem zA.fzT{f:FuncId}{args:List PV}{l e:Nat}{cs:List PV}(c:∀K':PV->PHeap->Prop,(∀cap,full e cap l->K' (.sl U.next 0 l cap) (U.new cs))->zA P f args U K')(hb:Bels 0 cs)(ho:Owns U.top U.top cs)
  (k:∀o cap t,Own U.top t (.fz true (.sl o 0 l cap) l cs)->U.top<=t->K (.fz true (.sl o 0 l cap) l cs) (U.up t)):zA P f args U K:=
 zA.gh (c _ λcap hc=>Gh.own (zD U cs) (by simp[PHeap.new]) (vM _) hb hc.ok ho λo t h1 h2=>k o cap t h1 h2)
theorem zA.fzIT{f:FuncId}{args:List PV}{xs:L3}(c:∀K':PV->PHeap->Prop,ResI U K' xs->zA P f args U K')(k:∀v t,FI v xs->Own U.top t v->U.top<=t->K v (U.up t)):zA P f args U K:=
 zA.gh (c _ ⟨λh0=>by subst h0;exact Gh.ret (k _ U.top ⟨true,.nils,rfl⟩ (Own.empty _ _ _ _ _) (vM _)),λcap hc=>Gh.own (zD U _) (by simp[PHeap.new]) (vM _) (zO _ _) hc.ok (Owns.pis _ _ _) λo t h1 h2=>k _ t ⟨true,_,rfl⟩ h1 h2⟩)
theorem PAcc.own{e:Nat}{v:PV}{cs:List PV}(hk:Keep U σ1)(a:PAcc U.next e σ1 v n cs)(hb:Bels 0 cs)(ho:Owns U.top σ1.top cs)
  (k:∀a t,Own U.top t (.fz true a n cs)->U.top<=t->K (.fz true a n cs) (U.up t)):Gh U K v σ1:=by
 rcases a with ⟨rfl,rfl,rfl⟩|⟨s,cap,rfl,hc,q2,q3,q4,q5⟩
 .exact Gh.fin0T hk hk.top trivial λ_=>k _ U.top (Own.empty _ _ _ _ _) (vM _)
 .exact Gh.own hk q2 q4 hb hc.ok ho λo t h1 h2=>k _ t h1 h2
mutual
theorem zHV:∀{v:PV},(∀o∈ead v,L.lookup o=L'.lookup o)->rm L v=rm L' v
 | .undef,_ | .bool _,_ | .int _ _,_ | .str _,_ | .nilp,_ | .nilf,_ | .ptr _ _,_ | .sl _ _ _ _,_=>rfl
 | .fz w a len cs,h=>by
  unfold rm;cases he:cs.isEmpty
  .simp only[cond_false];cases a<;>try rfl
   rename_i o off l cap;simp only[ead,he,cond_false,List.mem_cons]at h;have hc:=QV (cs:=cs) λo ho=>h o (.inr ho);simp only[hc,h o (.inl rfl)]
  .rfl
 | .fp a cs,h=>by
  unfold rm;cases he:cs.isEmpty
  .simp only[cond_false];cases a<;>try rfl
   rename_i o i;simp only[ead,he,cond_false,List.mem_cons]at h;have hc:=QV (cs:=cs) λo ho=>h o (.inr ho);simp only[hc,h o (.inl rfl)]
  .rfl
 | .clo f a b,h=>by
  simp only[ead,List.mem_append]at h;simp only[rm,QV (cs:=a) λo ho=>h o (.inl ho),QV (cs:=b) λo ho=>h o (.inr ho)]
 | .agg cs,h=>by simp only[rm,QV (cs:=cs) h]
 | .tup cs,h=>by simp only[rm,QV (cs:=cs) h]
theorem QV:∀{cs:List PV},(∀o∈eads cs,L.lookup o=L'.lookup o)->rms L cs=rms L' cs
 |[],_=>rfl
 |c::cs,h=>by
  simp only[eads,List.mem_append]at h;simp only[rms,zHV (v:=c) λo ho=>h o (.inl ho),QV (cs:=cs) λo ho=>h o (.inr ho)]
end
theorem zHU{v:PV}(hk:∀o∈L.map Prod.fst,o∉ead v):rm L v=v:=rm_id λo ho=>ZW.2 λhm=>hk o hm ho
theorem Z7{v:PV}(hk:∀o∈L.map Prod.fst,lo<=o/\o<hi)(hv:∀o∈ead v,o<lo\/hi<=o):rm L v=v:=zHU λo ho hm=>by have:=hk o ho;have:=hv o hm;omega
def seqI(k:Int):Nat->L3
 |0=>[]
 |n+1=>k::seqI (k+1) n
theorem QN(n:Nat):∀k,(seqI k n).length=n:=by
 induction n with
 |zero=>intro k;rfl
 |succ n ih=>intro k;simp[seqI,ih]
theorem zHT(n:Nat):∀(k:Int) (i:Nat) (hi:i<(seqI k n).length),(seqI k n)[i]=k+i:=by
 induction n with
 |zero=>intro k i hi;simp[seqI]at hi
 |succ n ih=>
  intro k i hi;cases i with
  |zero=>simp[seqI]
  |succ i=>simp only[seqI,List.getElem_cons_succ];rw[ih];omega
theorem zQs{α:Type}(ys xs:List α){i:Nat}(hi:i<xs.length)(hy:i<ys.length):(ys.take i++xs.drop i).set i ys[i]=ys.take (i+1)++xs.drop (i+1):=by
 have h1:(ys.take i).length=i:=by rw[List.length_take];omega
 rw[List.set_append,if_neg (by omega),h1,Nat.sub_self,List.drop_eq_getElem_cons hi,List.set_cons_zero,List.take_succ_eq_append_getElem hy,List.append_assoc,List.singleton_append]
def aof:PV->Nat
 | .fz _ (.sl o _ _ _) _ _=>o
 |_=>0
def rowsOf:PV->List PV
 | .fz _ _ _ rows=>rows
 |_=>[]
def mkI(k:Int)(v:PV)(xs:L3):List (Nat×List PV):=if xs=[]then []else [(aof v,pis (seqI k xs.length))]
def mkS{α:Type}(mk:Int->PV->α->List (Nat×List PV))(len:α->Nat):Int->List PV->List α->List (Nat×List PV)
 |k,v::rows,x::xs=>mk k v x++mkS mk len (k+len x) rows xs
 |_,_,_=>[]
def mkF{α:Type}(mk:Int->PV->α->List (Nat×List PV))(len:α->Nat)(k:Int)(v:PV)(xs:List α):List (Nat×List PV):=mkS mk len k (rowsOf v) xs
def totL{α:Type}(len:α->Nat)(xs:List α):Nat:=(xs.map len).sum
def sqL{α:Type}(sq:Int->α->α)(len:α->Nat):Int->List α->List α
 |_,[]=>[]
 |k,x::xs=>sq k x::sqL sq len (k+len x) xs
def sqI(k:Int)(xs:L3):L3:=seqI k xs.length
theorem zEa{α:Type}(len:α->Nat):totL len []=0:=rfl
theorem zDE{α:Type}(len:α->Nat)(x:α)(xs:List α):totL len (x::xs)=len x+totL len xs:=by simp[totL]
theorem zDD{α:Type}{len:α->Nat}{xs:List α}{i:Nat}(hi:i<xs.length):totL len (xs.take (i+1))=totL len (xs.take i)+len xs[i]:=by
 rw[List.take_succ_eq_append_getElem hi];simp only[totL,List.map_append,List.sum_append,List.map_cons,List.map_nil,List.sum_cons,List.sum_nil];omega
theorem zF9{α:Type}(len:α->Nat)(xs:List α)(i:Nat):totL len (xs.take i)<=totL len xs:=by
 have:totL len xs=totL len (xs.take i)+totL len (xs.drop i):=by
  conv=>lhs;rw[<-List.take_append_drop i xs]
  simp only[totL,List.map_append,List.sum_append]
 omega
theorem zCM{α:Type}{len:α->Nat}{m:Nat}:∀{xs:List α},(∀x∈xs,len x<=m)->totL len xs<=xs.length*m
 |[],_=>by simp[totL]
 |x::xs,h=>by
  have h1:=zCM (xs:=xs) λy hy=>h y (by simp[hy]);have h2:=h x (by simp);rw[zDE,List.length_cons,Nat.add_mul];omega
theorem zBB{α:Type}(sq:Int->α->α)(len:α->Nat):∀(xs:List α) (k:Int),(sqL sq len k xs).length=xs.length
 |[],_=>rfl
 |x::r,k=>by simp[sqL,zBB sq len r]
theorem zKP{α:Type}(sq:Int->α->α)(len:α->Nat):∀(xs:List α) (k:Int) (i:Nat) (hi:i<xs.length),(sqL sq len k xs)[i]'(by rw[zBB];exact hi)=sq (k+totL len (xs.take i)) xs[i]
 |[],k,i,hi=>by simp at hi
 |x::r,k,0,hi=>by simp[sqL,totL]
 |x::r,k,i+1,hi=>by
  simp only[sqL,List.getElem_cons_succ,List.take_succ_cons];rw[zKP sq len r (k+len x) i (by simpa using hi),zDE];congr 1;omega
structure MkT{α:Type}(R:PV->α->Prop)(mk:Int->PV->α->List (Nat×List PV))(len:α->Nat)(sq:Int->α->α):Prop where
 keys:∀{k:Int} {v:PV} {x:α},R v x->Wh v->∀o∈(mk k v x).map Prod.fst,o∈ead v
 rd:∀{k:Int} {v:PV} {x:α},R v x->Wh v->(ead v).Nodup->R (rm (mk k v x) v) (sq k x)
theorem VOK.whole{w:Bool}{a:AV}{cs:List PV}(hv:VOK Z h n (.fz w a n' cs))(hw:w=true)(ai:cs≠[]):∃o cap,a=.sl o 0 n' cap/\h.obj o=some ⟨true,ers idz cs⟩/\Z o:=by
 obtain⟨rfl,_,h0⟩|⟨o,off,cap,rfl,h1,h2,h3,h4⟩:=hv.1
 .cases cs with
  |nil=>exact absurd rfl ai
  |cons c cs=>simp[ers]at h0
 .obtain⟨rfl,ho⟩:=h4 hw;exact⟨o,cap,rfl,ho,h1⟩
theorem zAr{xs:L3}(h:xs≠[]):pis xs≠[]:=λe=>h (List.eq_nil_of_length_eq_zero (by rw[<-zJ,e];rfl))
theorem zFg{α:Type}{cs:List α}(h:cs≠[]):cs.isEmpty=false:=by cases cs;exact absurd rfl h;rfl
theorem rm_fz{w:Bool}{o off l n:Nat}{cap:Cap}{cs:List PV}(ai:cs≠[]):rm L (.fz w (.sl o off l cap) n cs)=match L.lookup o with
   |some ms=>bif w then .fz true (.sl o off l cap) n ms else .fp (.sl o off l cap) []
   |none=>.fz w (.sl o off l cap) n (rms L cs):=by
 rw[rm,zFg ai];rfl
theorem zBn{w:Bool}{o off l n:Nat}{cap:Cap}{cs:List PV}(ai:cs≠[]):ead (.fz w (.sl o off l cap) n cs)=o::eads cs:=by
 rw[ead,zFg ai];rfl
theorem zDy{a:AV}(h:isSl a=true):∃o off l cap,a=.sl o off l cap:=by cases a<;>first|exact⟨_,_,_,_,rfl⟩|cases h
theorem mkT_I:MkT FI mkI List.length sqI where
 keys:=by
  rintro k v xs ⟨w,a,rfl⟩ hW o ho
  unfold mkI at ho;split at ho
  .cases ho
  .rename_i ai;obtain⟨hw,hs,_⟩:=hW.resolve_left (zAr ai);obtain⟨o',off,l',cap,rfl⟩:=zDy hs;rw[zBn (zAr ai)];simp only[aof,List.map_cons,List.map_nil,List.mem_singleton]at ho;subst ho;exact List.mem_cons_self ..
 rd:=by
  rintro k v xs ⟨w,a,rfl⟩ hW c7
  unfold mkI;split
  .rename_i he;subst he;exact⟨w,a,rfl⟩
  .rename_i ai;obtain⟨hw,hs,_⟩:=hW.resolve_left (zAr ai);obtain⟨o',off,l',cap,rfl⟩:=zDy hs;subst hw;rw[rm_fz (zAr ai)];simp only[aof,List.lookup_cons,beq_self_eq_true,cond_true];exact⟨true,_,by rw[sqI,QN]⟩
variable{α:Type}{R:PV->α->Prop}{mk:Int->PV->α->List (Nat×List PV)}{len:α->Nat}{sq:Int->α->α}
theorem All2.tl{β γ:Type}{R:β->γ->Prop}{a:β}{as:List β}{b:γ}{bs:List γ}(h:All2 R (a::as) (b::bs)):R a b/\All2 R as bs:=
 ⟨h.2 0 a b rfl rfl,by have:=h.1;simpa using this,λk x y hx hy=>h.2 (k+1) x y (by simpa using hx) (by simpa using hy)⟩
theorem MkT.keysS(M:MkT R mk len sq):∀{rows:List PV} {xs:List α} {k:Int},All2 R rows xs->Whs rows->∀o∈(mkS mk len k rows xs).map Prod.fst,o∈eads rows
 |[],xs,k,_,_,o,ho=>by simp[mkS]at ho
 |v::rows,[],k,hr,_,o,ho=>by have:=hr.1;simp at this
 |v::rows,x::xs,k,hr,hW,o,ho=>by
  obtain⟨h1,h2⟩:=hr.tl;simp only[mkS,List.map_append,List.mem_append]at ho;simp only[eads,List.mem_append];exact ho.imp (M.keys h1 hW.1 o) (M.keysS h2 hW.2 o)
theorem zLT{o:Nat}(ho:o∉L'.map Prod.fst):(L++L').lookup o=L.lookup o:=by rw[zBD,ZW.2 ho,Option.or_none]
theorem zJg{o:Nat}(ho:o∉L.map Prod.fst):(L++L').lookup o=L'.lookup o:=by rw[zBD,ZW.2 ho,Option.none_or]
theorem MkT.rdS(M:MkT R mk len sq):∀{rows:List PV} {xs:List α} {k:Int},All2 R rows xs->Whs rows->(eads rows).Nodup->All2 R (rms (mkS mk len k rows xs) rows) (sqL sq len k xs)
 |[],[],k,_,_,_=>All2.nil _
 |[],x::xs,k,hr,_,_=>by have:=hr.1;simp at this
 |v::rows,[],k,hr,_,_=>by have:=hr.1;simp at this
 |v::rows,x::xs,k,hr,hW,c7=>by
  obtain⟨h1,h2⟩:=hr.tl;simp only[eads,List.nodup_append]at c7;obtain⟨n1,n2,n3⟩:=c7;have e1:rm (mkS mk len k (v::rows) (x::xs)) v=rm (mk k v x) v:=zHV λo ho=>zLT λhm=>n3 o ho o (M.keysS h2 hW.2 o hm) rfl;have e2:rms (mkS mk len k (v::rows) (x::xs)) rows=rms (mkS mk len (k+len x) rows xs) rows:=QV λo ho=>zJg λhm=>n3 o (M.keys h1 hW.1 o hm) o ho rfl;simp only[rms,sqL];rw[e1,e2];exact All2.cons (M.rdS h2 hW.2 n2) (M.rd h1 hW.1 n1)
theorem All2.nil_iff{β γ:Type}{R:β->γ->Prop}{as:List β}{bs:List γ}(h:All2 R as bs):as=[]↔bs=[]:=
 ⟨λe=>List.eq_nil_of_length_eq_zero (by rw[<-h.1,e];rfl),λe=>List.eq_nil_of_length_eq_zero (by rw[h.1,e];rfl)⟩
theorem MkT.F(M:MkT R mk len sq):MkT (FL R) (mkF mk len) (totL len) (sqL sq len) where
 keys:=by
  rintro k v xs ⟨w,a,rows,rfl,hr⟩ hW o ho
  by_cases ai:rows=[]
  .subst ai;simp[mkF,rowsOf,mkS]at ho
  .obtain⟨hw,hs,kJ⟩:=hW.resolve_left ai;obtain⟨o',off,l',cap,rfl⟩:=zDy hs;rw[zBn ai];exact List.mem_cons_of_mem _ (M.keysS hr kJ o ho)
 rd:=by
  rintro k v xs ⟨w,a,rows,rfl,hr⟩ hW c7
  by_cases ai:rows=[]
  .subst ai
   have:=hr.nil_iff.1 rfl
   subst this;exact⟨w,a,[],rfl,All2.nil _⟩
  .obtain⟨hw,hs,kJ⟩:=hW.resolve_left ai;obtain⟨o',off,l',cap,rfl⟩:=zDy hs;rw[zBn ai]at c7;obtain⟨h1,h2⟩:=List.nodup_cons.1 c7;have hl:(mkF mk len k (.fz w (.sl o' off l' cap) xs.length rows) xs).lookup o'=none:=ZW.2 λhm=>h1 (M.keysS hr kJ o' hm);rw[rm_fz ai,hl];exact⟨w,.sl o' off l' cap,rms (mkS mk len k rows xs) rows,by rw[zBB];rfl,M.rdS hr kJ h2⟩
theorem zKV(k:Int)(xs:List α):mkS mk len k [] xs=[]:=by simp[mkS]
theorem zH1:∀{rows:List PV} {xs:List α} {k:Int} {i:Nat} {v:PV} (hi:i<xs.length),rows[i]? = some v->mkS mk len k (rows.take (i+1)) (xs.take (i+1))=mkS mk len k (rows.take i) (xs.take i)++mk (k+totL len (xs.take i)) v xs[i]
 |[],xs,k,i,v,hi,hv=>by simp at hv
 |r::rows,[],k,i,v,hi,hv=>by simp at hi
 |r::rows,x::xs,k,0,v,hi,hv=>by
  simp only[List.getElem?_cons_zero,Option.some.injEq]at hv;subst hv;simp[mkS,totL]
 |r::rows,x::xs,k,i+1,v,hi,hv=>by
  simp only[List.getElem?_cons_succ]at hv;simp only[List.take_succ_cons,mkS,List.getElem_cons_succ];rw[zH1 (by simpa using hi) hv,zDE,List.append_assoc];congr 3;omega
theorem Whs.get{rows:List PV}(h:Whs rows){i:Nat}{v:PV}(hv:rows[i]? = some v):Wh v:=Qp.1 h v (List.mem_of_getElem? hv)
theorem zNn{rows:List PV}{i:Nat}{v:PV}(hv:rows[i]? = some v)(c7:(eads rows).Nodup):(ead v).Nodup/\∀o∈eads (rows.take i),o∉ead v:=by
 have hi:=(List.getElem?_eq_some_iff.1 hv).1;have hg:rows[i]=v:=(List.getElem?_eq_some_iff.1 hv).2;have e:rows=rows.take i++v::rows.drop (i+1):=by
  conv=>lhs;rw[<-List.take_append_drop i rows]
  rw[List.drop_eq_getElem_cons hi,hg]
 rw[e,zAo,List.nodup_append]at c7;simp only[eads,List.nodup_append]at c7;exact⟨c7.2.1.1,λo ho hm=>c7.2.2 o ho o (List.mem_append.2 (.inl hm)) rfl⟩
theorem zGt{rows:List PV}{i o:Nat}(ho:o∈eads (rows.take i)):o∈eads rows:=by
 obtain⟨c,hc,ho⟩:=zEl.1 ho;exact zEl.2 ⟨c,List.mem_of_mem_take hc,ho⟩
theorem MkT.step(M:MkT R mk len sq){rows:List PV}{xs:List α}{k:Int}(hr:All2 R rows xs)(hW:Whs rows)(c7:(eads rows).Nodup)(hv:VOKs (zlt h) h 0 rows){i:Nat}(hi:i<xs.length)
  (u:Upd h (mkS mk len k (rows.take i) (xs.take i)) h'):∃v,rows[i]? = some v/\R v xs[i]/\Wh v/\(ead v).Nodup/\VOK (zlt h') h' 0 v/\
   ∀cN,Upd h' (mk (k+totL len (xs.take i)) v xs[i]) cN->Upd h (mkS mk len k (rows.take (i+1)) (xs.take (i+1))) cN:=by
 obtain⟨v,h1,h2⟩:=hr.get hi;obtain⟨n1,n2⟩:=zNn h1 c7;have BR:Whs (rows.take i):=Qp.2 λc hc=>Qp.1 hW c (List.mem_of_mem_take hc);have hk:∀o∈(mkS mk len k (rows.take i) (xs.take i)).map Prod.fst,o∈eads (rows.take i):=M.keysS (hr.take i) BR;have kS:=hv.get h1;have fC:VOK (zlt h) h' 0 v:=by
  have:=zFH u (λo ho=>ho) kS
  rwa[zHU λo ho hm=>n2 o (hk o ho) hm]at this
 refine⟨v,h1,h2,hW.get h1,n1,fC.mono (λo ho=>⟨Nat.lt_of_lt_of_le ho u.next,rfl⟩) (vM _),λcN u'=>?_⟩;rw[zH1 hi h1];have cf:=M.keys (k:=k+totL len (xs.take i)) h2 (hW.get h1);exact u.trans u' (λo ho hm=>n2 o (hk o ho) (cf o hm)) λo ho=>ead_z kS o (cf o ho)
theorem zA4.of{f:FuncId}{v:PV}{k r:Int}(hb:Bel 0 v)(p6:∀o∈L.map Prod.fst,o∈ead v)
  (hA:∀h,HWF h->VOK (zlt h) h 0 v->ZK P f [er idz v,.int .i64 k] h λx h'=>x=.int .i64 r/\Upd h L h'):zA4 P f [v,.int .i64 k] U L .i64 r:=by
 intro ι Z h rl va;have iX:VOK Z h 0 v:=va.1.of_bel hb;have nK:VOK (zlt h) h 0 v:=iX.mono (λo ho=>⟨rl.zlt o ho,rfl⟩) (vM _);refine⟨λo ms hl=>ead_z iX o (p6 o ?_),?_⟩
 .by_cases hm:o∈L.map Prod.fst
  .exact hm
  .rw[ZW.2 hm]at hl;cases hl
 .have:=hA h rl.hwf nK
  rw[<-zB5 (ι:=ι) iX]at this;exact this
theorem CallM.mark'{f:FuncId}{args:List IX}{cq:List PV}{e:PEnv}{KM:PEnv->PV->PHeap->Prop}{k:IntKind}{r:Int}(ha:args.map (·.pv e)=cq)(c:zA4 P f cq U L k r)(hk:KM (λt=>rm L (e t)) (.int k r) (U.rmap L)):CallM P f args e U KM:=
 .mark (ha ▸ c) hk
end Go.Ab
set_option linter.unusedVariables false
set_option linter.unusedSimpArgs false
namespace Go.Ab
structure SR where
 s:Nat
 cap:Cap
 x:L3
def SR.pv(q:SR):PV:=.sl q.s 0 q.x.length q.cap
def SR.ok(U:PHeap)(b:Nat)(q:SR):Prop:=full 1 q.cap q.x.length/\U.obj q.s=some (pis q.x)/\b<=q.s/\q.s<U.next
def ZU(rows:List SR):List Nat:=rows.map SR.s
end Go.Ab
set_option linter.unusedVariables false
set_option linter.unusedSimpArgs false
namespace Go.Ab
variable{h:PHeap}
theorem SR.ok.keep{b:Nat}{h':PHeap}{q:SR}(a:q.ok h b)(k:Keep h h'):q.ok h' b:=⟨a.1,by rw[k.obj _ a.2.2.2];exact a.2.1,a.2.2.1,Nat.lt_of_lt_of_le a.2.2.2 k.next⟩
end Go.Ab
set_option linter.unusedVariables false
set_option linter.unusedSimpArgs false
namespace Go.Ab
variable{σ0 σ1 U:PHeap}{K:PV->PHeap->Prop}{ι:Nat->Nat}{Z Z':Nat->Prop}{h:AHeap}{b lo hi:Nat}{a:Nat->Nat}
inductive TR where
 |leaf (v:PV)
 |nil
 |lst (s:Nat) (cap:Cap) (kids:List TR)
 |cut (s off l:Nat) (cap:Cap) (kids:List TR)
 |agg (kids:List TR)
 |tup (kids:List TR)
def leafy:PV->Prop
 | .int _ _ | .bool _ | .str _=>True
 |_=>False
mutual
def TR.pv:TR->PV
 | .leaf v=>v
 | .nil=>.fz true .nils 0 []
 | .lst s cap kids=>.sl s 0 kids.length cap
 | .cut s off l cap kids=>.sl s off l cap
 | .agg kids=>.agg (TR.pvs kids)
 | .tup kids=>.tup (TR.pvs kids)
def TR.pvs:List TR->List PV
 |[]=>[]
 |t::ts=>TR.pv t::TR.pvs ts
end
mutual
def TR.fz(a:Nat->Nat):TR->PV
 | .leaf v=>v
 | .nil=>.fz true .nils 0 []
 | .lst s cap kids=>.fz true (.sl (a s) 0 kids.length cap) kids.length (TR.fzs a kids)
 | .cut s off l cap kids=>.fz false (.sl (a s) off l cap) l (((TR.fzs a kids).drop off).take l)
 | .agg kids=>.agg (TR.fzs a kids)
 | .tup kids=>.tup (TR.fzs a kids)
def TR.fzs(a:Nat->Nat):List TR->List PV
 |[]=>[]
 |t::ts=>TR.fz a t::TR.fzs a ts
end
mutual
def TR.slots:TR->List Nat
 | .leaf _=>[]
 | .nil=>[]
 | .lst s _ kids=>s::TR.slotss kids
 | .cut s _ _ _ kids=>s::TR.slotss kids
 | .agg kids=>TR.slotss kids
 | .tup kids=>TR.slotss kids
def TR.slotss:List TR->List Nat
 |[]=>[]
 |t::ts=>TR.slots t++TR.slotss ts
end
mutual
def TR.ok(U:PHeap)(b:Nat):TR->Prop
 | .leaf v=>leafy v
 | .nil=>True
 | .lst s cap kids=>(full 1 cap kids.length/\U.obj s=some (TR.pvs kids)/\b<=s/\s<U.next)/\TR.oks U b kids
 | .cut _ _ _ _ _=>False
 | .agg kids=>TR.oks U b kids
 | .tup kids=>TR.oks U b kids
def TR.oks(U:PHeap)(b:Nat):List TR->Prop
 |[]=>True
 |t::ts=>TR.ok U b t/\TR.oks U b ts
end
theorem TR.fzs_length:∀ts:List TR,(TR.fzs a ts).length=ts.length
 |[]=>rfl
 |t::ts=>by simp only[TR.fzs,List.length_cons,TR.fzs_length ts]
theorem zO5{v:PV}(h:leafy v)(ι ι':Nat->Nat):er ι v=er ι' v:=by
 cases v<;>simp only[leafy]at h<;>rfl
theorem zNO{v:PV}(hl:leafy v)(n:Nat):VOK Z h n v:=by
 cases v<;>simp only[leafy]at hl<;>trivial
mutual
theorem TR.er_fz(κ:Nat->Nat):∀{t:TR},t.ok U b->er κ (t.fz ι)=er ι t.pv
 | .leaf v,ht=>zO5 ht _ _
 | .nil,_=>rfl
 | .lst s cap kids,ht=>rfl
 | .cut _ _ _ _ _,ht=>ht.elim
 | .agg kids,ht=>by simp only[TR.fz,TR.pv,er];rw[TR.ers_fz κ (ts:=kids) ht]
 | .tup kids,ht=>by simp only[TR.fz,TR.pv,er];rw[TR.ers_fz κ (ts:=kids) ht]
theorem TR.ers_fz(κ:Nat->Nat):∀{ts:List TR},TR.oks U b ts->ers κ (TR.fzs ι ts)=ers ι (TR.pvs ts)
 |[],_=>rfl
 |t::ts,ht=>by simp only[TR.fzs,TR.pvs,ers];rw[TR.er_fz κ ht.1,TR.ers_fz κ ht.2]
end
mutual
theorem TR.vok(r:Rel ι Z U h):∀{t:TR},t.ok U b->(∀s∈t.slots,Z' (ι s))->VOK Z' h 0 (t.fz ι)
 | .leaf v,ht,_=>zNO ht 0
 | .nil,_,_=>⟨.inl ⟨rfl,rfl,rfl⟩,trivial⟩
 | .lst s cap kids,⟨⟨h1,h2,h3,h4⟩,ht⟩,hz=>by
  obtain⟨q1,q2,q3⟩:=r.obj s _ h2;rw[<-TR.ers_fz idz ht]at q1;refine⟨.inr ⟨ι s,0,cap,rfl,hz s (List.mem_cons_self ..),.inr (zBc q1 rfl),λc hc=>?_,λ_=>⟨rfl,q1⟩⟩,TR.voks r ht λs' bZ=>hz s' (List.mem_cons_of_mem _ bZ)⟩;subst hc
  have:=h1.ok
  simpa [capOK]using this
 | .cut _ _ _ _ _,ht,_=>ht.elim
 | .agg kids,ht,hz=>TR.voks r (ts:=kids) ht hz
 | .tup kids,ht,hz=>TR.voks r (ts:=kids) ht hz
theorem TR.voks(r:Rel ι Z U h):∀{ts:List TR},TR.oks U b ts->(∀s∈TR.slotss ts,Z' (ι s))->VOKs Z' h 0 (TR.fzs ι ts)
 |[],_,_=>trivial
 |t::ts,ht,hz=>⟨TR.vok r ht.1 λs hs=>hz s (List.mem_append.2 (.inl hs)),TR.voks r ht.2 λs hs=>hz s (List.mem_append.2 (.inr hs))⟩
end
mutual
theorem TR.slot_obj:∀{t:TR},t.ok U b->∀s∈t.slots,b<=s/\∃cs,U.obj s=some cs
 | .leaf v,_,s,hs=>by cases hs
 | .nil,_,s,hs=>by cases hs
 | .lst s' cap kids,⟨⟨h1,h2,h3,h4⟩,ht⟩,s,hs=>by
  simp only[TR.slots,List.mem_cons]at hs;rcases hs with rfl|hs
  .exact⟨h3,_,h2⟩
  .exact TR.slots_obj ht s hs
 | .cut _ _ _ _ _,ht,_,_=>ht.elim
 | .agg kids,ht,s,hs=>TR.slots_obj (ts:=kids) ht s hs
 | .tup kids,ht,s,hs=>TR.slots_obj (ts:=kids) ht s hs
theorem TR.slots_obj:∀{ts:List TR},TR.oks U b ts->∀s∈TR.slotss ts,b<=s/\∃cs,U.obj s=some cs
 |[],_,s,hs=>by cases hs
 |t::ts,ht,s,hs=>by
  simp only[TR.slotss,List.mem_append]at hs;rcases hs with hs|hs
  .exact TR.slot_obj ht.1 s hs
  .exact TR.slots_obj ht.2 s hs
end
theorem Gh.tree{t:TR}(hk:Keep σ0 σ1)(ht:t.ok σ1 σ0.next)
  (k:∀a T,(∀s∈t.slots,σ0.top<=a s/\a s<T)->(∀s∈t.slots,∀s'∈t.slots,a s=a s'->s=s')->σ0.top<=T->K (t.fz a) (σ0.up T)):Gh σ0 K t.pv σ1:=by
 intro w ι Z h b r hv h1 h2 h3 h4;have lO:=TR.slot_obj ht;have ag:∀{s:Nat} {cs:List PV},σ1.obj s=some cs->ι s<h.next:=λhs=>r.hwf.lt (r.obj _ _ hs).1;have dz:∀o,Z o->(Z o\/∃s∈t.slots,o=ι s)/\h.obj o=h.obj o:=λo ho=>⟨.inl ho,rfl⟩
 have e9:∀s∈t.slots,∀s'∈t.slots,ι s=ι s'->s=s':=λs hs s' bZ e=>by
  obtain⟨_,cs,g⟩:=lO s hs;obtain⟨_,dF,g'⟩:=lO s' bZ;exact r.inj s s' cs dF g g' e
 refine⟨t.fz ι,σ0.up h.next,ι,λo=>Z o\/∃s∈t.slots,o=ι s,⟨r.hwf,?_,vM _,w.wf,λs cs hs=>?_,λs s' cs dF hs bZ he=>?_⟩,?_,vM _,λ_ _=>rfl,λ_ ho=>.inl ho,λs cs hs hc=>?_,λs hs hn=>hn,TR.er_fz ι ht,k ι h.next (λs hs=>?_) e9 (Nat.le_trans hk.top r.top)⟩
 .rintro o (ho|⟨s,hs,rfl⟩)
  .exact r.zlt o ho
  .obtain⟨_,cs,g⟩:=lO s hs;exact ag g
 .have hl:=w.lt hs;have fD:σ1.obj s=some cs:=by rw[hk.obj s hl];exact hs
  obtain⟨q1,q2,q3⟩:=r.obj s cs fD;refine⟨q1,(q2.of_bel (w.bel s cs hs)).mono dz (vM _),?_⟩
  rintro(hz|⟨s',bZ,e⟩)
  .exact q3 hz
  .obtain⟨g0,dF,g⟩:=lO s' bZ
   have:=r.inj s s' cs dF fD g e
   omega
 .exact r.inj s s' cs dF (by rw[hk.obj s (w.lt hs)];exact hs) (by rw[hk.obj s' (w.lt bZ)];exact bZ) he
 .exact(TR.vok r ht λs hs=>.inr ⟨s,hs,rfl⟩).mono (λo ho=>⟨ho,rfl⟩) (Nat.zero_le _)
 .have:=w.lt hc
  omega
 .obtain⟨g0,cs,g⟩:=lO s hs;exact⟨Nat.le_trans h2 (h3 s cs g0 g),ag g⟩
theorem zNP{v:PV}(h:leafy v):ead v=[]/\Wh v:=by
 cases v<;>simp only[leafy]at h<;>exact⟨rfl,trivial⟩
mutual
theorem TR.ead_sub:∀{t:TR},t.ok U b->(ead (t.fz a)).Sublist (t.slots.map a)/\Wh (t.fz a)
 | .leaf v,ht=>by
  obtain⟨h1,h2⟩:=zNP ht;exact⟨by simp only[TR.fz,TR.slots,h1,List.map_nil];exact List.Sublist.refl _,h2⟩
 | .nil,_=>⟨List.Sublist.refl _,.inl rfl⟩
 | .lst s cap kids,⟨_,ht⟩=>by
  obtain⟨h1,h2⟩:=TR.eads_sub ht;simp only[TR.fz,TR.slots,List.map_cons];by_cases hn:TR.fzs a kids=[]
  .rw[hn];exact⟨List.nil_sublist _,.inl rfl⟩
  .rw[zBn hn];exact⟨List.Sublist.cons_cons _ h1,.inr ⟨rfl,rfl,h2⟩⟩
 | .cut _ _ _ _ _,ht=>ht.elim
 | .agg kids,ht=>TR.eads_sub (ts:=kids) ht
 | .tup kids,ht=>TR.eads_sub (ts:=kids) ht
theorem TR.eads_sub:∀{ts:List TR},TR.oks U b ts->(eads (TR.fzs a ts)).Sublist ((TR.slotss ts).map a)/\Whs (TR.fzs a ts)
 |[],_=>⟨List.Sublist.refl _,trivial⟩
 |t::ts,ht=>by
  obtain⟨h1,h2⟩:=TR.ead_sub ht.1;obtain⟨h3,h4⟩:=TR.eads_sub ht.2;simp only[TR.fzs,TR.slotss,eads,List.map_append];exact⟨h1.append h3,h2,h4⟩
end
theorem zG5{xs:List Nat}(hn:xs.Nodup)(hi:∀s∈xs,∀s'∈xs,a s=a s'->s=s'):(xs.map a).Nodup:=by
 induction xs with
 |nil=>exact List.nodup_nil
 |cons x xs ih=>
  rw[List.nodup_cons]at hn;rw[List.map_cons,List.nodup_cons];refine⟨λhm=>?_,ih hn.2 λs hs s' bZ=>hi s (List.mem_cons_of_mem _ hs) s' (List.mem_cons_of_mem _ bZ)⟩;obtain⟨y,hy,e⟩:=List.mem_map.1 hm
  have:=hi y (List.mem_cons_of_mem _ hy) x (List.mem_cons_self ..) e
  exact hn.1 (this ▸ hy)
theorem TR.own{t:TR}(ht:t.ok U b)(hn:t.slots.Nodup)(hb:∀s∈t.slots,lo<=a s/\a s<hi)(A8:∀s∈t.slots,∀s'∈t.slots,a s=a s'->s=s'):Own lo hi (t.fz a):=by
 obtain⟨h1,h2⟩:=TR.ead_sub (a:=a) ht;refine⟨h2,(zG5 hn A8).sublist h1,λo ho=>?_⟩;obtain⟨s,hs,rfl⟩:=List.mem_map.1 (h1.subset ho);exact hb s hs
theorem Gh.treeO{t:TR}(hk:Keep σ0 σ1)(ht:t.ok σ1 σ0.next)(hn:t.slots.Nodup)(k:∀a T,Own σ0.top T (t.fz a)->σ0.top<=T->K (t.fz a) (σ0.up T)):Gh σ0 K t.pv σ1:=
 Gh.tree hk ht λa T h1 h2 h3=>k a T (TR.own ht hn h1 h2) h3
def TR.row(s:Nat)(cap:Cap)(x:L3):TR:=.lst s cap (x.map λn=>.leaf (.int .i64 n))
theorem TR.ints_pvs:∀x:L3,TR.pvs (x.map λn=>.leaf (.int .i64 n))=pis x
 |[]=>rfl
 |n::x=>by simp only[List.map_cons,TR.pvs,TR.pv,TR.ints_pvs x];rfl
theorem TR.ints_fzs:∀x:L3,TR.fzs a (x.map λn=>.leaf (.int .i64 n))=pis x
 |[]=>rfl
 |n::x=>by simp only[List.map_cons,TR.fzs,TR.fz,TR.ints_fzs x];rfl
theorem TR.ints_oks:∀x:L3,TR.oks U b (x.map λn=>.leaf (.int .i64 n))
 |[]=>trivial
 |n::x=>⟨trivial,TR.ints_oks x⟩
theorem TR.ints_slots:∀x:L3,TR.slotss (x.map λn=>.leaf (.int .i64 n))=[]
 |[]=>rfl
 |n::x=>by simp only[List.map_cons,TR.slotss,TR.slots,List.nil_append,TR.ints_slots x]
theorem TR.row_pv{s:Nat}{cap:Cap}{x:L3}:(TR.row s cap x).pv=.sl s 0 x.length cap:=by simp[TR.row,TR.pv]
theorem TR.row_fz{s:Nat}{cap:Cap}{x:L3}:(TR.row s cap x).fz a=.fz true (.sl (a s) 0 x.length cap) x.length (pis x):=by simp only[TR.row,TR.fz,TR.ints_fzs,List.length_map]
theorem TR.row_FI{s:Nat}{cap:Cap}{x:L3}:FI ((TR.row s cap x).fz a) x:=⟨true,_,TR.row_fz⟩
theorem TR.row_ok{s:Nat}{cap:Cap}{x:L3}(h1:full 1 cap x.length)(h2:U.obj s=some (pis x))(h3:b<=s)(h4:s<U.next):(TR.row s cap x).ok U b:=
 ⟨⟨by rw[List.length_map];exact h1,by rw[TR.ints_pvs];exact h2,h3,h4⟩,TR.ints_oks x⟩
theorem TR.row_slots{s:Nat}{cap:Cap}{x:L3}:(TR.row s cap x).slots=[s]:=by simp only[TR.row,TR.slots,TR.ints_slots]
def SR.tr(q:SR):TR:=TR.row q.s q.cap q.x
theorem SR.ok.tr{q:SR}(h:q.ok U b):q.tr.ok U b:=TR.row_ok h.1 h.2.1 h.2.2.1 h.2.2.2
theorem TR.rows_pvs:∀rows:List SR,TR.pvs (rows.map SR.tr)=rows.map SR.pv
 |[]=>rfl
 |q::rows=>by simp only[List.map_cons,TR.pvs,TR.rows_pvs rows];rw[show q.tr.pv=q.pv from TR.row_pv]
theorem TR.rows_oks:∀{rows:List SR},(∀q∈rows,q.ok U b)->TR.oks U b (rows.map SR.tr)
 |[],_=>trivial
 |q::rows,h=>⟨(h q (List.mem_cons_self ..)).tr,TR.rows_oks λq' hq=>h q' (List.mem_cons_of_mem _ hq)⟩
theorem TR.rows_slots:∀rows:List SR,TR.slotss (rows.map SR.tr)=ZU rows
 |[]=>rfl
 |q::rows=>by
  simp only[List.map_cons,TR.slotss,TR.rows_slots rows];rw[show q.tr.slots=[q.s] from TR.row_slots];rfl
theorem TR.rows_all2:∀rows:List SR,All2 FI (TR.fzs a (rows.map SR.tr)) (rows.map SR.x)
 |[]=>All2.nil _
 |q::rows=>by
  have h:=TR.rows_all2 rows;refine⟨by simp only[List.map_cons,TR.fzs,List.length_cons,h.1],λk c x hc hx=>?_⟩;cases k with
  |zero=>
   simp only[List.map_cons,TR.fzs,List.getElem?_cons_zero,Option.some.injEq]at hc hx;rw[<-hc,<-hx];exact TR.row_FI
  |succ k=>
   simp only[List.map_cons,TR.fzs,List.getElem?_cons_succ]at hc hx;exact h.2 k c x hc hx
def TR.rows(s:Nat)(cap:Cap)(rows:List SR):TR:=.lst s cap (rows.map SR.tr)
theorem TR.rows_FII{s:Nat}{cap:Cap}{rows:List SR}:FII ((TR.rows s cap rows).fz a) (rows.map SR.x):=
 ⟨true,.sl (a s) 0 rows.length cap,TR.fzs a (rows.map SR.tr),by simp only[TR.rows,TR.fz,List.length_map],TR.rows_all2 rows⟩
theorem TR.rows_ok{s:Nat}{cap:Cap}{rows:List SR}(h1:full 1 cap rows.length)(h2:U.obj s=some (rows.map SR.pv))(h3:b<=s)(h4:s<U.next)(h5:∀q∈rows,q.ok U b):(TR.rows s cap rows).ok U b:=
 ⟨⟨by rw[List.length_map];exact h1,by rw[TR.rows_pvs];exact h2,h3,h4⟩,TR.rows_oks h5⟩
mutual
def TR.okF(U:PHeap)(b:Nat):TR->Prop
 | .leaf v=>Bel 0 v
 | .nil=>True
 | .lst s cap kids=>(full 1 cap kids.length/\U.obj s=some (TR.pvs kids)/\b<=s/\s<U.next)/\TR.okFs U b kids
 | .cut s off l cap kids=>((∀c,cap=.known c->l<=c)/\U.obj s=some (TR.pvs kids)/\b<=s/\s<U.next/\off+l<=kids.length)/\TR.okFs U b kids
 | .agg kids=>TR.okFs U b kids
 | .tup kids=>TR.okFs U b kids
def TR.okFs(U:PHeap)(b:Nat):List TR->Prop
 |[]=>True
 |t::ts=>TR.okF U b t/\TR.okFs U b ts
end
mutual
theorem TR.vokF(r:Rel ι Z U h)(fF:∀o,Z o->Z' o):∀{n:Nat} {t:TR},t.okF U b->VOK Z h n t.pv->(∀s∈t.slots,Z' (ι s))->VOK Z' h 0 (t.fz ι)/\∀κ,er κ (t.fz ι)=er ι t.pv
 |n,.leaf v,ht,hv,_=>by
  have h0:VOK Z h 0 v:=VOK.of_bel hv ht;exact⟨h0.mono (λo ho=>⟨fF o ho,rfl⟩) (vM _),λκ=>show er κ v=er ι v from(zB5 h0).trans (zB5 h0).symm⟩
 |n,.nil,_,_,_=>⟨⟨.inl ⟨rfl,rfl,rfl⟩,trivial⟩,λ_=>rfl⟩
 |n,.lst s cap kids,⟨⟨h1,h2,h3,h4⟩,ht⟩,hv,hz=>by
  obtain⟨q1,q2,q3⟩:=r.obj s _ h2;obtain⟨g1,g2⟩:=TR.voksF r fF ht q2 λs' bZ=>hz s' (List.mem_cons_of_mem _ bZ);rw[<-g2 idz]at q1;refine⟨⟨.inr ⟨ι s,0,cap,rfl,hz s (List.mem_cons_self ..),.inr (zBc q1 rfl),λc hc=>?_,λ_=>⟨rfl,q1⟩⟩,g1⟩,λκ=>rfl⟩;subst hc
  have:=h1.ok
  simpa [capOK]using this
 |n,.cut s off l cap kids,⟨⟨h1,h2,h3,h4,h5⟩,ht⟩,hv,hz=>by
  obtain⟨q1,q2,q3⟩:=r.obj s _ h2;obtain⟨g1,g2⟩:=TR.voksF r fF ht q2 λs' bZ=>hz s' (List.mem_cons_of_mem _ bZ);rw[<-g2 idz]at q1;have hl:(((TR.fzs ι kids).drop off).take l).length=l:=by rw[List.length_take,List.length_drop,TR.fzs_length];omega
  refine⟨⟨.inr ⟨ι s,off,cap,rfl,hz s (List.mem_cons_self ..),.inr ?_,h1,λe=>by cases e⟩,(g1.drop off).take l⟩,λκ=>rfl⟩;rw[Qb,Qc,List.length_take,List.length_drop,qG,TR.fzs_length,Nat.min_eq_left (by omega)];exact zBv q1 (by show off+l<=(ers idz (TR.fzs ι kids)).length;rw[qG,TR.fzs_length];exact h5)
 |n,.agg kids,ht,hv,hz=>by
  obtain⟨g1,g2⟩:=TR.voksF (ts:=kids) r fF ht hv hz;exact⟨g1,λκ=>by simp only[TR.fz,TR.pv,er];rw[g2 κ]⟩
 |n,.tup kids,ht,hv,hz=>by
  obtain⟨g1,g2⟩:=TR.voksF (ts:=kids) r fF ht hv hz;exact⟨g1,λκ=>by simp only[TR.fz,TR.pv,er];rw[g2 κ]⟩
theorem TR.voksF(r:Rel ι Z U h)(fF:∀o,Z o->Z' o):∀{n:Nat} {ts:List TR},TR.okFs U b ts->VOKs Z h n (TR.pvs ts)->(∀s∈TR.slotss ts,Z' (ι s))->VOKs Z' h 0 (TR.fzs ι ts)/\∀κ,ers κ (TR.fzs ι ts)=ers ι (TR.pvs ts)
 |n,[],_,_,_=>⟨trivial,λ_=>rfl⟩
 |n,t::ts,ht,hv,hz=>by
  obtain⟨g1,g2⟩:=TR.vokF r fF ht.1 hv.1 λs hs=>hz s (List.mem_append.2 (.inl hs));obtain⟨g3,g4⟩:=TR.voksF r fF ht.2 hv.2 λs hs=>hz s (List.mem_append.2 (.inr hs));exact⟨⟨g1,g3⟩,λκ=>by simp only[TR.fzs,TR.pvs,ers];rw[g2 κ,g4 κ]⟩
end
mutual
theorem TR.slot_objF:∀{t:TR},t.okF U b->∀s∈t.slots,b<=s/\∃cs,U.obj s=some cs
 | .leaf v,_,s,hs=>by cases hs
 | .nil,_,s,hs=>by cases hs
 | .lst s' cap kids,⟨⟨h1,h2,h3,h4⟩,ht⟩,s,hs=>by
  simp only[TR.slots,List.mem_cons]at hs;rcases hs with rfl|hs
  .exact⟨h3,_,h2⟩
  .exact TR.slots_objF ht s hs
 | .cut s' off l cap kids,⟨⟨h1,h2,h3,h4,h5⟩,ht⟩,s,hs=>by
  simp only[TR.slots,List.mem_cons]at hs;rcases hs with rfl|hs
  .exact⟨h3,_,h2⟩
  .exact TR.slots_objF ht s hs
 | .agg kids,ht,s,hs=>TR.slots_objF (ts:=kids) ht s hs
 | .tup kids,ht,s,hs=>TR.slots_objF (ts:=kids) ht s hs
theorem TR.slots_objF:∀{ts:List TR},TR.okFs U b ts->∀s∈TR.slotss ts,b<=s/\∃cs,U.obj s=some cs
 |[],_,s,hs=>by cases hs
 |t::ts,ht,s,hs=>by
  simp only[TR.slotss,List.mem_append]at hs;rcases hs with hs|hs
  .exact TR.slot_objF ht.1 s hs
  .exact TR.slots_objF ht.2 s hs
end
theorem Gh.treeF{t:TR}(hk:Keep σ0 σ1)(ht:t.okF σ1 σ0.next)(k:∀a,K (t.fz a) σ0):Gh σ0 K t.pv σ1:=by
 intro w ι Z h b r hv h1 h2 h3 h4;have lO:=TR.slot_objF ht;have ag:∀{s:Nat} {cs:List PV},σ1.obj s=some cs->ι s<h.next:=λhs=>r.hwf.lt (r.obj _ _ hs).1;have dz:∀o,Z o->(Z o\/∃s∈t.slots,o=ι s)/\h.obj o=h.obj o:=λo ho=>⟨.inl ho,rfl⟩
 obtain⟨v1,v2⟩:=TR.vokF (Z':=λo=>Z o\/∃s∈t.slots,o=ι s) r (λo ho=>.inl ho) ht hv λs hs=>.inr ⟨s,hs,rfl⟩;refine⟨t.fz ι,σ0,ι,λo=>Z o\/∃s∈t.slots,o=ι s,⟨r.hwf,?_,Nat.le_trans hk.top r.top,w.wf,λs cs hs=>?_,λs s' cs dF hs bZ he=>?_⟩,v1.mono (λo ho=>⟨ho,rfl⟩) (Nat.zero_le _),vM _,λ_ _=>rfl,λ_ ho=>.inl ho,λs cs hs hc=>?_,λs hs hn=>hn,v2 ι,k ι⟩
 .rintro o (ho|⟨s,hs,rfl⟩)
  .exact r.zlt o ho
  .obtain⟨_,cs,g⟩:=lO s hs;exact ag g
 .have hl:=w.lt hs;have fD:σ1.obj s=some cs:=by rw[hk.obj s hl];exact hs
  obtain⟨q1,q2,q3⟩:=r.obj s cs fD;refine⟨q1,(q2.of_bel (w.bel s cs hs)).mono dz (vM _),?_⟩
  rintro(hz|⟨s',bZ,e⟩)
  .exact q3 hz
  .obtain⟨g0,dF,g⟩:=lO s' bZ
   have:=r.inj s s' cs dF fD g e
   omega
 .exact r.inj s s' cs dF (by rw[hk.obj s (w.lt hs)];exact hs) (by rw[hk.obj s' (w.lt bZ)];exact bZ) he
 .have:=w.lt hc
  omega
end Go.Ab
