/- Helpers of the families: factors, digits, shifts, powers; copies of lists in slots. -/
import Derived.Test.YtfoidnlodahfjaaGreatAP31
import Derived.Test.YtfoidnlodahfjaaGreatAAbPa
import Derived.Test.YtfoidnlodahfjaaGreatAP28
import Derived.Test.YtfoidnlodahfjaaGreatAAbPn
import Derived.Test.YtfoidnlodahfjaaGreatAP40
import Derived.Test.YtfoidnlodahfjaaGreatAP33
open Int renaming reduceNatCast'→iQ0
set_option maxRecDepth 100000
set_option linter.unusedSimpArgs false
set_option linter.unusedVariables false
namespace Go.Proofs
open Go.Ab Go.Lie
variable {σ:PHeap} {K:PV→PHeap→Prop} {n:Nat} {p:Int}
structure LS where
 s:Nat
 cap:Cap
 cs:List PV
variable {h:PHeap} {p0 sO:Nat} {vO vP vC:PV} {cO pc:List PV} {ls:List (Option LS)}
end Go.Proofs
namespace Go.Grp
end Go.Grp
namespace Go.Proofs
open Go.Ab Go.Lie Go.Grp
variable {p:Int} {n c a:Nat} {W:List (List Int)} {B:List (List (List Int))} {x y:List Int} {f g:Vec}
abbrev rO (p:Int) (n:Nat):List Int:=List.replicate n p
end Go.Proofs
namespace Go.Proofs
open Go.Ab Go.Lie
variable {σ σ0 σ1:PHeap} {K:PV→PHeap→Prop} {vC:PV} {bs:List Int} {s:Nat} {a sd:Int}
def FB (v:PV) (bs:List Int):Prop:=∃w a,v=.fz w a bs.length (bs.map (.int .u8))
structure Byt (bs:List Int):Prop where
 len:bs.length≤1048576
 bd:∀b∈bs,0≤b∧b≤255
abbrev srcC (vC:PV) (a:Nat) (sd:Int):List PV:=[vC,.int .i64 (a:Int),.int .i64 sd]
structure Src (σ:PHeap) (s:Nat) (vC:PV) (bs:List Int) (a:Nat) (sd:Int):Prop where
 obj:σ.obj s=some (srcC vC a sd)
 lt:s<σ.next
 fb:FB vC bs
 byt:Byt bs
 le:a≤bs.length
 sd:0≤sd∧sd<2147483647
theorem FB.one {v:PV} (h:FB v bs):v.one=true:=by obtain⟨w,a,rfl⟩:=h;rfl
theorem FB.cells {v:PV} (h:FB v bs):v.cells=[v]:=by obtain⟨w,a,rfl⟩:=h;rfl
theorem FB.bel {v:PV} (h:FB v bs) (n:Nat):Bel n v:=by obtain⟨w,a,rfl⟩:=h;trivial
theorem FB.bels {v:PV} (h:FB v bs) (n a:Nat) (sd:Int):Bels n (srcC v a sd):=⟨h.bel n,trivial,trivial,trivial⟩
theorem Gh.setS {v:PV} {s:Nat} {c0 c1:List PV} (h0:σ0.obj s=some c0) (hb:Bels 0 c1) (k:Gh (σ0.set s c1) K v σ1):Gh σ0 K v σ1:=fun w ι Z h b r hv h1 h2 h3 h4=>by
 have hs:s<σ0.next:=w.lt h0;have w':PWF (σ0.set s c1):=by
  refine⟨fun t ht=>?_,fun t cs ht=>?_⟩
  ·have ht':σ0.next≤t:=ht
   rw [zI,if_neg (by omega)]
   exact w.wf t ht'
  ·rw [zI]at ht
   split at ht
   ·cases ht
    exact Bels.up (Nat.zero_le _) hb
   ·exact w.bel t cs ht
 obtain⟨v2,σ2,ι2,Z2,g1,g2,g3,g4,g5,g6,g7,g8,g9⟩:=k w' ι Z h b r hv h1 h2 h3 (fun t ht hn=>by
  rw [zI]at hn
  split at hn
  ·cases hn
  ·exact h4 t ht hn)
 refine⟨v2,σ2,ι2,Z2,g1,g2,g3,g4,g5,g6,fun t ht hn=>g7 t ht ?_,g8,g9⟩
 rw [zI,if_neg (by rintro rfl;rw [h0]at hn;cases hn)]
 exact hn
theorem Src.set {σ:PHeap} {a a':Nat} {sd sd':Int} (h:Src σ s vC bs a sd) (ha:a'≤bs.length) (hs:0≤sd'∧sd'<2147483647):Src (σ.set s (srcC vC a' sd')) s vC bs a' sd':=
 ⟨by rw [zI,if_pos rfl],h.lt,h.fb,h.byt,ha,hs⟩
theorem Src.keep {σ σ':PHeap} {a:Nat} {sd:Int} (h:Src σ s vC bs a sd) (k:Keep σ σ'):Src σ' s vC bs a sd:=
 ⟨by rw [k.obj s h.lt];exact h.obj,Nat.lt_of_lt_of_le h.lt k.next,h.fb,h.byt,h.le,h.sd⟩
theorem Src.q {σ:PHeap} {a:Nat} {sd:Int} (h:Src σ s vC bs a sd):σ.rd1 s 0=some vC∧σ.rd1 s 1=some (.int .i64 a)∧σ.rd1 s 2=some (.int .i64 sd):=by
 refine⟨?_,?_,?_⟩<;>(rw [zH h.obj];rfl)
theorem Src.w1 {σ:PHeap} {a:Nat} {sd x:Int} (h:Src σ s vC bs a sd):σ.wr s 1 [.int .i64 x]=some (σ.set s [vC,.int .i64 x,.int .i64 sd]):=by
 rw [zR h.obj,if_pos ⟨by simp,rfl⟩];rfl
theorem Src.w2 {σ:PHeap} {a:Nat} {sd x:Int} (h:Src σ s vC bs a sd):σ.wr s 2 [.int .i64 x]=some (σ.set s (srcC vC a x)):=by
 rw [zR h.obj,if_pos ⟨by simp,rfl⟩];rfl
theorem zH8 (σ:PHeap) (s:Nat) (x y:List PV):(σ.set s x).set s y=σ.set s y:=by
 simp only [PHeap.set]
 congr 1
 funext t
 split<;>rfl
theorem zH9 (σ:PHeap) (x y:List PV):(σ.new x).set σ.next y=σ.new y:=by
 simp only [PHeap.new,PHeap.set]
 congr 1
 funext t
 split<;>rfl
theorem zJT {j:Nat} (hB:Byt bs) (hj:j<bs.length):(bs.map (PV.int .u8))[j]? = some (.int .u8 (bs.getD j 0))∧0≤bs.getD j 0∧bs.getD j 0≤255:=by
 have e:bs.getD j 0=bs[j]:=by simp [List.getD_eq_getElem?_getD,List.getElem?_eq_getElem hj]
 rw [e];exact⟨by rw [List.getElem?_map,List.getElem?_eq_getElem hj];rfl,hB.bd _ (List.getElem_mem hj)⟩
def Nx (n x:Int):Prop:=0≤x∧(n≤1→x=0)∧(1<n→x<n)
theorem Nx.lt {n x:Int} (h:Nx n x) (hn:1≤n):x<n:=by
 obtain⟨h0,h1,h2⟩:=h;rcases Int.lt_or_le 1 n with g|g
 ·exact h2 g
 ·have:=h1 g;omega
theorem zIu {n x:Int} (hn:1<n) (hx:0≤x):Nx n (x.tmod n):=by
 rw [Int.tmod_eq_emod_of_nonneg hx];have h1:=Int.emod_nonneg x (show n≠0 by omega)
 have h2:=Int.emod_lt_of_pos x (show 0<n by omega)
 exact⟨h1,fun h=>by omega,fun _=>h2⟩
theorem zHk (hb:FB vC bs) (hB:Byt bs) (hk:∀sd,0≤sd∧sd<2147483647→K (.ptr σ.next 0) (σ.new (srcC vC 0 sd))):zA Tryz.prog 31 [vC] σ K:=by
 obtain⟨w,av,rfl⟩:=hb;have hl:=hB.len;refine zC mix Tryz.func31 ?_
 conv=>arg 2;cbv
 refine zD rfl ?_;simp only [pwA,seval,-iQ0];generalize hC:(PV.fz w av bs.length (bs.map (.int .u8)))=vC at *
 refine zF (fun m vs h'=>∃(i:Nat) (sd:Int),i≤bs.length∧m=bs.length-i∧vs=[vC,.ptr σ.next 0,.int .i64 i]∧σ.new (srcC vC 0 sd)=h'∧0≤sd∧sd<2147483647) bs.length ?_ ?_
 ·exact⟨0,76001,by omega,by omega,rfl,rfl,by omega,by omega⟩
 rintro m vs h' ⟨i,sd,hi,rfl,rfl,rfl,h0,h1⟩
 have hlen:pLen vC=some (.int .i64 bs.length):=by rw [←hC];rfl
 have wi1:IntKind.i64.wrap ((i:Int)+1)=((i+1:Nat):Int):=by rw [wrap64 (by omega) (by omega)];omega
 have out:K (.ptr σ.next 0) (σ.new (srcC vC 0 sd)):=hk sd ⟨h0,h1⟩;simp only [pwA,seval,-iQ0,hlen]
 by_cases hlt:i<bs.length
 rotate_left
 ·simp only [pwA,seval,-iQ0,hlt,decide_false]
  exact out
 obtain⟨b1,b2,b3⟩:=zJT hB hlt
 by_cases h64:i<64
 rotate_left
 ·have h64':¬(i:Int)<64:=by omega
  simp only [pwA,seval,-iQ0,hlt,h64',decide_true,decide_false];exact out
 have h64':(i:Int)<64:=by omega
 generalize bs.getD i 0=b at b1 b2 b3
 have e1:IntKind.i64.wrap (sd*71)=sd*71:=wrap64 (by omega) (by omega)
 have e2:IntKind.i64.wrap b=b:=wrap64 (by omega) (by omega)
 have e3:IntKind.i64.wrap (sd*71+b)=sd*71+b:=wrap64 (by omega) (by omega)
 have e4:(sd*71+b).tmod 2147483647=(sd*71+b) % 2147483647:=Int.tmod_eq_emod_of_nonneg (by omega)
 subst hC;simp only [pwA,seval,-iQ0,hlt,h64',decide_true,b1,e1,e2,e3,e4,wi1];exact⟨_,by omega,i+1,_,by omega,rfl,rfl,rfl,by omega,by omega⟩
theorem zHj {a:Nat} {sd n:Int} (S:Src σ s vC bs a sd) (hn:n≤4611686018427387904) (hk:∀x a' sd',Nx n x→a'≤bs.length→0≤sd'∧sd'<2147483647→K (.int .i64 x) (σ.set s (srcC vC a' sd'))):zA Tryz.prog 83 [.ptr s 0,.int .i64 n] σ K:=by
 have hl:=S.byt.len;have hsd:=S.sd;have ha:=S.le;obtain⟨w,av,rfl⟩:=S.fb;obtain⟨q0,q1,q2⟩:=S.q;have e1:IntKind.i64.wrap (sd*48271)=sd*48271:=wrap64 (by omega) (by omega)
 have e2:IntKind.i64.wrap (sd*48271+71)=sd*48271+71:=wrap64 (by omega) (by omega)
 have e4:(sd*48271+71).tmod 2147483647=(sd*48271+71) % 2147483647:=Int.tmod_eq_emod_of_nonneg (by omega)
 refine zC mix Tryz.func83 ?_
 conv=>arg 2;cbv
 refine zD rfl ?_;simp only [pwA,seval,-iQ0,q2,e1,e2,e4,S.w2];refine iteI (fun hlt=>?_) fun hge=>?_
 ·have:=hk 0 a sd ⟨Int.le_refl _,fun _=>rfl,fun h=>by omega⟩ ha hsd
  rw [zAy S.obj]at this
  exact this
 have hsd1:0≤(sd*48271+71) % 2147483647∧(sd*48271+71) % 2147483647<2147483647:=by omega
 generalize (sd*48271+71) % 2147483647=sd1 at *
 have S1:=S.set (sd':=sd1) ha hsd1;obtain⟨p0,p1,p2⟩:=S1.q;obtain⟨x0,e5,hx0⟩:∃x0,IntKind.i64.wrap (sd1.tdiv 47)=x0∧0≤x0∧x0≤2147483647:=by
  have d1:sd1.tdiv 47=sd1 / 47:=Int.tdiv_eq_ediv_of_nonneg (by omega)
  exact⟨sd1 / 47,by rw [d1];exact wrap64 (by omega) (by omega),by omega,by omega⟩
 have hn0:n≠0:=by omega
 generalize hs1:σ.set s (srcC (PV.fz w av bs.length (bs.map (.int .u8))) a sd1)=σ1 at *
 have hT:∀(a':Nat) (sd':Int),σ1.set s (srcC (PV.fz w av bs.length (bs.map (.int .u8))) a' sd')=σ.set s (srcC (PV.fz w av bs.length (bs.map (.int .u8))) a' sd'):=fun a' sd'=>by rw [←hs1];exact zH8 _ _ _ _
 simp only [pwA,seval,-iQ0,p0,p1,p2,e5]
 by_cases hlt':a<bs.length
 rotate_left
 ·simp only [pwA,seval,-iQ0,hlt',decide_false]
  have:=hk _ a sd1 (zIu (by omega) hx0.1) ha hsd1
  rw [hs1]at this
  simp only [pwA,seval,-iQ0,hn0,e5];exact this
 obtain⟨b1,b2,b3⟩:=zJT S.byt hlt';generalize bs.getD a 0=b at b1 b2 b3
 have e6:IntKind.i64.wrap b=b:=wrap64 (by omega) (by omega)
 have e7:IntKind.i64.wrap (x0+b)=x0+b:=wrap64 (by omega) (by omega)
 have wi1:IntKind.i64.wrap ((a:Int)+1)=((a+1:Nat):Int):=by rw [wrap64 (by omega) (by omega)];omega
 simp only [pwA,seval,-iQ0,hlt',decide_true,p0,p1,b1,e5,e6,e7,S1.w1,wi1];have Sb:=S1.set (a':=a+1) (sd':=sd1) (by omega) hsd1
 obtain⟨r0,r1,r2⟩:=Sb.q;generalize hs2:σ1.set s (srcC (PV.fz w av bs.length (bs.map (.int .u8))) (a+1) sd1)=σ2 at *
 have tm:((a+1:Nat):Int).tmod 2=((a+1:Nat):Int) % 2:=Int.tmod_eq_emod_of_nonneg (by omega)
 have wi2:IntKind.i64.wrap (((a+1:Nat):Int)-1)=(a:Int):=by rw [wrap64 (by omega) (by omega)];omega
 have fin:∀x:Int,0≤x→K (.int .i64 (x.tmod n)) σ2:=fun x hx=>by
  have:=hk _ (a+1) sd1 (zIu (by omega) hx) (by omega) hsd1
  rw [←hs2,hT];exact this
 by_cases hn256:n≤256
 rotate_left
 ·simp only [pwA,seval,-iQ0,hn256,decide_false,hn0,e5,e6,e7]
  exact fin _ (by omega)
 by_cases hev:((a+1:Nat):Int) % 2=0
 rotate_left
 ·simp only [pwA,seval,-iQ0,hn256,decide_true,r1,tm,hev,decide_false,hn0,e5,e6,e7]
  exact fin _ (by omega)
 simp only [pwA,seval,-iQ0,hn256,decide_true,r0,r1,tm,hev,wi2,hlt',b1,hn0,e5,e6,e7];exact fin _ (by omega)
end Go.Proofs
namespace Go.Proofs
open Go.Ab Go.Lie
variable {σ σ0 σ1 h h':PHeap} {K:PV→PHeap→Prop} {vC:PV} {bs:List Int} {s:Nat}
def So (σ:PHeap) (s:Nat) (vC:PV) (bs:List Int):Prop:=∃a sd,Src σ s vC bs a sd
def Mv (σ:PHeap) (s:Nat) (σ':PHeap):Prop:=∃c0 c1,σ.obj s=some c0∧Bels 0 c1∧σ'=σ.set s c1
def KM (σ:PHeap) (s:Nat) (h:PHeap):Prop:=∃σ',Mv σ s σ'∧Keep σ' h
theorem Mv.next (m:Mv σ s h):h.next=σ.next:=by obtain⟨_,_,_,_,rfl⟩:=m;rfl
theorem Mv.obj (m:Mv σ s h) {t:Nat} (ht:t≠s):h.obj t=σ.obj t:=by obtain⟨_,_,_,_,rfl⟩:=m;rw [zI,if_neg ht]
theorem So.lt (k:So σ s vC bs):s<σ.next:=by obtain⟨_,_,k⟩:=k;exact k.lt
theorem So.mv (k:So σ s vC bs) {a:Nat} {sd:Int} (ha:a≤bs.length) (hs:0≤sd∧sd<2147483647):Mv σ s (σ.set s (srcC vC a sd))∧So (σ.set s (srcC vC a sd)) s vC bs:=by
 obtain⟨a0,sd0,k⟩:=k;exact⟨⟨_,_,k.obj,k.fb.bels _ _ _,rfl⟩,a,sd,k.set ha hs⟩
theorem So.mv0 (k:So σ s vC bs):Mv σ s σ:=by
 obtain⟨a0,sd0,k⟩:=k;exact⟨_,_,k.obj,k.fb.bels _ _ _,(zAy k.obj).symm⟩
theorem So.keep (k:So σ s vC bs) (hk:Keep σ h):So h s vC bs:=by
 obtain⟨a0,sd0,k⟩:=k;exact⟨_,_,k.keep hk⟩
theorem So.set (k:So σ s vC bs) {t:Nat} (ht:s≠t) (cs:List PV):So (σ.set t cs) s vC bs:=by
 obtain⟨a0,sd0,k⟩:=k;exact⟨a0,sd0,by rw [zI,if_neg ht];exact k.obj,k.lt,k.fb,k.byt,k.le,k.sd⟩
theorem So.kill (k:So σ s vC bs) {t:Nat} (ht:s≠t):So (σ.kill t) s vC bs:=by
 obtain⟨a0,sd0,k⟩:=k;exact⟨a0,sd0,by simp only [PHeap.kill];rw [if_neg ht];exact k.obj,k.lt,k.fb,k.byt,k.le,k.sd⟩
theorem KM.keep (k:KM σ s h) (hk:Keep h h'):KM σ s h':=by
 obtain⟨σ',m,q⟩:=k;exact⟨σ',m,q.trans hk⟩
theorem KM.next (k:KM σ s h):σ.next≤h.next:=by
 obtain⟨σ',m,q⟩:=k;rw [←m.next];exact q.next
theorem KM.obj (k:KM σ s h) {t:Nat} (ht:t<σ.next) (hn:t≠s):h.obj t=σ.obj t:=by
 obtain⟨σ',m,q⟩:=k;rw [q.obj t (by rw [m.next];exact ht),m.obj hn]
theorem So.km (k:So σ s vC bs):KM σ s σ:=⟨σ,k.mv0,Keep.refl _⟩
theorem So.kmK (k:So σ s vC bs) (hk:Keep σ h):KM σ s h:=⟨σ,k.mv0,hk⟩
theorem KM.new (k:KM σ s h) (cs:List PV):KM σ s (h.new cs):=k.keep (zB h cs)
theorem KM.set (k:KM σ s h) {t:Nat} (ht:σ.next≤t) (cs:List PV):KM σ s (h.set t cs):=by
 obtain⟨σ',m,q⟩:=k;exact⟨σ',m,q.set (by rw [m.next];exact ht) cs⟩
theorem KM.kill (k:KM σ s h) {t:Nat} (ht:σ.next≤t):KM σ s (h.kill t):=by
 obtain⟨σ',m,q⟩:=k;exact⟨σ',m,q.kill (by rw [m.next];exact ht)⟩
theorem KM.mv (k:KM σ s h) (hs:s<σ.next) (m':Mv h s h'):KM σ s h':=by
 obtain⟨σ',⟨c0,c1,h0,h1,rfl⟩,q⟩:=k;obtain⟨d0,d1,g0,g1,rfl⟩:=m';refine⟨σ.set s d1,⟨c0,d1,h0,g1,rfl⟩,q.next,q.top,fun t ht=>?_⟩
 rw [zI,zI]
 split
 ·rfl
 ·rename_i e
  rw [q.obj t ht,zI,if_neg e]
theorem KM.trans (k:KM σ s h) (hs:s<σ.next) (k':KM h s h'):KM σ s h':=by
 obtain⟨σ',m,q⟩:=k';exact(k.mv hs m).keep q
theorem Gh.km {v:PV} (k:KM σ s h) (so:So h s vC bs) (hs:s<σ.next) (c:∀σ',Mv σ s σ'→So σ' s vC bs→Keep σ' h→Gh σ' K v h):Gh σ K v h:=by
 obtain⟨σ',m,q⟩:=k;obtain⟨c0,c1,h0,h1,e⟩:=m;obtain⟨a,sd,S⟩:=so;have hs':s<σ'.next:=by rw [e];exact hs
 have so':So σ' s vC bs:=⟨a,sd,by rw [←q.obj s hs'];exact S.obj,hs',S.fb,S.byt,S.le,S.sd⟩
 have:=c σ' ⟨c0,c1,h0,h1,e⟩ so' q
 rw [e]at this
 exact Gh.setS h0 h1 this
theorem zO {n:Int} (so:So σ s vC bs) (hn:n≤4611686018427387904) (hk:∀x h,Nx n x→Mv σ s h→So h s vC bs→K (.int .i64 x) h):zA Tryz.prog 83 [.ptr s 0,.int .i64 n] σ K:=by
 obtain⟨a,sd,S⟩:=so;refine zHj S hn fun x a' sd' hx ha hs=>?_
 obtain⟨m1,m2⟩:=So.mv ⟨a,sd,S⟩ ha hs;exact hk x _ hx m1 m2
end Go.Proofs
set_option linter.unusedSectionVars false
namespace Go.Proofs
open Go.Ab Go.Lie
variable {σ σ0 h h':PHeap} {K:PV→PHeap→Prop} {vC:PV} {bs:List Int} {s b n:Nat} {p:Int} {RP R:PV→List Int→Prop} {sP sB:Nat} {capP capB:Cap} {cs:List PV} {ls:List LS} {W:List (List Int)} {B:List (List (List Int))}
theorem zBV {h:PHeap} {t i:Nat} {cs:List PV} {v:PV} (ho:h.obj t=some cs) (hi:i<cs.length) (hv:v.one=true):h.wr t i [v]=some (h.set t (cs.set i v)):=by
 rw [zR ho,if_pos ⟨by simp;omega,by simp [hv]⟩]
 congr 2
 rw [List.append_assoc];exact take_set cs hi v
end Go.Proofs
namespace Go.Grp
end Go.Grp
namespace Go.Proofs
open Go.Ab Go.Lie Go.Grp
variable {σ σ0 h h':PHeap} {K:PV→PHeap→Prop} {b s t n k:Nat} {L L':Nat→Nat} {Q Q':Nat→Prop} {len:Nat→Nat} {v vO vP vC c:PV} {x O:List Int} {cs:List PV}
theorem zI3 {v:PV} (h:leafy v) (n:Nat):Bel n v:=by
 cases v<;>simp only [leafy]at h<;>trivial
mutual
theorem qy:∀{t:TR},t.ok h b→t.okF h b
 | .leaf v,a=>zI3 a 0
 | .nil,_=>trivial
 | .lst s cap kids,a=>⟨a.1,zB7 a.2⟩
 | .cut _ _ _ _ _,a=>a.elim
 | .agg kids,a=>zB7 (ts:=kids) a
 | .tup kids,a=>zB7 (ts:=kids) a
theorem zB7:∀{ts:List TR},TR.oks h b ts→TR.okFs h b ts
 | [],_=>trivial
 | t::ts,a=>⟨qy a.1,zB7 a.2⟩
end
mutual
theorem zAg {b':Nat} (hb:b'≤b):∀{t:TR},t.okF h b→t.okF h b'
 | .leaf v,a=>a
 | .nil,_=>trivial
 | .lst s cap kids,a=>⟨⟨a.1.1,a.1.2.1,Nat.le_trans hb a.1.2.2.1,a.1.2.2.2⟩,zAf hb a.2⟩
 | .cut s off l cap kids,a=>⟨⟨a.1.1,a.1.2.1,Nat.le_trans hb a.1.2.2.1,a.1.2.2.2⟩,zAf hb a.2⟩
 | .agg kids,a=>zAf (ts:=kids) hb a
 | .tup kids,a=>zAf (ts:=kids) hb a
theorem zAf {b':Nat} (hb:b'≤b):∀{ts:List TR},TR.okFs h b ts→TR.okFs h b' ts
 | [],_=>trivial
 | t::ts,a=>⟨zAg hb a.1,zAf hb a.2⟩
end
def RowX (L:Nat→Nat) (h:PHeap) (b k:Nat) (x:List Int) (v:PV):Prop:=∃s cap,v=.sl s 0 x.length cap∧full 1 cap x.length∧h.obj s=some (pis x)∧b≤s∧s<h.next∧L s=k
def RowAt (L:Nat→Nat) (h:PHeap) (b:Nat) (Q:Nat→Prop) (v:PV):Prop:=∃x,Q x.length∧RowX L h b 1 x v
def MatAt (L:Nat→Nat) (h:PHeap) (b:Nat) (Q:Nat→Prop) (k n:Nat) (v:PV):Prop:=∃s cap cs,v=.sl s 0 n cap∧full 1 cap n∧h.obj s=some cs∧cs.length=n∧b≤s∧s<h.next∧L s=k∧∀c∈cs,RowAt L h b Q c
def TenAt (L:Nat→Nat) (h:PHeap) (b:Nat) (Q:Nat→Prop) (n:Nat) (len:Nat→Nat) (v:PV):Prop:=∃s cap cs,v=.sl s 0 n cap∧full 1 cap n∧h.obj s=some cs∧cs.length=n∧b≤s∧s<h.next∧L s=4∧∀i c,cs[i]? = some c→MatAt L h b Q 3 (len i) c
def MatO (L:Nat→Nat) (h:PHeap) (b:Nat) (Q:Nat→Prop) (n:Nat) (v:PV):Prop:=(n=0∧v=.fz true .nils 0 [])∨MatAt L h b Q 2 n v
def TenO (L:Nat→Nat) (h:PHeap) (b:Nat) (Q:Nat→Prop) (n:Nat) (len:Nat→Nat) (v:PV):Prop:=(n=0∧v=.fz true .nils 0 [])∨TenAt L h b Q n len v
theorem RowX.one (a:RowX L h b k x v):v.one=true:=by obtain⟨s,cap,rfl,_⟩:=a;rfl
theorem RowX.cells (a:RowX L h b k x v):v.cells=[v]:=by obtain⟨s,cap,rfl,_⟩:=a;rfl
theorem RowAt.one (a:RowAt L h b Q v):v.one=true:=by obtain⟨x,_,a⟩:=a;exact a.one
theorem MatAt.one (a:MatAt L h b Q k n v):v.one=true:=by obtain⟨s,cap,cs,rfl,_⟩:=a;rfl
theorem MatAt.cells (a:MatAt L h b Q k n v):v.cells=[v]:=by obtain⟨s,cap,cs,rfl,_⟩:=a;rfl
theorem MatO.one (a:MatO L h b Q n v):v.one=true:=by rcases a with ⟨_,rfl⟩ | a;rfl;exact a.one
theorem MatO.cells (a:MatO L h b Q n v):v.cells=[v]:=by rcases a with ⟨_,rfl⟩ | a;rfl;exact a.cells
theorem TenO.one (a:TenO L h b Q n len v):v.one=true:=by rcases a with ⟨_,rfl⟩ | ⟨s,cap,cs,rfl,_⟩<;>rfl
theorem TenO.cells (a:TenO L h b Q n len v):v.cells=[v]:=by rcases a with ⟨_,rfl⟩ | ⟨s,cap,cs,rfl,_⟩<;>rfl
theorem MatO.pLen (a:MatO L h b Q n v):pLen v=some (.int .i64 n):=by rcases a with ⟨rfl,rfl⟩ | ⟨s,cap,cs,rfl,_⟩<;>rfl
theorem TenO.pLen (a:TenO L h b Q n len v):pLen v=some (.int .i64 n):=by rcases a with ⟨rfl,rfl⟩ | ⟨s,cap,cs,rfl,_⟩<;>rfl
theorem RowX.keep (a:RowX L h b k x v) (hn:h.next≤h'.next) (ho:∀t,b≤t→t<h.next→h'.obj t=h.obj t) (hL:∀t,t<h.next→L' t=L t):RowX L' h' b k x v:=by
 obtain⟨s,cap,rfl,h1,h2,h3,h4,h5⟩:=a;exact⟨s,cap,rfl,h1,by rw [ho s h3 h4];exact h2,h3,by omega,by rw [hL s h4];exact h5⟩
theorem RowAt.keep (a:RowAt L h b Q v) (hn:h.next≤h'.next) (ho:∀t,b≤t→t<h.next→h'.obj t=h.obj t) (hL:∀t,t<h.next→L' t=L t):RowAt L' h' b Q v:=by
 obtain⟨x,h1,a⟩:=a;exact⟨x,h1,a.keep hn ho hL⟩
theorem MatAt.keep (a:MatAt L h b Q k n v) (hn:h.next≤h'.next) (ho:∀t,b≤t→t<h.next→h'.obj t=h.obj t) (hL:∀t,t<h.next→L' t=L t):MatAt L' h' b Q k n v:=by
 obtain⟨s,cap,cs,rfl,h1,h2,h3,h4,h5,h6,h7⟩:=a;exact⟨s,cap,cs,rfl,h1,by rw [ho s h4 h5];exact h2,h3,h4,by omega,by rw [hL s h5];exact h6,fun c hc=>(h7 c hc).keep hn ho hL⟩
theorem TenAt.keep (a:TenAt L h b Q n len v) (hn:h.next≤h'.next) (ho:∀t,b≤t→t<h.next→h'.obj t=h.obj t) (hL:∀t,t<h.next→L' t=L t):TenAt L' h' b Q n len v:=by
 obtain⟨s,cap,cs,rfl,h1,h2,h3,h4,h5,h6,h7⟩:=a;exact⟨s,cap,cs,rfl,h1,by rw [ho s h4 h5];exact h2,h3,h4,by omega,by rw [hL s h5];exact h6,fun i c hc=>(h7 i c hc).keep hn ho hL⟩
structure PW (L:Nat→Nat) (b:Nat) (h:PHeap) (Q:Nat→Prop) (O:List Int) (nP nC:Nat) (len:Nat→Nat) (vO vP vC:PV):Prop where
 hO:RowX L h b 5 O vO
 hP:MatO L h b Q nP vP
 hC:TenO L h b Q nC len vC
variable {nP nC:Nat}
theorem PW.keepL (a:PW L b h Q O nP nC len vO vP vC) (hn:h.next≤h'.next) (ho:∀t,b≤t→t<h.next→h'.obj t=h.obj t) (hL:∀t,t<h.next→L' t=L t):PW L' b h' Q O nP nC len vO vP vC:=
 ⟨a.hO.keep hn ho hL,a.hP.imp id fun a=>a.keep hn ho hL,a.hC.imp id fun a=>a.keep hn ho hL⟩
theorem PW.mv (a:PW L b h Q O nP nC len vO vP vC) (hs:s<b) (m:Mv h s h'):PW L b h' Q O nP nC len vO vP vC:=a.keepL (by rw [m.next];exact Nat.le_refl _) (fun t hb _=>m.obj (by omega)) fun _ _=>rfl
theorem PW.set (a:PW L b h Q O nP nC len vO vP vC) (hs:s<b) (ds:List PV):PW L b (h.set s ds) Q O nP nC len vO vP vC:=a.keepL (Nat.le_refl _) (fun t hb _=>by rw [zI,if_neg (by omega)]) fun _ _=>rfl
theorem RowX.tree (a:RowX L h b k x v):∃t:TR,t.ok h b∧t.pv=v∧∀aa,FI (t.fz aa) x:=by
 obtain⟨s,cap,rfl,h1,h2,h3,h4,h5⟩:=a;exact⟨TR.row s cap x,TR.row_ok h1 h2 h3 h4,TR.row_pv,fun aa=>TR.row_FI⟩
theorem trees {α:Type} {R:PV→α→Prop}:∀{cs:List PV},(∀c∈cs,∃(t:TR) (x:α),t.ok h b∧t.pv=c∧∀aa,R (t.fz aa) x)→∃(ts:List TR) (xs:List α),TR.oks h b ts∧TR.pvs ts=cs∧∀aa,All2 R (TR.fzs aa ts) xs
 | [],_=>⟨[],[],trivial,rfl,fun _=>All2.nil _⟩
 | c::cs,hc=>by
  obtain⟨t,x,h1,h2,h3⟩:=hc c (List.mem_cons_self ..);obtain⟨ts,xs,g1,g2,g3⟩:=trees fun c' h'=>hc c' (List.mem_cons_of_mem _ h')
  refine⟨t::ts,x::xs,⟨h1,g1⟩,by simp only [TR.pvs,h2,g2],fun aa=>?_⟩
  have k1:=h3 aa;have k2:=g3 aa;refine⟨by simp only [TR.fzs,List.length_cons,k2.1],fun i v y hv hy=>?_⟩
  cases i with
  | zero=>simp only [TR.fzs,List.getElem?_cons_zero,Option.some.injEq]at hv hy;rw [←hv,←hy];exact k1
  | succ i=>simp only [TR.fzs,List.getElem?_cons_succ]at hv hy;exact k2.2 i v y hv hy
theorem zA3:∀ts:List TR,(TR.pvs ts).length=ts.length
 | []=>rfl
 | t::ts=>by simp only [TR.pvs,List.length_cons,zA3 ts]
def RowQ (Q:Nat→Prop) (v:PV) (x:List Int):Prop:=FI v x∧Q x.length
def MatQ (Q:Nat→Prop) (v:PV) (M:List (List Int)):Prop:=FII v M∧∀r∈M,Q r.length
theorem zL3 {cs:List PV} {xs:List (List Int)} (a:All2 (RowQ Q) cs xs):All2 FI cs xs∧∀r∈xs,Q r.length:=by
 refine⟨⟨a.1,fun i v y hv hy=>(a.2 i v y hv hy).1⟩,fun r hr=>?_⟩
 obtain⟨i,hi,rfl⟩:=List.mem_iff_getElem.1 hr;exact(a.2 i _ _ (List.getElem?_eq_getElem (by rw [a.1];exact hi)) (List.getElem?_eq_getElem hi)).2
theorem MatAt.tree (a:MatAt L h b Q k n v):∃(t:TR) (M:List (List Int)),(t.ok h b∧t.pv=v∧∀aa,MatQ Q (t.fz aa) M)∧M.length=n:=by
 obtain⟨s,cap,cs,rfl,h1,h2,h3,h4,h5,h6,h7⟩:=a;obtain⟨ts,xs,g1,g2,g3⟩:=trees (R:=RowQ Q) (cs:=cs) (h:=h) (b:=b) fun c hc=>by
  obtain⟨x,q,a⟩:=h7 c hc;obtain⟨t,k1,k2,k3⟩:=a.tree;exact⟨t,x,k1,k2,fun aa=>⟨k3 aa,q⟩⟩
 have e1:ts.length=n:=by rw [←h3,←g2,zA3]
 have e2:xs.length=n:=by
  have:=(g3 fun _=>0).1
  rw [TR.fzs_length]at this
  omega
 refine⟨.lst s cap ts,xs,⟨⟨⟨by rw [e1];exact h1,by rw [g2];exact h2,h4,h5⟩,g1⟩,by simp only [TR.pv,e1],fun aa=>?_⟩,e2⟩
 obtain⟨q1,q2⟩:=zL3 (g3 aa);exact⟨⟨true,.sl (aa s) 0 ts.length cap,TR.fzs aa ts,by simp only [TR.fz,e1,e2],q1⟩,q2⟩
structure PQ3 (Q:Nat→Prop) (P:List (List Int)) (C:List (List (List Int))) (nP nC:Nat) (len:Nat→Nat):Prop where
 pl:P.length=nP
 cl:C.length=nC
 pq:∀r∈P,Q r.length
 row:∀i,i<nC→(C.getD i []).length=len i
 cq:∀q∈C,∀r∈q,Q r.length
theorem MatO.tree (a:MatO L h b Q n v):∃(t:TR) (M:List (List Int)),(t.ok h b∧t.pv=v∧∀aa,MatQ Q (t.fz aa) M)∧M.length=n:=by
 rcases a with ⟨rfl,rfl⟩|a
 ·exact⟨.nil,[],⟨trivial,rfl,fun aa=>⟨⟨true,.nils,[],rfl,All2.nil _⟩,fun r hr=>by cases hr⟩⟩,rfl⟩
 ·exact a.tree
theorem TenO.tree (a:TenO L h b Q n len v):∃(t:TR) (C:List (List (List Int))),(t.ok h b∧t.pv=v∧∀aa,FIII (t.fz aa) C)∧C.length=n∧(∀i,i<n→(C.getD i []).length=len i)∧∀q∈C,∀r∈q,Q r.length:=by
 rcases a with ⟨rfl,rfl⟩|⟨s,cap,cs,rfl,h1,h2,h3,h4,h5,h6,h7⟩
 ·exact⟨.nil,[],⟨trivial,rfl,fun aa=>⟨true,.nils,[],rfl,All2.nil _⟩⟩,rfl,fun i hi=>by omega,fun q hq=>by cases hq⟩
 ·have key:∀(m:Nat) (ds:List PV),(∀i c,ds[i]? = some c→MatAt L h b Q 3 (len (m+i)) c)→∃(ts:List TR) (xs:List (List (List Int))),TR.oks h b ts∧TR.pvs ts=ds∧(∀aa,All2 FII (TR.fzs aa ts) xs)∧(∀i,i<xs.length→(xs.getD i []).length=len (m+i))∧∀q∈xs,∀r∈q,Q r.length:=by
   intro m ds
   induction ds generalizing m with
   | nil=>exact fun _=>⟨[],[],trivial,rfl,fun _=>All2.nil _,fun i hi=>(by simp at hi),fun q hq=>by cases hq⟩
   | cons d ds ih=>
    intro hd;obtain⟨t,M,⟨k1,k2,k3⟩,k4⟩:=(hd 0 d rfl).tree;obtain⟨ts,xs,g1,g2,g3,g4,g5⟩:=ih (m+1) fun i c hc=>by
     have:=hd (i+1) c (by simpa using hc)
     rw [show m+1+i=m+(i+1) by omega];exact this
    refine⟨t::ts,M::xs,⟨k1,g1⟩,by simp only [TR.pvs,k2,g2],fun aa=>⟨by simp only [TR.fzs,List.length_cons,(g3 aa).1],fun i w y hw hy=>?_⟩,fun i hi=>?_,fun q hq r hr=>?_⟩
    ·cases i with
     | zero=>simp only [TR.fzs,List.getElem?_cons_zero,Option.some.injEq]at hw hy;rw [←hw,←hy];exact(k3 aa).1
     | succ i=>simp only [TR.fzs,List.getElem?_cons_succ]at hw hy;exact(g3 aa).2 i w y hw hy
    ·cases i with
     | zero=>simpa using k4
     | succ i=>
      have:=g4 i (by simpa using hi)
      rw [show m+1+i=m+(i+1) by omega]at this
      simpa using this
    ·rcases List.mem_cons.1 hq with rfl | hq
     ·exact(k3 fun _=>0).2 r hr
     ·exact g5 q hq r hr
  obtain⟨ts,xs,g1,g2,g3,g4,g5⟩:=key 0 cs fun i c hc=>by rw [Nat.zero_add];exact h7 i c hc
  have e1:ts.length=n:=by rw [←h3,←g2,zA3]
  have e2:xs.length=n:=by
   have:=(g3 fun _=>0).1
   rw [TR.fzs_length]at this
   omega
  exact⟨.lst s cap ts,xs,⟨⟨⟨by rw [e1];exact h1,by rw [g2];exact h2,h4,h5⟩,g1⟩,by simp only [TR.pv,e1],fun aa=>⟨true,.sl (aa s) 0 ts.length cap,TR.fzs aa ts,by simp only [TR.fz,e1,e2],g3 aa⟩⟩,e2,fun i hi=>by have:=g4 i (by omega);rw [Nat.zero_add]at this;exact this,g5⟩
theorem PW.fin (a:PW L b h Q O nP nC len vO vP vC) (hk:Keep σ h) (hb:σ.next≤b) (k:∀wO wP wC P C,IsPr wO wP wC O P C→PQ3 Q P C nP nC len→K (.agg [wO,wP,wC]) σ):Gh σ K (.agg [vO,vP,vC]) h:=by
 obtain⟨t1,a1,rfl,a3⟩:=a.hO.tree;obtain⟨t2,P,⟨b1,rfl,b3⟩,b4⟩:=a.hP.tree;obtain⟨t3,C,⟨c1,rfl,c3⟩,c4,c5,c6⟩:=a.hC.tree;have et:(TR.agg [t1,t2,t3]).pv=.agg [t1.pv,t2.pv,t3.pv]:=by simp only [TR.pv,TR.pvs]
 rw [←et];refine Gh.treeF hk ⟨zAg hb (qy a1),zAg hb (qy b1),zAg hb (qy c1),trivial⟩ fun aa=>?_
 have:=k (t1.fz aa) (t2.fz aa) (t3.fz aa) P C ⟨a3 aa,(b3 aa).1,c3 aa⟩ ⟨b4,c4,(b3 aa).2,c5,c6⟩
 simpa only [TR.fz,TR.fzs]using this
def mkM (L:Nat→Nat) (s k:Nat):Nat→Nat:=fun t=>if t=s then k else L t
theorem zBU {i:Nat} {y:Int} (ho:h.obj s=some (pis x)) (hi:i<x.length):h.wr s i [.int .i64 y]=some (h.set s (pis (x.set i y))):=by
 rw [zR ho,if_pos ⟨by rw [zK];simp;omega,rfl⟩]
 congr 2
 exact zh hi
theorem RowX.wr {y:List Int} {j:Nat} (a:RowX L h b j y v) (hL:L s=k) (hj:j≠k):RowX L (h.set s cs) b j y v:=by
 obtain⟨s',cap,rfl,h1,h2,h3,h4,h5⟩:=a;have hne:s'≠s:=fun e=>hj (by rw [←h5,e,hL])
 exact⟨s',cap,rfl,h1,by rw [zI,if_neg hne];exact h2,h3,h4,h5⟩
theorem RowAt.wrR {y:List Int} (a:RowAt L h b Q v) (ho:h.obj s=some (pis x)) (hl:y.length=x.length):RowAt L (h.set s (pis y)) b Q v:=by
 obtain⟨z,hq,s',cap,rfl,h1,h2,h3,h4,h5⟩:=a
 by_cases e:s'=s
 ·subst e
  rw [ho]at h2
  have hz:x.length=z.length:=by rw [←zK x,←zK z];exact congrArg List.length (Option.some.inj h2)
  have hz':y.length=z.length:=hl.trans hz;exact⟨y,by rw [hz'];exact hq,s',cap,by rw [hz'],by rw [hz'];exact h1,by rw [zI,if_pos rfl],h3,h4,h5⟩
 ·exact⟨z,hq,s',cap,rfl,h1,by rw [zI,if_neg e];exact h2,h3,h4,h5⟩
theorem RowAt.wrN (a:RowAt L h b Q v) (hL:L s≠1):RowAt L (h.set s cs) b Q v:=by
 obtain⟨z,hq,a⟩:=a;exact⟨z,hq,a.wr rfl (Ne.symm hL)⟩
theorem MatAt.wrR {y:List Int} (a:MatAt L h b Q k n v) (ho:h.obj s=some (pis x)) (hl:y.length=x.length) (hL:L s=1) (hk:k≠1):MatAt L (h.set s (pis y)) b Q k n v:=by
 obtain⟨s',cap,cs,rfl,h1,h2,h3,h4,h5,h6,h7⟩:=a;have hne:s'≠s:=fun e=>hk (by rw [←h6,e,hL])
 exact⟨s',cap,cs,rfl,h1,by rw [zI,if_neg hne];exact h2,h3,h4,h5,h6,fun c hc=>(h7 c hc).wrR ho hl⟩
theorem PW.setRow (a:PW L b h Q O nP nC len vO vP vC) {i:Nat} {y:Int} (ho:h.obj s=some (pis x)) (hi:i<x.length) (hL:L s=1):
  h.wr s i [.int .i64 y]=some (h.set s (pis (x.set i y)))∧PW L b (h.set s (pis (x.set i y))) Q O nP nC len vO vP vC:=by
 refine⟨zBU ho hi,a.hO.wr hL (by decide),a.hP.imp id fun a=>a.wrR ho (List.length_set ..) hL (by decide),a.hC.imp id fun a=>?_⟩
 obtain⟨s',cap,cs,rfl,h1,h2,h3,h4,h5,h6,h7⟩:=a;have hne:s'≠s:=fun e=>by rw [e,hL]at h6;cases h6
 exact⟨s',cap,cs,rfl,h1,by rw [zI,if_neg hne];exact h2,h3,h4,h5,h6,fun j c hc=>(h7 j c hc).wrR ho (List.length_set ..) hL (by decide)⟩
theorem MatAt.wrL {i:Nat} (a:MatAt L h b Q k n v) {j:Nat} (ho:h.obj s=some cs) (hL:L s=j) (hj:j≠1) (hc:RowAt L h b Q c):MatAt L (h.set s (cs.set i c)) b Q k n v:=by
 obtain⟨s',cap,ds,rfl,h1,h2,h3,h4,h5,h6,h7⟩:=a;have hL1:L s≠1:=by rw [hL];exact hj
 by_cases e:s'=s
 ·subst e
  rw [ho]at h2
  cases h2;refine⟨s',cap,cs.set i c,rfl,h1,by rw [zI,if_pos rfl],by rw [List.length_set];exact h3,h4,h5,h6,fun d hd=>?_⟩
  rcases List.mem_or_eq_of_mem_set hd with hd|rfl
  ·exact(h7 d hd).wrN hL1
  ·exact hc.wrN hL1
 ·exact⟨s',cap,ds,rfl,h1,by rw [zI,if_neg e];exact h2,h3,h4,h5,h6,fun d hd=>(h7 d hd).wrN hL1⟩
theorem PW.putRow (a:PW L b h Q O nP nC len vO vP vC) {i:Nat} (ho:h.obj s=some cs) (hi:i<cs.length) (hL:L s=2∨L s=3) (hc:RowAt L h b Q c):
  h.wr s i [c]=some (h.set s (cs.set i c))∧PW L b (h.set s (cs.set i c)) Q O nP nC len vO vP vC:=by
 have hj:L s≠1:=by omega
 refine⟨zBV ho hi hc.one,a.hO.wr rfl (by omega),a.hP.imp id fun a=>a.wrL ho rfl hj hc,a.hC.imp id fun a=>?_⟩
 obtain⟨s',cap,ds,rfl,h1,h2,h3,h4,h5,h6,h7⟩:=a;have hne:s'≠s:=fun e=>by rw [e]at h6;omega
 exact⟨s',cap,ds,rfl,h1,by rw [zI,if_neg hne];exact h2,h3,h4,h5,h6,fun j d hd=>(h7 j d hd).wrL ho rfl hj hc⟩
theorem PW.powers (a:PW L b h Q O nP nC len vO vP vC) (hn:0<nP):∃s cap cs,vP=.sl s 0 nP cap∧h.obj s=some cs∧cs.length=nP∧L s=2∧b≤s∧s<h.next∧∀c∈cs,RowAt L h b Q c:=by
 rcases a.hP with ⟨e,_⟩|⟨s,cap,cs,rfl,h1,h2,h3,h4,h5,h6,h7⟩
 ·omega
 ·exact⟨s,cap,cs,rfl,h2,h3,h6,h4,h5,h7⟩
theorem PW.conj (a:PW L b h Q O nP nC len vO vP vC) {i:Nat} (hi:i<nC):∃s cap t cap',vC=.sl s 0 nC cap∧h.rd1 s i=some (.sl t 0 (len i) cap')∧b≤s∧s<h.next∧∃cs,h.obj t=some cs∧cs.length=len i∧L t=3∧b≤t∧t<h.next∧∀c∈cs,RowAt L h b Q c:=by
 rcases a.hC with ⟨e,_⟩|⟨s,cap,cs,rfl,h1,h2,h3,h4,h5,h6,h7⟩
 ·omega
 ·obtain⟨t,cap',ds,e,g1,g2,g3,g4,g5,g6,g7⟩:=h7 i _ (List.getElem?_eq_getElem (by omega))
  exact⟨s,cap,t,cap',rfl,by rw [zH h2,List.getElem?_eq_getElem (by omega),e],h4,h5,ds,g2,g3,g6,g4,g5,g7⟩
end Go.Proofs
namespace Go.Grp
end Go.Grp
set_option linter.unusedSimpArgs false
set_option linter.unusedVariables false
set_option linter.unusedSectionVars false
namespace Go.Proofs
open Go.Ab Go.Lie Go.Grp
variable {σ σ0 h h':PHeap} {K:PV→PHeap→Prop} {b s t n k nP nC:Nat} {L L':Nat→Nat} {Q Q':Nat→Prop} {len:Nat→Nat} {v vO vP vC c vX:PV} {x O xs:List Int} {P M:List (List Int)} {C:List (List (List Int))} {cs:List PV}
theorem qE (hs:h.next≤s):∀t,t<h.next→mkM L s k t=L t:=fun t ht=>if_neg (by omega)
theorem ZT:mkM L s k s=k:=if_pos rfl
theorem RowX.keepK {j:Nat} (a:RowX L h b j x v) (hj:j≠k) (hn:h.next≤h'.next) (ho:∀t,b≤t→t<h.next→L t≠k→h'.obj t=h.obj t) (hL:∀t,t<h.next→L t≠k→L' t=L t):RowX L' h' b j x v:=by
 obtain⟨s,cap,rfl,h1,h2,h3,h4,h5⟩:=a;have hne:L s≠k:=by rw [h5];exact hj
 exact⟨s,cap,rfl,h1,by rw [ho s h3 h4 hne];exact h2,h3,by omega,by rw [hL s h4 hne];exact h5⟩
theorem RowAt.keepK (a:RowAt L h b Q v) (hj:1≠k) (hn:h.next≤h'.next) (ho:∀t,b≤t→t<h.next→L t≠k→h'.obj t=h.obj t) (hL:∀t,t<h.next→L t≠k→L' t=L t):RowAt L' h' b Q v:=by
 obtain⟨x,h1,a⟩:=a;exact⟨x,h1,a.keepK hj hn ho hL⟩
theorem MatAt.keepK {j:Nat} (a:MatAt L h b Q j n v) (hj:j≠k) (h1k:1≠k) (hn:h.next≤h'.next) (ho:∀t,b≤t→t<h.next→L t≠k→h'.obj t=h.obj t) (hL:∀t,t<h.next→L t≠k→L' t=L t):MatAt L' h' b Q j n v:=by
 obtain⟨s,cap,cs,rfl,h1,h2,h3,h4,h5,h6,h7⟩:=a;have hne:L s≠k:=by rw [h6];exact hj
 exact⟨s,cap,cs,rfl,h1,by rw [ho s h4 h5 hne];exact h2,h3,h4,by omega,by rw [hL s h5 hne];exact h6,fun c hc=>(h7 c hc).keepK h1k hn ho hL⟩
theorem TenAt.keepK (a:TenAt L h b Q n len v) (h1k:1≠k) (h3k:3≠k) (h4k:4≠k) (hn:h.next≤h'.next) (ho:∀t,b≤t→t<h.next→L t≠k→h'.obj t=h.obj t) (hL:∀t,t<h.next→L t≠k→L' t=L t):TenAt L' h' b Q n len v:=by
 obtain⟨s,cap,cs,rfl,h1,h2,h3,h4,h5,h6,h7⟩:=a;have hne:L s≠k:=by rw [h6];exact h4k
 exact⟨s,cap,cs,rfl,h1,by rw [ho s h4 h5 hne];exact h2,h3,h4,by omega,by rw [hL s h5 hne];exact h6,fun i c hc=>(h7 i c hc).keepK h3k h1k hn ho hL⟩
theorem PW.keepK (a:PW L b h Q O nP nC len vO vP vC) (hk:6≤k) (hn:h.next≤h'.next) (ho:∀t,b≤t→t<h.next→L t≠k→h'.obj t=h.obj t) (hL:∀t,t<h.next→L t≠k→L' t=L t):PW L' b h' Q O nP nC len vO vP vC:=
 ⟨a.hO.keepK (by omega) hn ho hL,a.hP.imp id fun a=>a.keepK (by omega) (by omega) hn ho hL,a.hC.imp id fun a=>a.keepK (by omega) (by omega) (by omega) hn ho hL⟩
def MatN (L:Nat→Nat) (h:PHeap) (b:Nat) (Q:Nat→Prop) (k n:Nat) (v:PV):Prop:=(n=0∧v=.fz true .nils 0 [])∨MatAt L h b Q k n v
theorem MatN.acc (a:MatN L h b Q k n v):∃cs,PAcc b 1 h v n cs∧(∀c∈cs,RowAt L h b Q c)∧∀t off l c,v=.sl t off l c→L t=k:=by
 rcases a with ⟨rfl,rfl⟩|⟨s,cap,cs,rfl,h1,h2,h3,h4,h5,h6,h7⟩
 ·exact⟨[],PAcc.nil _ _ _,fun c hc=>(by cases hc),fun t off l c e=>by cases e⟩
 ·exact⟨cs,.inr ⟨s,cap,rfl,h1,h2,by omega,h4,h5⟩,h7,fun t off l c e=>by simp only [PV.sl.injEq]at e;rw [←e.1];exact h6⟩
theorem MatN.push {KA:PV×PHeap→Prop} (a:MatN L h b Q k n v) (hk1:k≠1) (hc:RowAt L h b Q c) (hk:Keep σ h) (hb:σ.next≤b) (hbn:b≤h.next) (hn:n≤1048576)
  (kk:∀v' h' L',Keep σ h'→MatAt L' h' b Q k (n+1) v'→h.next<h'.next→(∀t,t<h.next→L' t=L t)→(∀t,t<h.next→L t≠k→h'.obj t=h.obj t)→(∀t,t<b→h'.obj t=h.obj t)→KA (v',h')):optK (zY 1 24 (h.new [c]) v (.sl h.next 0 1 (.known 1))) KA:=by
 obtain⟨cs,acc,hcs,hL⟩:=a.acc;refine PAcc.pushS hk (acc.low hb) rfl (by omega) (by omega) fun v' h' k1 a1 o1 n1 l1=>?_
 obtain⟨s',cap',rfl,g1,g2,g3,g4,g5⟩:=a1;have hs':h.next≤s':=by
  rcases Nat.lt_or_ge s' h.next with q|q
  ·exact absurd rfl (n1 s' q 0 _ cap')
  ·exact q
 have ob:∀t,t<h.next→L t≠k→h'.obj t=h.obj t:=fun t ht hne=>o1 t ht fun off l c e=>hne (hL t off l c e)
 have hnx:h.next≤h'.next:=by omega
 have keepR:∀{d:PV},RowAt L h b Q d→RowAt (mkM L s' k) h' b Q d:=fun {d} hd=>hd.keepK (k:=k) (Ne.symm hk1) hnx (fun t _ ht hne=>ob t ht hne) fun t ht _=>qE hs' t ht
 refine kk _ h' (mkM L s' k) k1 ⟨s',cap',cs++[c],rfl,g1,g2,by simpa using g3,by omega,g5,ZT,fun d hd=>?_⟩ l1 (qE hs') ob fun t ht=>?_
 ·rcases List.mem_append.1 hd with hd | hd
  ·exact keepR (hcs d hd)
  ·rw [List.mem_singleton.1 hd];exact keepR hc
 ·refine o1 t (by omega) fun off l c e=>?_
  rcases acc with ⟨rfl,_,_⟩|⟨s,cap,rfl,q1,q2,q3,q4,q5⟩
  ·cases e
  ·simp only [PV.sl.injEq]at e;omega
theorem PW.pushP {KA:PV×PHeap→Prop} (a:PW L b h Q O nP nC len vO vP vC) (hc:RowAt L h b Q c) (hk:Keep σ h) (hb:σ.next≤b) (hbn:b≤h.next) (hn:nP≤1048576)
  (kk:∀v' h' L',Keep σ h'→PW L' b h' Q O (nP+1) nC len vO v' vC→h.next<h'.next→(∀t,t<b→h'.obj t=h.obj t)→(∀t,t<h.next→7≤L t→h'.obj t=h.obj t∧L' t=L t)→KA (v',h')):optK (zY 1 24 (h.new [c]) vP (.sl h.next 0 1 (.known 1))) KA:=by
 refine MatN.push (k:=2) a.hP (by decide) hc hk hb hbn hn fun v' h' L' k1 m1 l1 hL ho hlo=>kk v' h' L' k1 ⟨?_,.inr m1,?_⟩ l1 hlo fun t ht h7=>⟨ho t ht (by omega),hL t ht⟩
 ·exact a.hO.keepK (k:=2) (by decide) (by omega) (fun t _ ht hne=>ho t ht hne) fun t ht _=>hL t ht
 ·exact a.hC.imp id fun a=>a.keepK (k:=2) (by decide) (by decide) (by decide) (by omega) (fun t _ ht hne=>ho t ht hne) fun t ht _=>hL t ht
theorem PW.pushC {KA:PV×PHeap→Prop} {m:Nat} (a:PW L b h Q O nP nC len vO vP vC) (hc:MatAt L h b Q 6 m c) (hm:len nC=m) (hk:Keep σ h) (hb:σ.next≤b) (hbn:b≤h.next) (hn:nC≤1048576)
  (kk:∀v' h' L',Keep σ h'→PW L' b h' Q O nP (nC+1) len vO vP v'→h.next<h'.next→(∀t,t<b→h'.obj t=h.obj t)→(∀t,t<h.next→7≤L t→h'.obj t=h.obj t∧L' t=L t)→KA (v',h')):optK (zY 1 24 (h.new [c]) vC (.sl h.next 0 1 (.known 1))) KA:=by
 obtain⟨s0,cap0,cs0,rfl,z1,z2,z3,z4,z5,z6,z7⟩:=hc;have acc:∃cs,PAcc b 1 h vC nC cs∧(∀i c,cs[i]? = some c→MatAt L h b Q 3 (len i) c)∧∀t off l c,vC=.sl t off l c→L t=4:=by
  rcases a.hC with ⟨rfl,rfl⟩|⟨s,cap,cs,rfl,h1,h2,h3,h4,h5,h6,h7⟩
  ·exact⟨[],PAcc.nil _ _ _,fun i c hc=>(by simp at hc),fun t off l c e=>by cases e⟩
  ·exact⟨cs,.inr ⟨s,cap,rfl,h1,h2,by omega,h4,h5⟩,h7,fun t off l c e=>by simp only [PV.sl.injEq]at e;rw [←e.1];exact h6⟩
 obtain⟨cs,acc,hcs,hL⟩:=acc;have csl:cs.length=nC:=by
  rcases acc with ⟨_,h1,h2⟩|⟨_,_,_,_,_,h,_⟩
  ·rw [h1,h2];rfl
  ·omega
 refine PAcc.pushS hk (acc.low hb) rfl (by omega) (by omega) fun v' h' k1 a1 o1 n1 l1=>?_
 obtain⟨s',cap',rfl,g1,g2,g3,g4,g5⟩:=a1;have hs':h.next≤s':=by
  rcases Nat.lt_or_ge s' h.next with q|q
  ·exact absurd rfl (n1 s' q 0 _ cap')
  ·exact q
 have ob:∀t,t<h.next→L t≠4→h'.obj t=h.obj t:=fun t ht hne=>o1 t ht fun off l c e=>hne (hL t off l c e)
 have hnx:h.next≤h'.next:=by omega
 -- the marks: the list's slot bears 4, the new matrix 3
 have e1:∀t,t<h.next→L t≠6→mkM (mkM L s' 4) s0 3 t=L t:=fun t ht hne=>by
  unfold mkM;rw [if_neg (fun e=>hne (by rw [e];exact z6)),if_neg (by omega)]
 have ob6:∀t,b≤t→t<h.next→L t≠4→h'.obj t=h.obj t:=fun t _ ht hne=>ob t ht hne
 have kR:∀{d:PV},RowAt L h b Q d→RowAt (mkM (mkM L s' 4) s0 3) h' b Q d:=fun {d} ⟨x,q,s,cap,e,r1,r2,r3,r4,r5⟩=>
  ⟨x,q,s,cap,e,r1,by rw [ob s r4 (by rw [r5];decide)];exact r2,r3,by omega,by rw [e1 s r4 (by rw [r5];decide)];exact r5⟩
 have kM:∀{j m:Nat} {d:PV},j≠4→j≠6→MatAt L h b Q j m d→MatAt (mkM (mkM L s' 4) s0 3) h' b Q j m d:=fun {j m d} hj4 hj6 ⟨s,cap,cs,e,r1,r2,r3,r4,r5,r6,r7⟩=>
  ⟨s,cap,cs,e,r1,by rw [ob s r5 (by rw [r6];exact hj4)];exact r2,r3,r4,by omega,by rw [e1 s r5 (by rw [r6];exact hj6)];exact r6,fun c hc=>kR (r7 c hc)⟩
 refine kk _ h' (mkM (mkM L s' 4) s0 3) k1 ⟨?_,a.hP.imp id (kM (by decide) (by decide)),.inr ⟨s',cap',cs++[_],rfl,g1,g2,by simpa using g3,by omega,g5,?_,fun i d hd=>?_⟩⟩ l1 (fun t ht=>?_) fun t ht h7=>⟨ob t ht (by omega),e1 t ht (by omega)⟩
 ·obtain⟨s,cap,e,r1,r2,r3,r4,r5⟩:=a.hO
  exact⟨s,cap,e,r1,by rw [ob s r4 (by rw [r5];decide)];exact r2,r3,by omega,by rw [e1 s r4 (by rw [r5];decide)];exact r5⟩
 ·unfold mkM
  rw [if_neg (by omega),if_pos rfl]
 ·rcases Nat.lt_or_ge i cs.length with hi | hi
  ·rw [List.getElem?_append_left hi]at hd
   exact kM (by decide) (by decide) (hcs i d hd)
  ·rw [List.getElem?_append_right hi]at hd
   obtain rfl:i=cs.length:=by
    rcases Nat.lt_or_ge (i-cs.length) 1 with q|q
    ·omega
    ·rw [List.getElem?_eq_none (by simpa using q)]at hd;cases hd
   rw [Nat.sub_self,List.getElem?_cons_zero]at hd
   cases hd;rw [csl,hm];exact⟨s0,cap0,cs0,rfl,z1,by rw [ob s0 z5 (by rw [z6];decide)];exact z2,z3,z4,by omega,ZT,fun c hc=>kR (z7 c hc)⟩
 ·refine o1 t (by omega) fun off l c e=>?_
  rcases acc with ⟨rfl,_,_⟩|⟨s,cap,rfl,q1,q2,q3,q4,q5⟩
  ·cases e
  ·simp only [PV.sl.injEq]at e;omega
theorem PW.set7 (a:PW L b h Q O nP nC len vO vP vC) (hL:7≤L s) (cs:List PV):PW L b (h.set s cs) Q O nP nC len vO vP vC:=
 a.keepK (k:=L s) (by omega) (Nat.le_refl _) (fun t _ _ hne=>by rw [zI,if_neg (fun e=>hne (by rw [e]))]) fun _ _ _=>rfl
theorem RowAt.fresh {cap:Cap} (hb:b≤h.next) (hq:Q x.length) (hc:full 1 cap x.length):RowAt (mkM L h.next 1) (h.new (pis x)) b Q (.sl h.next 0 x.length cap):=
 ⟨x,hq,h.next,cap,rfl,hc,by rw [zG,if_pos rfl],hb,Nat.lt_succ_self _,ZT⟩
theorem PW.fresh (a:PW L b h Q O nP nC len vO vP vC) (cs:List PV) (k:Nat):PW (mkM L h.next k) b (h.new cs) Q O nP nC len vO vP vC:=a.keepL (Nat.le_succ _) (fun t _ ht=>by rw [zG,if_neg (by omega)]) (qE (Nat.le_refl _))
theorem zC8 {vS:PV} {bs:List Int} {σ':PHeap} (q:Keep σ' h) (so:So h s vS bs) (hs:s<σ'.next):So σ' s vS bs:=by
 obtain⟨a,sd,S⟩:=so;exact⟨a,sd,by rw [←q.obj s hs];exact S.obj,hs,S.fb,S.byt,S.le,S.sd⟩
theorem kmSo {vS:PV} {bs:List Int} (km:KM σ s h) (so:So h s vS bs) (hs:s<σ.next):∃σ',Mv σ s σ'∧So σ' s vS bs∧Keep σ' h∧σ'.next=σ.next:=by
 obtain⟨σ',m,q⟩:=km;exact⟨σ',m,zC8 q so (by rw [m.next];exact hs),q,m.next⟩
theorem Zc {vS:PV} {bs:List Int} {cap:Cap} (so:So σ s vS bs) (hst:s≠t) (ho:σ.obj t=some (pis xs)) (hn:0<xs.length∧xs.length≤1000) (hk:∀x h,x∈xs→Mv σ s h→So h s vS bs→K (.int .i64 x) h):zA Tryz.prog 108 [.ptr s 0,.sl t 0 xs.length cap] σ K:=by
 refine zC mix Tryz.func108 ?_
 conv=>arg 2;cbv
 refine zD rfl ?_;simp only [pwA,seval,-iQ0];refine zO so (by omega) fun x h hx m so1=>?_
 obtain⟨i,rfl⟩:∃i:Nat,x=(i:Int):=⟨x.toNat,by have:=hx.1;omega⟩
 have hlt:i<xs.length:=by have:=hx.lt (by omega);omega
 have r1:h.rd1 t i=some (.int .i64 xs[i]):=by rw [zH (by rw [m.obj (Ne.symm hst)];exact ho),zL,gi hlt];rfl
 simp only [pwA,seval,-iQ0,hlt,r1];exact hk _ h (List.getElem_mem hlt) m so1
theorem zAn {cap:Cap} (ho:σ.obj s=some (pis xs)) (hs:s<σ.next) (hb:xs.length≤1048576) (hk:∀cap,full 1 cap xs.length→K (.sl σ.next 0 xs.length cap) (σ.new (pis xs))):zA Tryz.prog 63 [.sl s 0 xs.length cap] σ K:=by
 refine zA.gh ?_;have hne:¬s=σ.next:=Nat.ne_of_lt hs;refine zC mix Tryz.func63 ?_
 conv=>arg 2;cbv
 refine zD rfl ?_;simp only [pwA,seval,-iQ0];refine PSl.app (b:=0) (news:=pis xs) (m:=xs.length) (zB σ _) (Nat.zero_le _) (PSl.new _ 1 rfl (Nat.le_refl _)) rfl (fun h0=>?_) (by rw [zK,Nat.mul_one]) (by omega) (by omega) fun v' h' k1 k2=>?_
 ·rw [qC]
  simp only [h0,if_false,Nat.le_refl,if_true,Nat.mul_one,Zj,hne];rw [zT ho,if_pos (by rw [zK];omega),List.drop_zero,List.take_of_length_le (by rw [zK];exact Nat.le_refl _)]
 ·simp only [pwA,seval,-iQ0]at k2 ⊢
  exact k2.out k1 (zM _ _) hk
theorem Qm {n k:Nat} (hn:n≤1048576) (hkn:k<n) (hk:∀cap,full 1 cap n→K (.sl σ.next 0 n cap) (σ.new (pis (unitL n k)))):zA Tryz.prog 230 [.int .i64 n,.int .i64 k] σ K:=by
 refine zA.gh ?_;refine zC mix Tryz.func230 ?_
 conv=>arg 2;cbv
 refine zD rfl ?_;simp only [pwA,seval,-iQ0,hkn,zK,List.length_replicate,zf,mk8 (n:=n) (by omega),Go.Ab.mkL (n:=n) (by omega),Nat.succ_le_of_lt hkn]
 rw [zh (by simpa using hkn)]
 exact Gh.finS (s:=σ.next) (cs:=pis (unitL n k)) (zB σ _) (by simp only [pwA,seval,-iQ0];rfl) (Nat.le_refl _) (zM _ _) (hk _ (.inr rfl))
end Go.Proofs
namespace Go.Grp
end Go.Grp
set_option linter.unusedSimpArgs false
set_option linter.unusedVariables false
set_option linter.unusedSectionVars false
namespace Go.Proofs
open Go.Ab Go.Lie Go.Grp
variable {σ σ0 h h':PHeap} {K:PV→PHeap→Prop} {b s t n k nP nC:Nat} {L L':Nat→Nat} {Q Q':Nat→Prop} {len:Nat→Nat} {v vO vP vC c vX:PV} {x O xs:List Int} {P M:List (List Int)} {C:List (List (List Int))} {cs:List PV}
structure TvI (σ h:PHeap) (Q:Nat→Prop) (O:List Int) (L:Nat→Nat) (nP nC:Nat) (len:Nat→Nat) (r s:Nat) (vO vP vC:PV):Prop where
 keep:Keep σ h
 res:h.obj r=some [.fz true .nils 0 [],.fz true .nils 0 [],.fz true .nils 0 []]
 ob:h.obj s=some [vO,vP,vC]
 pw:PW L σ.next h Q O nP nC len vO vP vC
 lr:L r=7
 ls:L s=7
 ne:r≠s
 nr:σ.next≤r∧r<h.next
 ns:σ.next≤s∧s<h.next
variable {r:Nat}
theorem TvI.r1 (a:TvI σ h Q O L nP nC len r s vO vP vC):h.rd1 s 1=some vP:=by rw [zH a.ob];rfl
theorem TvI.r2 (a:TvI σ h Q O L nP nC len r s vO vP vC):h.rd1 s 2=some vC:=by rw [zH a.ob];rfl
theorem TvI.r3 (a:TvI σ h Q O L nP nC len r s vO vP vC):h.rd s 0 3=some [vO,vP,vC]:=by rw [zT a.ob];rfl
theorem TvI.fin (a:TvI σ h Q O L nP nC len r s vO vP vC):h.wr r 0 [vO,vP,vC]=some (h.set r [vO,vP,vC])∧(h.set r [vO,vP,vC]).rd r 0 3=some [vO,vP,vC]∧Keep σ (h.set r [vO,vP,vC])∧PW L σ.next (h.set r [vO,vP,vC]) Q O nP nC len vO vP vC:=by
 refine⟨by rw [zR a.res,if_pos ⟨by simp,by simp [a.pw.hO.one,a.pw.hP.one,a.pw.hC.one]⟩];rfl,by rw [qJ,if_pos rfl];rfl,a.keep.set a.nr.1 _,a.pw.set7 (by rw [a.lr];exact Nat.le_refl _) _⟩
theorem TvI.keepL (a:TvI σ h Q O L nP nC len r s vO vP vC) (hk:Keep σ h') (hn:h.next≤h'.next) (ho:∀t,σ.next≤t→t<h.next→h'.obj t=h.obj t) (hL:∀t,t<h.next→L' t=L t):TvI σ h' Q O L' nP nC len r s vO vP vC:=
 ⟨hk,by rw [ho r a.nr.1 a.nr.2];exact a.res,by rw [ho s a.ns.1 a.ns.2];exact a.ob,a.pw.keepL hn ho hL,by rw [hL r a.nr.2];exact a.lr,by rw [hL s a.ns.2];exact a.ls,a.ne,⟨a.nr.1,by have:=a.nr.2;omega⟩,⟨a.ns.1,by have:=a.ns.2;omega⟩⟩
theorem TvI.fresh (a:TvI σ h Q O L nP nC len r s vO vP vC) (cs:List PV) (k:Nat):TvI σ (h.new cs) Q O (mkM L h.next k) nP nC len r s vO vP vC:=a.keepL (a.keep.new cs) (Nat.le_succ _) (fun t _ ht=>by rw [zG,if_neg (by omega)]) (qE (Nat.le_refl _))
theorem TvI.step (a:TvI σ h Q O L nP nC len r s vO vP vC) {nP' nC':Nat} {uO uP uC:PV} (hk:Keep σ h') (hp:PW L' σ.next h' Q O nP' nC' len uO uP uC) (hn:h.next≤h'.next) (h7:∀t,t<h.next→7≤L t→h'.obj t=h.obj t∧L' t=L t):TvI σ (h'.set s [uO,uP,uC]) Q O L' nP' nC' len r s uO uP uC:=by
 have hs:=h7 s a.ns.2 (by rw [a.ls];exact Nat.le_refl _)
 have hr:=h7 r a.nr.2 (by rw [a.lr];exact Nat.le_refl _)
 have ls:L' s=7:=by rw [hs.2];exact a.ls
 have:=a.nr.2
 have:=a.ns.2
 exact⟨hk.set a.ns.1 _,by rw [zI,if_neg a.ne,hr.1];exact a.res,by rw [zI,if_pos rfl],hp.set7 (by rw [ls];exact Nat.le_refl _) _,by rw [hr.2];exact a.lr,ls,a.ne,⟨a.nr.1,by show r<h'.next;omega⟩,⟨a.ns.1,by show s<h'.next;omega⟩⟩
theorem TvI.old (a:TvI σ h Q O L nP nC len r s vO vP vC) (h7:∀t,t<h.next→7≤L t→h'.obj t=h.obj t∧L' t=L t):h'.obj s=some [vO,vP,vC]:=by
 rw [(h7 s a.ns.2 (by rw [a.ls];exact Nat.le_refl _)).1];exact a.ob
theorem TvI.keepK (a:TvI σ h Q O L nP nC len r s vO vP vC) (hk:6≤k) (hk7:k≠7) (kp:Keep σ h') (hn:h.next≤h'.next) (ho:∀t,t<h.next→L t≠k→h'.obj t=h.obj t) (hL:∀t,t<h.next→L' t=L t):TvI σ h' Q O L' nP nC len r s vO vP vC:=
 ⟨kp,by rw [ho r a.nr.2 (by rw [a.lr];exact Ne.symm hk7)];exact a.res,by rw [ho s a.ns.2 (by rw [a.ls];exact Ne.symm hk7)];exact a.ob,a.pw.keepK hk hn (fun t _ ht hne=>ho t ht hne) fun t ht _=>hL t ht,by rw [hL r a.nr.2];exact a.lr,by rw [hL s a.ns.2];exact a.ls,a.ne,⟨a.nr.1,by have:=a.nr.2;omega⟩,⟨a.ns.1,by have:=a.ns.2;omega⟩⟩
theorem zBk (hlen:pLen vX=some (.int .i64 O.length)) (hb:O.length≤1000)
  (hcl:∀{g:PHeap} {K':PV→PHeap→Prop},Keep σ g→(∀cap,full 1 cap O.length→K' (.sl g.next 0 O.length cap) (g.new (pis O)))→zA Tryz.prog 63 [vX] g K')
  (hk:∀L h vO vP vC,Keep σ h→PW L σ.next h (fun m=>m=O.length) O O.length O.length (fun j=>O.length-1-j) vO vP vC→K (.agg [vO,vP,vC]) h):zA Tryz.prog 203 [vX] σ K:=by
 refine zC mix Tryz.func203 ?_
 conv=>arg 2;cbv
 refine zD rfl ?_;simp only [pwA,seval,-iQ0,hlen];refine hcl (zB _ _) fun cap hc=>?_
 simp only [pwA,seval,-iQ0];generalize hn:O.length=n at *
 refine zF (fun m vs h=>∃(i:Nat) (L:Nat→Nat) (vO vP vC:PV),i≤n∧m=n-i∧vs=[.ptr σ.next 0,.int .i64 n,.ptr (σ.next+2) 0,.int .i64 i]∧TvI σ h (fun m=>m=n) O L i i (fun j=>n-1-j) σ.next (σ.next+2) vO vP vC) n ?_ ?_
 ·refine⟨0,fun t=>if t=σ.next+1 then 5 else 7,.sl (σ.next+1) 0 n cap,_,_,Nat.zero_le _,rfl,rfl,((zB _ _).new _).new _,by simp only [pwA,seval,-iQ0],by simp only [pwA,seval,-iQ0],⟨⟨σ.next+1,cap,by rw [hn],by rw [hn];exact hc,by simp only [pwA,seval,-iQ0],by omega,by show σ.next+1<σ.next+3;omega,if_pos rfl⟩,.inl ⟨rfl,rfl⟩,.inl ⟨rfl,rfl⟩⟩,if_neg (by omega),if_neg (by omega),by omega,⟨Nat.le_refl _,by show σ.next<σ.next+3;omega⟩,⟨by omega,by show σ.next+2<σ.next+3;omega⟩⟩
 rintro m vs h ⟨i,L,vO,vP,vC,hi,rfl,rfl,a⟩
 have hnn:=a.ns.2;simp only [pwA,seval,-iQ0];refine iteI (fun hlt=>?_) fun hge=>?_
 rotate_left
 ·have e:i=n:=by omega
  subst e;obtain⟨e1,e2,e3,e4⟩:=a.fin;simp only [pwA,seval,-iQ0,a.r3,e1,e2];exact hk L _ vO vP vC e3 e4
 have n1:¬σ.next+2=h.next:=by omega
 have n2:¬σ.next+2=h.next+1:=by omega
 simp only [pwA,seval,-iQ0,a.r1,n1,n2,zf,mk8 (n:=n) (by omega),Go.Ab.mkL (n:=n) (by omega)]
 have a1:=a.fresh (pis (List.replicate n 0)) 1;have hrow:RowAt (mkM L h.next 1) (h.new (pis (List.replicate n 0))) σ.next (fun m=>m=n) (.sl h.next 0 n (.known n)):=by
  have:=RowAt.fresh (L:=L) (h:=h) (b:=σ.next) (Q:=fun m=>m=n) (x:=List.replicate n 0) (cap:=.known n) (by omega) (by simp) (by simp [full])
  simpa using this
 refine PW.pushP a1.pw hrow a1.keep (Nat.le_refl _) (by show σ.next≤h.next+1;omega) (by omega) fun v1 h1 L1 k1 p1 l1 o1 m1=>?_
 have hs1:=a1.old m1;have w1:h1.wr (σ.next+2) 1 [v1]=some (h1.set (σ.next+2) [vO,v1,vC]):=by rw [zR hs1,if_pos ⟨by simp,by simp [p1.hP.one]⟩];rfl
 have a2:=a1.step k1 p1 (Nat.le_of_lt l1) m1;simp only [pwA,seval,-iQ0,w1,p1.hP.cells];have l1':h.next+1<h1.next:=l1;have wi:IntKind.i64.wrap ((i:Int)+1)=((i+1:Nat):Int):=by rw [wrap64 (by omega) (by omega)];omega
 rw [wi];generalize hg2:h1.set (σ.next+2) [vO,v1,vC]=g2 at *
 rw [show h1.next=g2.next by rw [←hg2];rfl]
 have hb2:σ.next+2<g2.next:=by rw [←hg2];show _<h1.next;omega
 clear hs1 w1 m1 o1 p1 k1 hrow a1 a;have a3:=a2.fresh [] 6;have mR:MatAt (mkM L1 g2.next 6) (g2.new []) σ.next (fun m=>m=n) 6 0 (.sl g2.next 0 0 (.known 0)):=⟨g2.next,.known 0,[],rfl,.inr rfl,by rw [zG,if_pos rfl],rfl,by omega,Nat.lt_succ_self _,ZT,fun c hc=>by cases hc⟩
 refine zF (fun m vs h=>∃(j:Nat) (L:Nat→Nat) (vR:PV),i+1≤j∧j≤n∧m=n-j∧vs=[.ptr σ.next 0,.int .i64 n,.ptr (σ.next+2) 0,.int .i64 i,vR,.int .i64 j]∧TvI σ h (fun m=>m=n) O L (i+1) i (fun j=>n-1-j) σ.next (σ.next+2) vO v1 vC∧MatAt L h σ.next (fun m=>m=n) 6 (j-(i+1)) vR) (n-(i+1)) ?_ ?_
 ·exact⟨i+1,_,_,Nat.le_refl _,hlt,rfl,rfl,a3,by rw [Nat.sub_self];exact mR⟩
 clear a3 mR a2 hg2 l1 l1'
 rintro m vs h ⟨j,L,vR,hij,hj,rfl,rfl,a,mR⟩
 have hnn:=a.ns.2;have n1:¬σ.next+2=h.next:=by omega
 simp only [pwA,seval,-iQ0];refine iteI (fun hjt=>?_) fun hge=>?_
 rotate_left
 ·have e:j=n:=by omega
  subst e;simp only [pwA,seval,-iQ0,a.r2,mR.one,mR.cells];refine PW.pushC (m:=j-(i+1)) a.pw mR (by omega) a.keep (Nat.le_refl _) (by omega) (by omega) fun v2 h2 L2 k2 p2 l2 o2 m2=>?_
  have w2:h2.wr (σ.next+2) 2 [v2]=some (h2.set (σ.next+2) [vO,v1,v2]):=by rw [zR (a.old m2),if_pos ⟨by simp,by simp [p2.hC.one]⟩];rfl
  have a2:=a.step k2 p2 (Nat.le_of_lt l2) m2;simp only [pwA,seval,-iQ0,w2,p2.hC.cells,wi];exact⟨_,by omega,i+1,L2,vO,v1,v2,by omega,rfl,rfl,a2⟩
 simp only [pwA,seval,-iQ0];refine Qm (by omega) hjt fun cap2 hc2=>?_
 have a1:=a.fresh (pis (unitL n j)) 1;have hrow:RowAt (mkM L h.next 1) (h.new (pis (unitL n j))) σ.next (fun m=>m=n) (.sl h.next 0 n cap2):=by
  have:=RowAt.fresh (L:=L) (h:=h) (b:=σ.next) (Q:=fun m=>m=n) (x:=unitL n j) (cap:=cap2) (by omega) (zb n j) (by rw [zb];exact hc2)
  rw [zb]at this;exact this
 simp only [pwA,seval,-iQ0];refine MatN.push (k:=6) (.inr (mR.keep (L':=mkM L h.next 1) (h':=h.new (pis (unitL n j))) (Nat.le_succ _) (fun t _ ht=>by rw [zG,if_neg (by omega)]) (qE (Nat.le_refl _)))) (by decide) hrow a1.keep (Nat.le_refl _) (by show σ.next≤h.next+1;omega) (by omega) fun v2 h2 L2 k2 p2 l2 hL2 ho2 _=>?_
 have wj:IntKind.i64.wrap ((j:Int)+1)=((j+1:Nat):Int):=by rw [wrap64 (by omega) (by omega)];omega
 simp only [pwA,seval,-iQ0,wj];refine⟨_,by omega,j+1,L2,v2,by omega,by omega,rfl,rfl,a1.keepK (k:=6) (Nat.le_refl _) (by decide) k2 (Nat.le_of_lt l2) ho2 hL2,?_⟩
 rw [show j+1-(i+1)=j-(i+1)+1 by omega];exact p2
end Go.Proofs
namespace Go.Grp
end Go.Grp
set_option linter.unusedSimpArgs false
set_option linter.unusedVariables false
set_option linter.unusedSectionVars false
namespace Go.Proofs
open Go.Ab Go.Lie Go.Grp
variable {σ σ0 h h':PHeap} {K:PV→PHeap→Prop} {b s t n k nP nC r s0 i j:Nat} {L L':Nat→Nat} {Q Q':Nat→Prop} {len:Nat→Nat} {v vO vP vC c vX vS:PV} {x O xs bs:List Int} {P M:List (List Int)} {C:List (List (List Int))} {cs:List PV}
structure TB (b:Nat) (h:PHeap) (Q:Nat→Prop) (O:List Int) (L:Nat→Nat) (nP nC:Nat) (len:Nat→Nat) (r s:Nat) (vO vP vC:PV):Prop where
 res:h.obj r=some [.fz true .nils 0 [],.fz true .nils 0 [],.fz true .nils 0 []]
 hr:r<b
 ob:h.obj s=some [vO,vP,vC]
 pw:PW L b h Q O nP nC len vO vP vC
 ls:L s=7
 ns:b≤s∧s<h.next
theorem TB.r0 (a:TB b h Q O L nP nC len r s vO vP vC):h.rd1 s 0=some vO:=by rw [zH a.ob];rfl
theorem TB.r1 (a:TB b h Q O L nP nC len r s vO vP vC):h.rd1 s 1=some vP:=by rw [zH a.ob];rfl
theorem TB.r2 (a:TB b h Q O L nP nC len r s vO vP vC):h.rd1 s 2=some vC:=by rw [zH a.ob];rfl
theorem TB.r3 (a:TB b h Q O L nP nC len r s vO vP vC):h.rd s 0 3=some [vO,vP,vC]:=by rw [zT a.ob];rfl
theorem TB.fin (a:TB b h Q O L nP nC len r s vO vP vC):h.wr r 0 [vO,vP,vC]=some (h.set r [vO,vP,vC])∧(h.set r [vO,vP,vC]).rd r 0 3=some [vO,vP,vC]∧PW L b (h.set r [vO,vP,vC]) Q O nP nC len vO vP vC:=
 ⟨by rw [zR a.res,if_pos ⟨by simp,by simp [a.pw.hO.one,a.pw.hP.one,a.pw.hC.one]⟩];rfl,by rw [qJ,if_pos rfl];rfl,a.pw.set a.hr _⟩
theorem TB.start (a:PW L b h Q O nP nC len vO vP vC) (hr:r<b) (hres:h.obj r=some [.fz true .nils 0 [],.fz true .nils 0 [],.fz true .nils 0 []]) (hb:b≤h.next):TB b (h.new [vO,vP,vC]) Q O (mkM L h.next 7) nP nC len r h.next vO vP vC:=
 ⟨by rw [zG,if_neg (by omega)];exact hres,hr,by rw [zG,if_pos rfl],a.fresh _ _,ZT,⟨hb,Nat.lt_succ_self _⟩⟩
theorem TB.keepL (a:TB b h Q O L nP nC len r s vO vP vC) (hn:h.next≤h'.next) (hr:h'.obj r=h.obj r) (ho:∀t,b≤t→t<h.next→h'.obj t=h.obj t) (hL:∀t,t<h.next→L' t=L t):TB b h' Q O L' nP nC len r s vO vP vC:=
 ⟨by rw [hr];exact a.res,a.hr,by rw [ho s a.ns.1 a.ns.2];exact a.ob,a.pw.keepL hn ho hL,by rw [hL s a.ns.2];exact a.ls,⟨a.ns.1,by have:=a.ns.2;omega⟩⟩
theorem TB.rlt (a:TB b h Q O L nP nC len r s vO vP vC):r<h.next:=by have:=a.hr;have:=a.ns;omega
theorem TB.keep (a:TB b h Q O L nP nC len r s vO vP vC) (kk:Keep h h'):TB b h' Q O L nP nC len r s vO vP vC:=a.keepL kk.next (kk.obj r a.rlt) (fun t _ ht=>kk.obj t ht) fun _ _=>rfl
theorem TB.new (a:TB b h Q O L nP nC len r s vO vP vC) (xs:List PV):TB b (h.new xs) Q O L nP nC len r s vO vP vC:=a.keep (zB h xs)
theorem TB.fresh (a:TB b h Q O L nP nC len r s vO vP vC) (cs:List PV) (k:Nat):TB b (h.new cs) Q O (mkM L h.next k) nP nC len r s vO vP vC:=
 a.keepL (Nat.le_succ _) (by rw [zG,if_neg (by have:=a.rlt;omega)]) (fun t _ ht=>by rw [zG,if_neg (by omega)]) (qE (Nat.le_refl _))
theorem TB.mv (a:TB b h Q O L nP nC len r s vO vP vC) (hs:s0<b) (hne:s0≠r) (m:Mv h s0 h'):TB b h' Q O L nP nC len r s vO vP vC:=
 a.keepL (by rw [m.next];exact Nat.le_refl _) (m.obj (Ne.symm hne)) (fun t hb _=>m.obj (by omega)) fun _ _=>rfl
theorem TB.wrote (a:TB b h Q O L nP nC len r s vO vP vC) (ht:b≤t) (hL:L t≠7) {cs:List PV} (p:PW L b (h.set t cs) Q O nP nC len vO vP vC):TB b (h.set t cs) Q O L nP nC len r s vO vP vC:=
 ⟨by rw [zI,if_neg (by have:=a.hr;omega)];exact a.res,a.hr,by rw [zI,if_neg (fun e=>hL (by rw [←e];exact a.ls))];exact a.ob,p,a.ls,a.ns⟩
theorem TB.putP (a:TB b h Q O L nP nC len r s vO vP vC) (hi:i<nP) (hc:RowAt L h b Q c):
  ∃sP cap ds,vP=.sl sP 0 nP cap∧b≤sP∧sP<h.next∧h.wr sP i [c]=some (h.set sP ds)∧TB b (h.set sP ds) Q O L nP nC len r s vO vP vC:=by
 obtain⟨sP,cap,cs,e,h1,h2,h3,h4,h5,_⟩:=a.pw.powers (by omega)
 obtain⟨w,p⟩:=a.pw.putRow (i:=i) h1 (by omega) (.inl h3) hc
 exact⟨sP,cap,_,e,h4,h5,w,a.wrote h4 (by omega) p⟩
theorem TB.putC (a:TB b h Q O L nP nC len r s vO vP vC) (hi:i<nC) (hj:j<len i) (hc:RowAt L h b Q c):
  ∃sC cap t cap' ds,vC=.sl sC 0 nC cap∧h.rd1 sC i=some (.sl t 0 (len i) cap')∧b≤sC∧sC<h.next∧b≤t∧t<h.next∧h.wr t j [c]=some (h.set t ds)∧TB b (h.set t ds) Q O L nP nC len r s vO vP vC:=by
 obtain⟨sC,cap,t,cap',e,h1,h2,h3,cs,h4,h5,h6,h7,h8,_⟩:=a.pw.conj hi;obtain⟨w,p⟩:=a.pw.putRow (i:=j) h4 (by omega) (.inr h6) hc
 exact⟨sC,cap,t,cap',_,e,h1,h2,h3,h7,h8,w,a.wrote h7 (by omega) p⟩
theorem TB.setP (a:TB b h Q O L nP nC len r s vO vP vC) (hi:i<nP) (hj:∀m,Q m→j<m):
  ∃sP cap t m cap',vP=.sl sP 0 nP cap∧h.rd1 sP i=some (.sl t 0 m cap')∧Q m∧b≤sP∧sP<h.next∧b≤t∧t<h.next∧∀y,∃ds,h.wr t j [.int .i64 y]=some (h.set t ds)∧TB b (h.set t ds) Q O L nP nC len r s vO vP vC:=by
 obtain⟨sP,cap,cs,e,h1,h2,h3,h4,h5,h6⟩:=a.pw.powers (by omega)
 obtain⟨x,q,t,cap',e2,g1,g2,g3,g4,g5⟩:=h6 _ (List.getElem_mem (by omega:i<cs.length))
 refine⟨sP,cap,t,x.length,cap',e,by rw [zH h1,List.getElem?_eq_getElem (by omega),e2],q,h4,h5,g3,g4,fun y=>?_⟩
 obtain⟨w,p⟩:=a.pw.setRow (y:=y) g2 (hj _ q) g5;exact⟨_,w,a.wrote g3 (by omega) p⟩
theorem TB.setC (a:TB b h Q O L nP nC len r s vO vP vC) {l:Nat} (hi:i<nC) (hl:l<len i) (hj:∀m,Q m→j<m):
  ∃sC cap u cap'' t m cap',vC=.sl sC 0 nC cap∧h.rd1 sC i=some (.sl u 0 (len i) cap'')∧h.rd1 u l=some (.sl t 0 m cap')∧Q m∧b≤sC∧sC<h.next∧b≤u∧u<h.next∧b≤t∧t<h.next∧∀y,∃ds,h.wr t j [.int .i64 y]=some (h.set t ds)∧TB b (h.set t ds) Q O L nP nC len r s vO vP vC:=by
 obtain⟨sC,cap,u,cap'',e,h1,h2,h3,cs,h4,h5,h6,h7,h8,h9⟩:=a.pw.conj hi;obtain⟨x,q,t,cap',e2,g1,g2,g3,g4,g5⟩:=h9 _ (List.getElem_mem (by omega:l<cs.length))
 refine⟨sC,cap,u,cap'',t,x.length,cap',e,h1,by rw [zH h4,List.getElem?_eq_getElem (by omega),e2],q,h2,h3,h7,h8,g3,g4,fun y=>?_⟩
 obtain⟨w,p⟩:=a.pw.setRow (y:=y) g2 (hj _ q) g5;exact⟨_,w,a.wrote g3 (by omega) p⟩
theorem RowX.rd (a:RowX L h b k x v) (hi:i<x.length):∃s cap,v=.sl s 0 x.length cap∧h.rd1 s i=some (.int .i64 (at_ x i))∧b≤s∧s<h.next∧h.obj s=some (pis x):=by
 obtain⟨s,cap,e,h1,h2,h3,h4,h5⟩:=a;exact⟨s,cap,e,by rw [zH h2,zL,gi hi,at_eq hi];rfl,h3,h4,h2⟩
theorem PW.finKM (a:PW L b h Q O nP nC len vO vP vC) (km:KM σ s0 h) (so:So h s0 vS bs) (hs0:s0<σ.next) (hb:σ.next≤b)
  (k:∀wO wP wC P C σ',IsPr wO wP wC O P C→PQ3 Q P C nP nC len→Mv σ s0 σ'→So σ' s0 vS bs→K (.agg [wO,wP,wC]) σ'):Gh σ K (.agg [vO,vP,vC]) h:=
 Gh.km km so hs0 fun σ' m' so' kp=>a.fin kp (by rw [m'.next];exact hb) fun wO wP wC P C hR hq=>k wO wP wC P C σ' hR hq m' so'
theorem zBN (hX:FI vX O) (hb:O.length≤1000) (hk:∀L h vO vP vC,Keep σ h→PW L σ.next h (fun m=>m=O.length) O O.length O.length (fun j=>O.length-1-j) vO vP vC→K (.agg [vO,vP,vC]) h):zA Tryz.prog 203 [vX] σ K:=by
 obtain⟨w,a,rfl⟩:=hX;exact zBk rfl hb (fun _ hk'=>zq rfl (by omega) hk') hk
theorem qX {cap:Cap} (ho:σ.obj s=some (pis O)) (hs:s<σ.next) (hb:O.length≤1000) (hk:∀L h vO vP vC,Keep σ h→PW L σ.next h (fun m=>m=O.length) O O.length O.length (fun j=>O.length-1-j) vO vP vC→K (.agg [vO,vP,vC]) h):zA Tryz.prog 203 [.sl s 0 O.length cap] σ K:=
 zBk rfl hb (fun kk hk'=>zAn (by rw [kk.obj s hs];exact ho) (by have:=kk.next;omega) (by omega) hk') hk
theorem zBl {cap:Cap} (ho:σ.obj s=some (pis O)) (hs:s<σ.next) (hb:O.length≤1000) (hk:∀wO wP wC P C,IsPr wO wP wC O P C→PQ3 (fun m=>m=O.length) P C O.length O.length (fun j=>O.length-1-j)→K (.agg [wO,wP,wC]) σ):zA Tryz.prog 203 [.sl s 0 O.length cap] σ K:=
 zA.gh (qX ho hs hb fun L h vO vP vC kk a=>a.fin kk (Nat.le_refl _) fun wO wP wC P C hR hq=>hk wO wP wC P C hR hq)
end Go.Proofs
namespace Go.Grp
end Go.Grp
set_option linter.unusedSimpArgs false
set_option linter.unusedVariables false
set_option linter.unusedSectionVars false
namespace Go.Proofs
open Go.Ab Go.Lie Go.Grp
variable {σ σ0 h h':PHeap} {K:PV→PHeap→Prop} {b s t n k nP nC r s0 i j:Nat} {L L':Nat→Nat} {Q Q':Nat→Prop} {len:Nat→Nat} {v vO vP vC c vX vS vL:PV} {x O xs bs:List Int} {P M:List (List Int)} {C:List (List (List Int))} {cs:List PV}
theorem RowAt.low (a:RowAt L h n Q v) (hb:b≤n):RowAt L h b Q v:=by
 obtain⟨x,q,s,cap,e,h1,h2,h3,h4,h5⟩:=a;exact⟨x,q,s,cap,e,h1,h2,by omega,h4,h5⟩
theorem MatAt.low {m:Nat} (a:MatAt L h m Q k n v) (hb:b≤m):MatAt L h b Q k n v:=by
 obtain⟨s,cap,cs,e,h1,h2,h3,h4,h5,h6,h7⟩:=a;exact⟨s,cap,cs,e,h1,h2,h3,by omega,h5,h6,fun c hc=>(h7 c hc).low hb⟩
theorem zEB (hL:FII vL M) (hm:M.length≤1000) (hq:∀r∈M,Q r.length) (hr:∀r∈M,r.length≤1048576) (hk1:k≠1) (hb:b≤σ.next)
  (hk:∀L' h v,Keep σ h→(∀t,t<σ.next→L' t=L t)→MatAt L' h b Q k M.length v→K v h):zA Tryz.prog 64 [vL] σ K:=by
 obtain⟨w,a,rows,rfl,hall⟩:=hL;refine zC mix Tryz.func64 ?_
 conv=>arg 2;cbv
 refine zD rfl ?_;simp only [pwA,seval,-iQ0];refine zF (fun m vs h=>∃(i:Nat) (L':Nat→Nat) (v:PV),i≤M.length∧m=M.length-i∧vs=[.fz w a M.length rows,v,.int .i64 i]∧Keep σ h∧(∀t,t<σ.next→L' t=L t)∧MatAt L' h σ.next Q k i v) M.length ?_ ?_
 ·exact⟨0,mkM L σ.next k,.sl σ.next 0 0 (.known 0),Nat.zero_le _,rfl,rfl,zB _ _,qE (Nat.le_refl _),σ.next,.known 0,[],rfl,.inr rfl,by rw [zG,if_pos rfl],rfl,Nat.le_refl _,Nat.lt_succ_self _,ZT,fun c hc=>by cases hc⟩
 rintro m vs h ⟨i,L',v,hi,rfl,rfl,kk,hL',mR⟩
 have hnx:=kk.next;simp only [pwA,seval,-iQ0];refine iteI (fun hlt=>?_) fun hge=>?_
 rotate_left
 ·have e:i=M.length:=by omega
  subst e;exact hk L' h v kk hL' (mR.low hb)
 obtain⟨w1,a1,hr1⟩:=hall.rowI hlt;have hlt':(i:Int)<(M.length:Int):=by omega
 simp only [pwA,seval,-iQ0,hlt,hlt',hr1];refine zq rfl (by have:=hr _ (List.getElem_mem hlt);omega) fun cap hc=>?_
 have hrow:RowAt (mkM L' h.next 1) (h.new (pis M[i])) σ.next Q (.sl h.next 0 M[i].length cap):=RowAt.fresh (by omega) (hq _ (List.getElem_mem hlt)) hc
 simp only [pwA,seval,-iQ0];refine MatN.push (σ:=σ) (b:=σ.next) (k:=k) (.inr (mR.keep (L':=mkM L' h.next 1) (h':=h.new (pis M[i])) (Nat.le_succ _) (fun t _ ht=>by rw [zG,if_neg (by omega)]) (qE (Nat.le_refl _)))) hk1 hrow (kk.new _) (Nat.le_refl _) (by show σ.next≤h.next+1;omega) (by omega) fun v2 h2 L2 k2 p2 l2 hL2 ho2 _=>?_
 have l2':h.next+1<h2.next:=l2;simp only [pwA,seval,-iQ0,wrapS hlt (by omega:M.length≤4611686018427387904)]
 exact⟨_,by omega,i+1,L2,v2,by omega,rfl,rfl,k2,fun t ht=>by rw [hL2 t (by show t<h.next+1;omega),qE (Nat.le_refl _) t (by omega)];exact hL' t ht,p2⟩
theorem zCo (hR:IsPr vO vP vC O P C) (hO:O.length≤1000) (hP:P.length≤1000) (hC:C.length≤1000) (hCl:∀q∈C,q.length≤1000) (hqP:∀r∈P,Q r.length) (hqC:∀q∈C,∀r∈q,Q r.length) (hQ:∀m,Q m→m≤1048576)
  (hk:∀L h wO wP wC,Keep σ h→PW L σ.next h Q O P.length C.length (fun i=>(C.getD i []).length) wO wP wC→K (.agg [wO,wP,wC]) h):zA Tryz.prog 65 [.agg [vO,vP,vC]] σ K:=by
 have g0:=hR.O.one;have g1:=hR.P.one;have g2:=hR.C.one;obtain⟨⟨wO,aO,rfl⟩,hRP,hRC⟩:=hR;obtain⟨w2,a2,rC,rfl,hrC⟩:=hRC;refine zC mix Tryz.func65 ?_
 conv=>arg 2;cbv
 refine zD rfl ?_;simp only [pwA,seval,-iQ0,g0,g1];refine zq rfl (by omega) fun cap hc=>?_
 simp only [pwA,seval,-iQ0,g0,g1];generalize hH:(((((σ.new [PV.fz wO aO O.length (pis O),vP,PV.fz w2 a2 C.length rC]).new [PV.fz true AV.nils 0 [],PV.fz true AV.nils 0 [],PV.fz true AV.nils 0 []]).new [PV.fz true AV.nils 0 [],PV.fz true AV.nils 0 [],PV.fz true AV.nils 0 []]).new (pis O)))=H;have hHn:H.next=σ.next+4:=by rw [←hH];rfl
 have kH:Keep σ H:=by rw [←hH];exact(((zB _ _).new _).new _).new _
 have ob0:H.obj σ.next=some [PV.fz wO aO O.length (pis O),vP,PV.fz w2 a2 C.length rC]:=by rw [←hH];simp only [pwA,seval,-iQ0]
 have ob1:H.obj (σ.next+1)=some [PV.fz true AV.nils 0 [],PV.fz true AV.nils 0 [],PV.fz true AV.nils 0 []]:=by rw [←hH];simp only [pwA,seval,-iQ0]
 have ob2:H.obj (σ.next+2)=some [PV.fz true AV.nils 0 [],PV.fz true AV.nils 0 [],PV.fz true AV.nils 0 []]:=by rw [←hH];simp only [pwA,seval,-iQ0]
 have ob3:H.obj (σ.next+3)=some (pis O):=by rw [←hH];simp only [pwA,seval,-iQ0]
 clear hH;obtain⟨L0,hL0⟩:∃L0:Nat→Nat,L0=fun t=>if t=σ.next+3 then 5 else 7:=⟨_,rfl⟩
 have l5:L0 (σ.next+3)=5:=by rw [hL0];simp
 have l7:∀t,t≠σ.next+3→L0 t=7:=fun t ht=>by rw [hL0];simp [ht]
 clear hL0;refine zEB (L:=L0) (Q:=Q) (k:=2) (b:=σ.next) hRP hP hqP (fun r hr=>hQ _ (hqP r hr)) (by decide) (by omega) fun L1 h1 v1 k1 e1 m1=>?_
 have hn1:=k1.next;have r2:h1.rd1 σ.next 1=some vP:=by rw [zH (by rw [k1.obj _ (by omega)];exact ob0)];rfl
 have o2:h1.obj (σ.next+2)=some [PV.fz true AV.nils 0 [],PV.fz true AV.nils 0 [],PV.fz true AV.nils 0 []]:=by rw [k1.obj _ (by omega)];exact ob2
 have w2':h1.wr (σ.next+2) 0 [.sl (σ.next+3) 0 O.length cap,v1,.fz true .nils 0 []]=some (h1.set (σ.next+2) [.sl (σ.next+3) 0 O.length cap,v1,.fz true .nils 0 []]):=by
  rw [zR o2,if_pos ⟨by simp,by simp [m1.one];exact⟨rfl,rfl⟩⟩];rfl
 simp only [pwA,seval,-iQ0,m1.one,m1.cells,w2'];have pw1:PW L1 σ.next h1 Q O P.length 0 (fun i=>(C.getD i []).length) (.sl (σ.next+3) 0 O.length cap) v1 (.fz true .nils 0 []):=
  ⟨⟨σ.next+3,cap,rfl,hc,by rw [k1.obj _ (by omega)];exact ob3,by omega,by omega,by rw [e1 _ (by omega)];exact l5⟩,.inr m1,.inl ⟨rfl,rfl⟩⟩
 have t1:TvI σ (h1.set (σ.next+2) [.sl (σ.next+3) 0 O.length cap,v1,.fz true .nils 0 []]) Q O L1 P.length 0 (fun i=>(C.getD i []).length) (σ.next+1) (σ.next+2) (.sl (σ.next+3) 0 O.length cap) v1 (.fz true .nils 0 []):=
  ⟨(kH.trans k1).set (by omega) _,by rw [zI,if_neg (by omega),k1.obj _ (by omega)];exact ob1,by rw [zI,if_pos rfl],pw1.set7 (by rw [e1 _ (by omega),l7 _ (by omega)];exact Nat.le_refl _) _,by rw [e1 _ (by omega),l7 _ (by omega)],by rw [e1 _ (by omega),l7 _ (by omega)],by omega,⟨by omega,by show _<h1.next;omega⟩,⟨by omega,by show _<h1.next;omega⟩⟩
 refine zF (fun m vs h=>∃(i:Nat) (L:Nat→Nat) (vC:PV),i≤C.length∧m=C.length-i∧vs=[.ptr σ.next 0,.ptr (σ.next+1) 0,.ptr (σ.next+2) 0,.int .i64 i]∧TvI σ h Q O L P.length i (fun i=>(C.getD i []).length) (σ.next+1) (σ.next+2) (.sl (σ.next+3) 0 O.length cap) v1 vC∧
  h.obj σ.next=some [PV.fz wO aO O.length (pis O),vP,PV.fz w2 a2 C.length rC]∧L σ.next=7) C.length ?_ ?_
 ·exact⟨0,L1,_,Nat.zero_le _,rfl,rfl,t1,by rw [zI,if_neg (by omega),k1.obj _ (by omega)];exact ob0,by rw [e1 _ (by omega),l7 _ (by omega)]⟩
 clear t1 pw1 w2' o2 r2 hn1 m1 e1 k1 ob0 ob1 ob2 ob3 kH hHn l5 l7
 rintro m vs h ⟨i,L,vC,hi,rfl,rfl,a,oB,lB⟩
 have hnn:=a.ns.2;have rB:h.rd1 σ.next 2=some (.fz w2 a2 C.length rC):=by rw [zH oB];rfl
 simp only [pwA,seval,-iQ0,rB];refine iteI (fun hlt=>?_) fun hge=>?_
 rotate_left
 ·have e:i=C.length:=by omega
  subst e;obtain⟨e1,e2,e3,e4⟩:=a.fin;simp only [pwA,seval,-iQ0,a.r3,e1,e2];exact hk L _ _ _ vC e3 e4
 have hlt':(i:Int)<(C.length:Int):=by omega
 obtain⟨w4,a4,rs4,hr,hrs⟩:=hrC.rowL hlt;simp only [pwA,seval,-iQ0,hlt,hlt',hr,rB,a.r2];refine zEB (L:=L) (Q:=Q) (k:=6) (b:=σ.next) ⟨w4,a4,rs4,rfl,hrs⟩ (hCl _ (List.getElem_mem hlt)) (hqC _ (List.getElem_mem hlt)) (fun r hr=>hQ _ (hqC _ (List.getElem_mem hlt) r hr)) (by decide) (by omega) fun L2 h2 v2 k2 e2 m2=>?_
 have a2:=a.keepL (a.keep.trans k2) k2.next (fun t _ ht=>k2.obj t ht) e2
 have hnn2:=a2.ns.2;have n2:¬σ.next+2=h2.next:=by omega
 simp only [pwA,seval,-iQ0,a2.r2,n2,m2.one,m2.cells];refine PW.pushC (m:=C[i].length) a2.pw m2 (by show(C.getD i []).length=_;rw [List.getD_eq_getElem?_getD,List.getElem?_eq_getElem hlt];rfl) a2.keep (Nat.le_refl _) (by omega) (by omega) fun v3 h3 L3 k3 p3 l3 o3 m3=>?_
 have w3:h3.wr (σ.next+2) 2 [v3]=some (h3.set (σ.next+2) [.sl (σ.next+3) 0 O.length cap,v1,v3]):=by rw [zR (a2.old m3),if_pos ⟨by simp,by simp [p3.hC.one]⟩];rfl
 have a3:=a2.step k3 p3 (Nat.le_of_lt l3) m3;have q7:=m3 σ.next (by omega) (by rw [e2 _ (by omega),lB];exact Nat.le_refl _)
 simp only [pwA,seval,-iQ0,w3,p3.hC.cells,wrapS hlt (by omega:C.length≤4611686018427387904)]
 refine⟨_,by omega,i+1,L3,v3,by omega,rfl,rfl,a3,?_,by rw [q7.2,e2 _ (by omega)];exact lB⟩
 first | (rw [zI,if_neg (by omega),q7.1,k2.obj _ (by omega)];exact oB) | (rw [q7.1,k2.obj _ (by omega)];exact oB)
end Go.Proofs
namespace Go.Grp
end Go.Grp
set_option linter.unusedSimpArgs false
set_option linter.unusedVariables false
set_option linter.unusedSectionVars false
namespace Go.Proofs
open Go.Ab Go.Lie Go.Grp
variable {σ σ0 h h':PHeap} {K:PV→PHeap→Prop} {b s t n k nP nC r s0 i j:Nat} {L L':Nat→Nat} {Q Q':Nat→Prop} {len:Nat→Nat} {v vO vP vC c vX vS vL:PV} {x O xs bs:List Int} {P M:List (List Int)} {C:List (List (List Int))} {cs:List PV}
theorem PW.lenE {len':Nat→Nat} (a:PW L b h Q O nP nC len vO vP vC) (he:∀i,i<nC→len i=len' i):PW L b h Q O nP nC len' vO vP vC:=by
 refine⟨a.hO,a.hP,a.hC.imp id fun⟨s,cap,cs,e,q1,q2,q3,q4,q5,q6,q7⟩=>⟨s,cap,cs,e,q1,q2,q3,q4,q5,q6,fun i c hc=>?_⟩⟩
 have hi:=(List.getElem?_eq_some_iff.1 hc).1;rw [←he i (by omega)]
 exact q7 i c hc
theorem TB.putPx (a:TB b h Q O L nP nC len r s vO vP vC) (hi:i<nP):∃sP cap,vP=.sl sP 0 nP cap∧b≤sP∧sP<h.next∧∀{xs:List Int} {cp:Cap},Q xs.length→full 1 cp xs.length→
  ∃ds L',(h.new (pis xs)).wr sP i [.sl h.next 0 xs.length cp]=some ((h.new (pis xs)).set sP ds)∧TB b ((h.new (pis xs)).set sP ds) Q O L' nP nC len r s vO vP vC:=by
 obtain⟨sP,cap,cs,e,h1,h2,h3,h4,h5,_⟩:=a.pw.powers (by omega)
 refine⟨sP,cap,e,h4,h5,fun {xs cp} hq hc=>?_⟩
 obtain⟨sP',cap',ds,e',g1,g2,w,a'⟩:=(a.fresh (pis xs) 1).putP hi (RowAt.fresh (L:=L) (b:=b) (by have:=a.ns;omega) hq hc)
 rw [e]at e'
 simp only [PV.sl.injEq]at e'
 obtain⟨rfl,_⟩:=e';exact⟨ds,_,w,a'⟩
theorem TB.putCx (a:TB b h Q O L nP nC len r s vO vP vC) (hi:i<nC) (hj:j<len i):∃sC cap t cap',vC=.sl sC 0 nC cap∧h.rd1 sC i=some (.sl t 0 (len i) cap')∧b≤sC∧sC<h.next∧b≤t∧t<h.next∧∀{xs:List Int} {cp:Cap},Q xs.length→full 1 cp xs.length→
  ∃ds L',(h.new (pis xs)).rd1 sC i=some (.sl t 0 (len i) cap')∧(h.new (pis xs)).wr t j [.sl h.next 0 xs.length cp]=some ((h.new (pis xs)).set t ds)∧TB b ((h.new (pis xs)).set t ds) Q O L' nP nC len r s vO vP vC:=by
 obtain⟨sC,cap,t,cap',e,h1,h2,h3,cs,h4,h5,h6,h7,h8,_⟩:=a.pw.conj hi;refine⟨sC,cap,t,cap',e,h1,h2,h3,h7,h8,fun {xs cp} hq hc=>?_⟩
 obtain⟨sC',cap2,t',cap2',ds,e',f1,g1,g2,g3,g4,w,a'⟩:=(a.fresh (pis xs) 1).putC hi hj (RowAt.fresh (L:=L) (b:=b) (by have:=a.ns;omega) hq hc)
 rw [e]at e'
 simp only [PV.sl.injEq]at e'
 obtain⟨rfl,_⟩:=e';have q:(h.new (pis xs)).rd1 sC i=some (.sl t 0 (len i) cap'):=by rw [zEw,if_neg (by omega)];exact h1
 rw [q]at f1
 simp only [Option.some.injEq,PV.sl.injEq]at f1
 obtain⟨rfl,_⟩:=f1;exact⟨ds,_,q,w,a'⟩
theorem TB.setPm (a:TB b h Q O L nP nC len r s vO vP vC) (hs:s0<b) (hne:s0≠r) (hi:i<nP) (hj:∀m,Q m→j<m):
  ∃sP cap t m cap',vP=.sl sP 0 nP cap∧h.rd1 sP i=some (.sl t 0 m cap')∧Q m∧∀h',Mv h s0 h'→h'.rd1 sP i=some (.sl t 0 m cap')∧∀y,∃ds,h'.wr t j [.int .i64 y]=some (h'.set t ds)∧b≤t∧TB b (h'.set t ds) Q O L nP nC len r s vO vP vC:=by
 obtain⟨sP,cap,t,m,cap',e,h1,q,h2,h3,h4,h5,_⟩:=a.setP hi hj;refine⟨sP,cap,t,m,cap',e,h1,q,fun h' mv=>?_⟩
 obtain⟨sP',cap2,t',m',cap2',e',g1,q',g2,g3,g4,g5,w⟩:=(a.mv hs hne mv).setP hi hj;rw [e]at e'
 simp only [PV.sl.injEq]at e'
 obtain⟨rfl,_⟩:=e';have r':h'.rd1 sP i=some (.sl t 0 m cap'):=by unfold PHeap.rd1 at h1 ⊢;rw [mv.obj (by omega)];exact h1
 rw [r']at g1
 simp only [Option.some.injEq,PV.sl.injEq]at g1
 obtain⟨rfl,_⟩:=g1;exact⟨r',fun y=>by obtain⟨ds,w1,a1⟩:=w y;exact⟨ds,w1,h4,a1⟩⟩
theorem TB.setCm (a:TB b h Q O L nP nC len r s vO vP vC) {l:Nat} (hs:s0<b) (hne:s0≠r) (hi:i<nC) (hl:l<len i) (hj:∀m,Q m→j<m):
  ∃sC cap u cap'' t m cap',vC=.sl sC 0 nC cap∧h.rd1 sC i=some (.sl u 0 (len i) cap'')∧h.rd1 u l=some (.sl t 0 m cap')∧Q m∧∀h',Mv h s0 h'→h'.rd1 sC i=some (.sl u 0 (len i) cap'')∧h'.rd1 u l=some (.sl t 0 m cap')∧
   ∀y,∃ds,h'.wr t j [.int .i64 y]=some (h'.set t ds)∧b≤t∧TB b (h'.set t ds) Q O L nP nC len r s vO vP vC:=by
 obtain⟨sC,cap,u,cap'',t,m,cap',e,h1,h2,q,f1,f2,f3,f4,f5,f6,_⟩:=a.setC hi hl hj;refine⟨sC,cap,u,cap'',t,m,cap',e,h1,h2,q,fun h' mv=>?_⟩
 obtain⟨sC',c1,u',c2,t',m',c3,e',g1,g2,q',k1,k2,k3,k4,k5,k6,w⟩:=(a.mv hs hne mv).setC hi hl hj;rw [e]at e'
 simp only [PV.sl.injEq]at e'
 obtain⟨rfl,_⟩:=e';have r1:h'.rd1 sC i=some (.sl u 0 (len i) cap''):=by unfold PHeap.rd1 at h1 ⊢;rw [mv.obj (by omega)];exact h1
 rw [r1]at g1
 simp only [Option.some.injEq,PV.sl.injEq]at g1
 obtain⟨rfl,_⟩:=g1;have r2:h'.rd1 u l=some (.sl t 0 m cap'):=by unfold PHeap.rd1 at h2 ⊢;rw [mv.obj (by omega)];exact h2
 rw [r2]at g2
 simp only [Option.some.injEq,PV.sl.injEq]at g2
 obtain⟨rfl,_⟩:=g2;exact⟨r1,r2,fun y=>by obtain⟨ds,w1,a1⟩:=w y;exact⟨ds,w1,f5,a1⟩⟩
theorem zHc (so:So σ s0 vS bs) (hR:IsPr vO vP vC O P C) (hp:zW O P C)
  (hk:∀wO wP wC P' C' σ',IsPr wO wP wC O P' C'→PQ3 (fun m=>m=O.length) P' C' O.length O.length (fun i=>O.length-1-i)→Mv σ s0 σ'→So σ' s0 vS bs→K (.agg [wO,wP,wC]) σ'):zA Tryz.prog 84 [.ptr s0 0,.agg [vO,vP,vC]] σ K:=by
 have sh:=hp.shp;have hn6:=sh.le;have g0:=hR.O.one;have g1:=hR.P.one;have g2:=hR.C.one;have hlt:=so.lt;have hCr:∀q∈C,q.length≤1000∧∀r∈q,r.length=O.length:=fun q hq=>by
  obtain⟨i,hi,rfl⟩:=List.mem_iff_getElem.1 hq;have hi':i<O.length:=by rw [←sh.cl];exact hi
  have e1:C.getD i []=C[i]:=by rw [List.getD_eq_getElem?_getD,List.getElem?_eq_getElem hi];rfl
  have hl:=sh.row i hi';rw [e1]at hl
  refine⟨by omega,fun r hr=>?_⟩
  obtain⟨k,hk',rfl⟩:=List.mem_iff_getElem.1 hr
  have:=(sh.cj i (i+1+k) (by omega) (by omega)).len
  unfold cvec at this
  rw [e1,show i+1+k-i-1=k by omega,List.getD_eq_getElem?_getD,List.getElem?_eq_getElem hk']at this
  exact this
 have hPr:∀r∈P,r.length=O.length:=fun r hr=>by
  obtain⟨i,hi,rfl⟩:=List.mem_iff_getElem.1 hr
  have:=(sh.pw i (by rw [←sh.pl];exact hi)).len
  unfold pvec at this
  rw [List.getD_eq_getElem?_getD,List.getElem?_eq_getElem hi]at this
  exact this
 refine zA.gh ?_;refine zN mix Tryz.func84 cf84 rfl ?_;dsimp only [if84,eI,qD,eD,mI0,lI0,LI0,fI0,bI0,cI0,sI0,C1,C2,mD0,lD0,fD0,xD0,I0,vI0,wD0,R0,S0];simp only [pwA,seval,-iQ0,g0,g1,g2];generalize hH:((σ.new [vO,vP,vC]).new [PV.fz true AV.nils 0 [],PV.fz true AV.nils 0 [],PV.fz true AV.nils 0 []])=H;have hHn:H.next=σ.next+2:=by rw [←hH];rfl
 have kH:Keep σ H:=by rw [←hH];exact(zB _ _).new _
 have ob1:H.obj (σ.next+1)=some [PV.fz true AV.nils 0 [],PV.fz true AV.nils 0 [],PV.fz true AV.nils 0 []]:=by rw [←hH];simp only [pwA,seval,-iQ0]
 clear hH;refine zCo (Q:=fun m=>m=O.length) hR (by omega) (by rw [sh.pl];omega) (by rw [sh.cl];omega) (fun q hq=>(hCr q hq).1) hPr (fun q hq=>(hCr q hq).2) (fun m hm=>by omega) fun L h uO uP uC k1 p1=>?_
 have hn1:=k1.next;have p2:PW L H.next h (fun m=>m=O.length) O O.length O.length (fun i=>O.length-1-i) uO uP uC:=by
  rw [sh.pl,sh.cl]at p1
  exact p1.lenE fun i hi=>sh.row i hi
 have a:=TB.start p2 (r:=σ.next+1) (by omega) (by rw [k1.obj _ (by omega)];exact ob1) hn1
 obtain⟨so_,capO,eO,qO1,qO2,qO3,qO4,qO5⟩:=p2.hO;subst eO;have km1:KM σ s0 (h.new [.sl so_ 0 O.length capO,uP,uC]):=so.kmK ((kH.trans k1).new _);have so1:So (h.new [.sl so_ 0 O.length capO,uP,uC]) s0 vS bs:=so.keep ((kH.trans k1).new _);simp only [pwA,seval,-iQ0,p2.hP.one,p2.hC.one];have hr1:s0≠σ.next+1:=by omega
 have hs0:s0<H.next:=by omega
 have fin:∀{g:PHeap} {L':Nat→Nat},KM σ s0 g→So g s0 vS bs→TB H.next g (fun m=>m=O.length) O L' O.length O.length (fun i=>O.length-1-i) (σ.next+1) h.next (.sl so_ 0 O.length capO) uP uC→
   g.wr (σ.next+1) 0 [.sl so_ 0 O.length capO,uP,uC]=some (g.set (σ.next+1) [.sl so_ 0 O.length capO,uP,uC])∧(g.set (σ.next+1) [.sl so_ 0 O.length capO,uP,uC]).rd (σ.next+1) 0 3=some [.sl so_ 0 O.length capO,uP,uC]∧Gh σ K (.agg [.sl so_ 0 O.length capO,uP,uC]) (g.set (σ.next+1) [.sl so_ 0 O.length capO,uP,uC]):=fun {g L'} km so' a=>by
  obtain⟨e1,e2,e3⟩:=a.fin;exact⟨e1,e2,e3.finKM (km.set (by omega) _) (so'.set (by omega) _) hlt (by omega) fun wO wP wC P C σ' x1 x2 x3 x4=>hk wO wP wC P C σ' x1 x2 x3 x4⟩
 generalize h.new [PV.sl so_ 0 O.length capO,uP,uC]=g at *
 have hnb:O.length≤6:=hn6;refine zO so1 (by omega) fun x1 g1 hx1 m1 so2=>?_
 have a1:=a.mv hs0 hr1 m1;have km2:=km1.mv hlt m1;have x10:=hx1.1;have wi1:IntKind.i64.wrap ((O.length:Int)-1)=(O.length:Int)-1:=wrap64 (by omega) (by omega)
 have x1b:x1≤6:=by
  rcases Int.lt_or_le 1 (O.length:Int)with q|q
  ·have:=hx1.2.2 q;omega
  ·have:=hx1.2.1 q;omega
 have wi2:IntKind.i64.wrap ((O.length:Int)-1-x1)=(O.length:Int)-1-x1:=wrap64 (by omega) (by omega)
 have wi3:IntKind.i64.wrap (x1+1)=x1+1:=wrap64 (by omega) (by omega)
 simp only [pwA,seval,-iQ0,wi1,wi2,wi3];refine zO so2 (by omega) fun x2 g2 hx2 m2 so3=>?_
 have a2:=a1.mv hs0 hr1 m2;have km3:=km2.mv hlt m2;have x20:=hx2.1;have x2b:x2≤6:=by
  rcases Int.lt_or_le 1 ((O.length:Int)-1-x1)with q|q
  ·have:=hx2.2.2 q;omega
  ·have:=hx2.2.1 q;omega
 have wi4:IntKind.i64.wrap (x1+1+x2)=x1+1+x2:=wrap64 (by omega) (by omega)
 simp only [pwA,seval,-iQ0,wi4];refine iteI (fun hge=>?_) fun hlt2=>?_
 ·obtain⟨e1,e2,e3⟩:=fin km3 so3 a2
  simp only [pwA,seval,-iQ0,a2.r3,e1,e2];exact e3
 obtain⟨i,rfl⟩:∃i:Nat,x1=i:=⟨x1.toNat,by omega⟩
 obtain⟨j,hj⟩:∃j:Nat,(i:Int)+1+x2=j:=⟨((i:Int)+1+x2).toNat,by omega⟩
 rw [hj];have hin:i<O.length:=by omega
 have hjn:j<O.length:=by omega
 have hin':(i:Int)<(O.length:Int):=by omega
 have hjn':(j:Int)<(O.length:Int):=by omega
 simp only [pwA,seval,-iQ0];refine zO so3 (by decide) fun x3 g3 hx3 m3 so4=>?_
 have a3:=a2.mv hs0 hr1 m3;have km4:=km3.mv hlt m3;have hOb:∀{g:PHeap} {L':Nat→Nat},TB H.next g (fun m=>m=O.length) O L' O.length O.length (fun i=>O.length-1-i) (σ.next+1) h.next (.sl so_ 0 O.length capO) uP uC→g.rd1 so_ j=some (.int .i64 (at_ O j)):=fun {g L'} a=>by
  obtain⟨s',c',e,q,_⟩:=a.pw.hO.rd hjn;simp only [PV.sl.injEq]at e
  obtain⟨rfl,_⟩:=e;exact q
 have oj:=(sh.pr j hjn);simp only [pwA,seval,-iQ0];refine iteI (fun h0=>?_) fun hn0=>?_
 ·obtain⟨sP,capP,t,m,capt,rfl,q1,q2,q3⟩:=a3.setPm (j:=j) hs0 hr1 hin (fun m hm=>by rw [hm];exact hjn)
  subst q2;simp only [pwA,seval,-iQ0,a3.r1,a3.r0,hin,hin',q1,hjn,hjn',hOb a3];refine zO so4 (by omega) fun y g4 hy m4 so5=>?_
  obtain⟨q4,q5⟩:=q3 g4 m4;have a4:=a3.mv hs0 hr1 m4;obtain⟨ds,w,hbt,a5⟩:=q5 y;have km6:=(km4.mv hlt m4).set (t:=t) (by omega) ds
  have so6:=so5.set (t:=t) (by omega) ds
  generalize g4.set t ds=g5 at *
  simp only [pwA,seval,-iQ0,a4.r1,q4,hjn,hjn',w];obtain⟨e1,e2,e3⟩:=fin km6 so6 a5;simp only [pwA,seval,-iQ0,a5.r3,e1,e2];exact e3
 have wi5:IntKind.i64.wrap ((O.length:Int)-1-(i:Int))=(O.length:Int)-1-(i:Int):=wrap64 (by omega) (by omega)
 simp only [pwA,seval,-iQ0,wi1,wi3,wi5];refine zO so4 (by omega) fun x4 g4 hx4 m4 so5=>?_
 have a4:=a3.mv hs0 hr1 m4;have km5:=km4.mv hlt m4;have x40:=hx4.1;have x4b:x4<(O.length:Int)-1-(i:Int):=hx4.lt (by omega)
 have wi6:IntKind.i64.wrap ((i:Int)+1+x4)=(i:Int)+1+x4:=wrap64 (by omega) (by omega)
 have wi7:IntKind.i64.wrap ((i:Int)+1+x4-(i:Int))=x4+1:=by rw [wrap64 (by omega) (by omega)];omega
 have wi8:IntKind.i64.wrap (x4+1-1)=x4:=by rw [wrap64 (by omega) (by omega)];omega
 obtain⟨l,rfl⟩:∃l:Nat,x4=l:=⟨x4.toNat,by omega⟩
 have hl:l<O.length-1-i:=by omega
 have hl1:l<O.length-(1+i):=by omega
 have hl2:(l:Int)<((O.length-1-i:Nat):Int):=by omega
 have hl':(l:Int)<((O.length-(1+i):Nat):Int):=by omega
 obtain⟨sC,capC,u,capu,t,m,capt,rfl,q1,q1',q2,q3⟩:=a4.setCm (j:=j) hs0 hr1 hin hl (fun m hm=>by rw [hm];exact hjn)
 subst q2;simp only [pwA,seval,-iQ0,wi3,wi6,wi7,wi8,a4.r2,a4.r0,hin,hin',q1,q1',hl,hl1,hl2,hl',hjn,hjn',hOb a4];refine zO so5 (by omega) fun y g5 hy m5 so6=>?_
 obtain⟨q4,q4',q5⟩:=q3 g5 m5;have a5:=a4.mv hs0 hr1 m5;obtain⟨ds,w,hbt,a6⟩:=q5 y;have km6:=(km5.mv hlt m5).set (t:=t) (by omega) ds
 have so7:=so6.set (t:=t) (by omega) ds
 generalize g5.set t ds=g6 at *
 simp only [pwA,seval,-iQ0,a5.r2,q4,q4',hl,hl1,hl2,hl',hjn,hjn',w];obtain⟨e1,e2,e3⟩:=fin km6 so7 a6;simp only [pwA,seval,-iQ0,a6.r3,e1,e2];exact e3
end Go.Proofs
namespace Go.Grp
end Go.Grp
set_option linter.unusedSimpArgs false
set_option linter.unusedVariables false
set_option linter.unusedSectionVars false
namespace Go.Proofs
open Go.Ab Go.Lie Go.Grp
variable {σ σ0 h h':PHeap} {K:PV→PHeap→Prop} {b s t n k nP nC r s0 i j:Nat} {L L':Nat→Nat} {Q Q':Nat→Prop} {len:Nat→Nat} {v vO vP vC c vX vS vL:PV} {x O xs bs:List Int} {P M:List (List Int)} {C:List (List (List Int))} {cs:List PV}
theorem zBn {k0:Nat} (hM:MatAt L σ b Q k0 n v) (hm:n≤1000) (hr:∀m,Q m→m≤1048576) (hk1:k≠1) (hb:b≤σ.next)
  (hk:∀L' h v,Keep σ h→(∀t,t<σ.next→L' t=L t)→MatAt L' h b Q k n v→K v h):zA Tryz.prog 64 [v] σ K:=by
 obtain⟨s,cap,cs,rfl,h1,h2,h3,h4,h5,h6,h7⟩:=hM;refine zC mix Tryz.func64 ?_
 conv=>arg 2;cbv
 refine zD rfl ?_;simp only [pwA,seval,-iQ0];refine zF (fun m vs h=>∃(i:Nat) (L':Nat→Nat) (v:PV),i≤n∧m=n-i∧vs=[.sl s 0 n cap,v,.int .i64 i]∧Keep σ h∧(∀t,t<σ.next→L' t=L t)∧MatAt L' h σ.next Q k i v) n ?_ ?_
 ·exact⟨0,mkM L σ.next k,.sl σ.next 0 0 (.known 0),Nat.zero_le _,rfl,rfl,zB _ _,qE (Nat.le_refl _),σ.next,.known 0,[],rfl,.inr rfl,by rw [zG,if_pos rfl],rfl,Nat.le_refl _,Nat.lt_succ_self _,ZT,fun c hc=>by cases hc⟩
 rintro m vs h ⟨i,L',v,hi,rfl,rfl,kk,hL',mR⟩
 have hnx:=kk.next;simp only [pwA,seval,-iQ0];refine iteI (fun hlt=>?_) fun hge=>?_
 rotate_left
 ·have e:i=n:=by omega
  subst e;exact hk L' h v kk hL' (mR.low hb)
 obtain⟨x,q,t,capt,e,g1,g2,g3,g4,g5⟩:=h7 _ (List.getElem_mem (by omega:i<cs.length))
 have hlt':(i:Int)<(n:Int):=by omega
 have rd:h.rd1 s i=some (.sl t 0 x.length capt):=by unfold PHeap.rd1;rw [kk.obj s h5,h2,←e];exact List.getElem?_eq_getElem (by omega)
 simp only [pwA,seval,-iQ0,hlt,hlt',rd];refine zAn (by rw [kk.obj t g4];exact g2) (by omega) (hr _ q) fun cap2 hc=>?_
 have hrow:RowAt (mkM L' h.next 1) (h.new (pis x)) σ.next Q (.sl h.next 0 x.length cap2):=RowAt.fresh (by omega) q hc
 simp only [pwA,seval,-iQ0];refine MatN.push (σ:=σ) (b:=σ.next) (k:=k) (.inr (mR.keep (L':=mkM L' h.next 1) (h':=h.new (pis x)) (Nat.le_succ _) (fun t _ ht=>by rw [zG,if_neg (by omega)]) (qE (Nat.le_refl _)))) hk1 hrow (kk.new _) (Nat.le_refl _) (by show σ.next≤h.next+1;omega) (by omega) fun v2 h2 L2 k2 p2 l2 hL2 ho2 _=>?_
 have l2':h.next+1<h2.next:=l2;simp only [pwA,seval,-iQ0,wrapS hlt (by omega:n≤4611686018427387904)]
 exact⟨_,by omega,i+1,L2,v2,by omega,rfl,rfl,k2,fun t ht=>by rw [hL2 t (by show t<h.next+1;omega),qE (Nat.le_refl _) t (by omega)];exact hL' t ht,p2⟩
theorem MatN.pushG {KA:PV×PHeap→Prop} {x:PV} (a:MatN L h b Q k n v) (hk1:k≠1) (hc:RowAt L h b Q c) (hx:plen x=some 1) (hf:qW 1 h x 1=some [c]) (hk:Keep σ h) (hb:σ.next≤b) (hbn:b≤h.next) (hn:n≤1048576)
  (kk:∀v' h' L',Keep σ h'→MatAt L' h' b Q k (n+1) v'→h.next<h'.next→(∀t,t<h.next→L' t=L t)→(∀t,t<h.next→L t≠k→h'.obj t=h.obj t)→(∀t,t<b→h'.obj t=h.obj t)→KA (v',h')):optK (zY 1 24 h v x) KA:=by
 obtain⟨cs,acc,hcs,hL⟩:=a.acc;refine PAcc.appS (m:=1) (news:=[c]) hk (acc.low hb) hx (by decide) hf rfl (by omega) (by omega) fun v' h' k1 a1 o1 n1 l1=>?_
 obtain⟨s',cap',rfl,g1,g2,g3,g4,g5⟩:=a1;have hs':h.next≤s':=by
  rcases Nat.lt_or_ge s' h.next with q|q
  ·exact absurd rfl (n1 s' q 0 _ cap')
  ·exact q
 have ob:∀t,t<h.next→L t≠k→h'.obj t=h.obj t:=fun t ht hne=>o1 t ht fun off l c e=>hne (hL t off l c e)
 have hnx:h.next≤h'.next:=by omega
 have keepR:∀{d:PV},RowAt L h b Q d→RowAt (mkM L s' k) h' b Q d:=fun {d} hd=>hd.keepK (k:=k) (Ne.symm hk1) hnx (fun t _ ht hne=>ob t ht hne) fun t ht _=>qE hs' t ht
 refine kk _ h' (mkM L s' k) k1 ⟨s',cap',cs++[c],rfl,g1,g2,by simpa using g3,by omega,g5,ZT,fun d hd=>?_⟩ l1 (qE hs') ob fun t ht=>?_
 ·rcases List.mem_append.1 hd with hd | hd
  ·exact keepR (hcs d hd)
  ·rw [List.mem_singleton.1 hd];exact keepR hc
 ·refine o1 t (by omega) fun off l c e=>?_
  rcases acc with ⟨rfl,_,_⟩|⟨s,cap,rfl,q1,q2,q3,q4,q5⟩
  ·cases e
  ·simp only [PV.sl.injEq]at e;omega
theorem TB.keepK (a:TB b h Q O L nP nC len r s vO vP vC) (hk:6≤k) (hk7:k≠7) (hn:h.next≤h'.next) (hlo:∀t,t<b→h'.obj t=h.obj t) (ho:∀t,t<h.next→L t≠k→h'.obj t=h.obj t) (hL:∀t,t<h.next→L' t=L t):TB b h' Q O L' nP nC len r s vO vP vC:=
 ⟨by rw [hlo r a.hr];exact a.res,a.hr,by rw [ho s a.ns.2 (by rw [a.ls];exact Ne.symm hk7)];exact a.ob,a.pw.keepK hk hn (fun t _ ht hne=>ho t ht hne) fun t ht _=>hL t ht,by rw [hL s a.ns.2];exact a.ls,⟨a.ns.1,by have:=a.ns.2;omega⟩⟩
theorem zA6 {u:Nat} {cap:Cap} (ho:h.obj u=some [c]):qW 1 h (.sl u 0 1 cap) 1=some [c]:=by
 rw [qC,if_neg (by decide),if_pos (Nat.le_refl _),zT ho];rfl
theorem PW.pushO {KA:PV×PHeap→Prop} {y:Int} (a:PW L b h Q O nP nC len vO vP vC) (hk:Keep σ h) (hb:σ.next≤b) (hbn:b≤h.next) (hn:O.length≤1048576)
  (kk:∀v' h' L',Keep σ h'→PW L' b h' Q (O++[y]) nP nC len v' vP vC→h.next<h'.next→(∀t,t<b→h'.obj t=h.obj t)→(∀t,t<h.next→7≤L t→h'.obj t=h.obj t∧L' t=L t)→KA (v',h')):optK (zY 1 8 (h.new [.int .i64 y]) vO (.sl h.next 0 1 (.known 1))) KA:=by
 obtain⟨s,cap,rfl,h1,h2,h3,h4,h5⟩:=a.hO;have acc:PAcc b 1 h (.sl s 0 O.length cap) O.length (pis O):=.inr ⟨s,cap,rfl,h1,h2,by rw [zK,Nat.mul_one],h3,h4⟩
 refine PAcc.pushS hk (acc.low hb) rfl (by omega) (by omega) fun v' h' k1 a1 o1 n1 l1=>?_
 obtain⟨s',cap',rfl,g1,g2,g3,g4,g5⟩:=a1;have hs':h.next≤s':=by
  rcases Nat.lt_or_ge s' h.next with q|q
  ·exact absurd rfl (n1 s' q 0 _ cap')
  ·exact q
 have ob:∀t,t<h.next→L t≠5→h'.obj t=h.obj t:=fun t ht hne=>o1 t ht fun off l c e=>hne (by simp only [PV.sl.injEq]at e;rw [←e.1];exact h5)
 have ho:∀t,b≤t→t<h.next→L t≠5→h'.obj t=h.obj t:=fun t _ ht hne=>ob t ht hne
 have hL:∀t,t<h.next→L t≠5→mkM L s' 5 t=L t:=fun t ht _=>qE hs' t ht
 have hx:pis O++[.int .i64 y]=pis (O++[y]):=by simp [pis]
 refine kk _ h' (mkM L s' 5) k1 ⟨⟨s',cap',by simp,by simpa using g1,by rw [g2,hx],by omega,g5,ZT⟩,a.hP.imp id fun a=>a.keepK (k:=5) (by decide) (by decide) (by omega) ho hL,a.hC.imp id fun a=>a.keepK (k:=5) (by decide) (by decide) (by decide) (by omega) ho hL⟩ l1 (fun t ht=>?_) fun t ht h7=>⟨ob t ht (by omega),hL t ht (by omega)⟩
 exact o1 t (by omega) fun off l c e=>by simp only [PV.sl.injEq]at e;omega
theorem PW.setO {y:Int} (a:PW L b h Q O nP nC len vO vP vC) (hi:i<O.length):∃so cap,vO=.sl so 0 O.length cap∧b≤so∧so<h.next∧L so=5∧h.wr so i [.int .i64 y]=some (h.set so (pis (O.set i y)))∧PW L b (h.set so (pis (O.set i y))) Q (O.set i y) nP nC len vO vP vC:=by
 obtain⟨s,cap,rfl,h1,h2,h3,h4,h5⟩:=a.hO;have ho:∀t,b≤t→t<h.next→L t≠5→(h.set s (pis (O.set i y))).obj t=h.obj t:=fun t _ ht hne=>by rw [zI,if_neg fun e=>hne (by rw [e];exact h5)]
 refine⟨s,cap,rfl,h3,h4,h5,zBU h2 hi,⟨s,cap,by rw [List.length_set],by rw [List.length_set];exact h1,by rw [zI,if_pos rfl],h3,h4,h5⟩,a.hP.imp id fun a=>a.keepK (k:=5) (by decide) (by decide) (Nat.le_refl _) ho fun _ _ _=>rfl,a.hC.imp id fun a=>a.keepK (k:=5) (by decide) (by decide) (by decide) (Nat.le_refl _) ho fun _ _ _=>rfl⟩
theorem PW.putMat {m:Nat} (a:PW L b h Q O nP nC len vO vP vC) (hi:i<nC) (hc:MatAt L h b Q 6 m c):∃sC cap ds L' len',vC=.sl sC 0 nC cap∧b≤sC∧sC<h.next∧L sC=4∧h.wr sC i [c]=some (h.set sC ds)∧
  PW L' b (h.set sC ds) Q O nP nC len' vO vP vC∧(∀t,7≤L t→L' t=L t)∧∀j,len' j=if j=i then m else len j:=by
 obtain⟨s0,cap0,cs0,rfl,z1,z2,z3,z4,z5,z6,z7⟩:=hc;rcases a.hC with ⟨e,_⟩|⟨s,cap,cs,rfl,h1,h2,h3,h4,h5,h6,h7⟩
 ·omega
 have e1:∀t,L t≠6→mkM L s0 3 t=L t:=fun t hne=>if_neg fun e=>hne (by rw [e];exact z6)
 have ob:∀t,L t≠4→(h.set s (cs.set i (.sl s0 0 m cap0))).obj t=h.obj t:=fun t hne=>by rw [zI,if_neg fun e=>hne (by rw [e];exact h6)]
 have kR:∀{d:PV},RowAt L h b Q d→RowAt (mkM L s0 3) (h.set s (cs.set i (.sl s0 0 m cap0))) b Q d:=fun {d} ⟨x,q,s,cap,e,r1,r2,r3,r4,r5⟩=>
  ⟨x,q,s,cap,e,r1,by rw [ob s (by rw [r5];decide)];exact r2,r3,r4,by rw [e1 s (by rw [r5];decide)];exact r5⟩
 have kM:∀{j m:Nat} {d:PV},j≠4→j≠6→MatAt L h b Q j m d→MatAt (mkM L s0 3) (h.set s (cs.set i (.sl s0 0 _ cap0))) b Q j m d:=fun {j m d} hj4 hj6 ⟨s,cap,cs,e,r1,r2,r3,r4,r5,r6,r7⟩=>
  ⟨s,cap,cs,e,r1,by rw [ob s (by rw [r6];exact hj4)];exact r2,r3,r4,r5,by rw [e1 s (by rw [r6];exact hj6)];exact r6,fun c hc=>kR (r7 c hc)⟩
 refine⟨s,cap,_,mkM L s0 3,fun j=>if j=i then m else len j,rfl,h4,h5,h6,zBV h2 (by omega) rfl,⟨?_,a.hP.imp id (kM (by decide) (by decide)),.inr ⟨s,cap,_,rfl,h1,by rw [zI,if_pos rfl],by rw [List.length_set];exact h3,h4,h5,by rw [e1 s (by rw [h6];decide)];exact h6,fun j d hd=>?_⟩⟩,fun t ht=>e1 t (by omega),fun j=>rfl⟩
 ·obtain⟨s,cap,e,r1,r2,r3,r4,r5⟩:=a.hO
  exact⟨s,cap,e,r1,by rw [ob s (by rw [r5];decide)];exact r2,r3,r4,by rw [e1 s (by rw [r5];decide)];exact r5⟩
 ·rw [List.getElem?_set]at hd
  by_cases e:i=j
  ·subst e
   rw [if_pos rfl,if_pos (by omega)]at hd
   cases hd;simp only [if_true];exact⟨s0,cap0,cs0,rfl,z1,by rw [ob s0 (by rw [z6];decide)];exact z2,z3,z4,z5,ZT,fun c hc=>kR (z7 c hc)⟩
  ·rw [if_neg e]at hd
   simp only [if_neg (Ne.symm e)];exact kM (by decide) (by decide) (h7 j d hd)
theorem RowAt.weak (a:RowAt L h b Q v) (hq:∀m,Q m→Q' m):RowAt L h b Q' v:=by
 obtain⟨x,q,a⟩:=a;exact⟨x,hq _ q,a⟩
theorem MatAt.weak (a:MatAt L h b Q k n v) (hq:∀m,Q m→Q' m):MatAt L h b Q' k n v:=by
 obtain⟨s,cap,cs,e,h1,h2,h3,h4,h5,h6,h7⟩:=a;exact⟨s,cap,cs,e,h1,h2,h3,h4,h5,h6,fun c hc=>(h7 c hc).weak hq⟩
theorem PW.weak (a:PW L b h Q O nP nC len vO vP vC) (hq:∀m,Q m→Q' m):PW L b h Q' O nP nC len vO vP vC:=
 ⟨a.hO,a.hP.imp id fun a=>a.weak hq,a.hC.imp id fun⟨s,cap,cs,e,h1,h2,h3,h4,h5,h6,h7⟩=>⟨s,cap,cs,e,h1,h2,h3,h4,h5,h6,fun i c hc=>(h7 i c hc).weak hq⟩⟩
theorem TB.weak (a:TB b h Q O L nP nC len r s vO vP vC) (hq:∀m,Q m→Q' m):TB b h Q' O L nP nC len r s vO vP vC:=⟨a.res,a.hr,a.ob,a.pw.weak hq,a.ls,a.ns⟩
theorem TB.wroteO {O':List Int} {L':Nat→Nat} {nP' nC':Nat} {len':Nat→Nat} (a:TB b h Q O L nP nC len r s vO vP vC) (ht:b≤t) (hL:L t≠7) (hL':L' s=L s) {cs:List PV} (p:PW L' b (h.set t cs) Q O' nP' nC' len' vO vP vC):TB b (h.set t cs) Q O' L' nP' nC' len' r s vO vP vC:=
 ⟨by rw [zI,if_neg (by have:=a.hr;omega)];exact a.res,a.hr,by rw [zI,if_neg (fun e=>hL (by rw [←e];exact a.ls))];exact a.ob,p,by rw [hL'];exact a.ls,a.ns⟩
structure SmP (O:List Int) (P:List (List Int)) (C:List (List (List Int))):Prop where
 o:O.length≤64
 ob:∀a∈O,-1000≤a∧a≤1000
 p:P.length≤64
 pr:∀r∈P,r.length≤64
 c:C.length≤64
 q:∀q∈C,q.length≤64
 r:∀q∈C,∀r∈q,r.length≤64
theorem PQ3.sm {N:Nat} (a:PQ3 (fun m=>m≤N) P C nP nC len) (hN:N≤64) (hO:O.length≤64) (ob:∀a∈O,-1000≤a∧a≤1000) (hP:nP≤64) (hC:nC≤64) (hl:∀i,i<nC→len i≤64):SmP O P C:=
 ⟨hO,ob,by rw [a.pl];exact hP,fun r hr=>by have:r.length≤N:=a.pq r hr;omega,by rw [a.cl];exact hC,fun q hq=>by
  obtain⟨i,hi,rfl⟩:=List.mem_iff_getElem.1 hq
  have:=a.row i (by rw [←a.cl];exact hi)
  rw [List.getD_eq_getElem?_getD,List.getElem?_eq_getElem hi]at this
  have e:C[i].length=len i:=this;rw [e];exact hl i (by rw [←a.cl];exact hi),fun q hq r hr=>by have:r.length≤N:=a.cq q hq r hr;omega⟩
end Go.Proofs
namespace Go.Grp
end Go.Grp
set_option linter.unusedSimpArgs false
set_option linter.unusedVariables false
set_option linter.unusedSectionVars false
namespace Go.Proofs
open Go.Ab Go.Lie Go.Grp
variable {σ σ0 h h':PHeap} {K:PV→PHeap→Prop} {b s t n k nP nC r s0 i j:Nat} {L L':Nat→Nat} {Q Q':Nat→Prop} {len:Nat→Nat} {v vO vP vC c vX vS vL:PV} {x O xs bs:List Int} {P M:List (List Int)} {C:List (List (List Int))} {cs:List PV}
theorem TB.step {nP' nC':Nat} {len':Nat→Nat} {O':List Int} {uO uP uC:PV} (a:TB b h Q O L nP nC len r s vO vP vC) (hp:PW L' b h' Q O' nP' nC' len' uO uP uC) (hn:h.next≤h'.next) (hlo:∀t,t<b→h'.obj t=h.obj t) (h7:∀t,t<h.next→7≤L t→h'.obj t=h.obj t∧L' t=L t):
  h'.obj s=some [vO,vP,vC]∧TB b (h'.set s [uO,uP,uC]) Q O' L' nP' nC' len' r s uO uP uC:=by
 have hs:=h7 s a.ns.2 (by rw [a.ls];exact Nat.le_refl _)
 have ls:L' s=7:=by rw [hs.2];exact a.ls
 have hr:=a.hr;have hns:=a.ns;exact⟨by rw [hs.1];exact a.ob,⟨by rw [zI,if_neg (by omega),hlo r hr];exact a.res,hr,by rw [zI,if_pos rfl],hp.set7 (by rw [ls];exact Nat.le_refl _) _,ls,⟨hns.1,by show s<h'.next;omega⟩⟩⟩
theorem zD2 (sh:Shp O P C):(∀q∈C,q.length≤6∧∀r∈q,r.length=O.length)∧∀r∈P,r.length=O.length:=by
 have hn6:=sh.le;refine⟨fun q hq=>?_,fun r hr=>?_⟩
 ·obtain⟨i,hi,rfl⟩:=List.mem_iff_getElem.1 hq
  have hi':i<O.length:=by rw [←sh.cl];exact hi
  have e1:C.getD i []=C[i]:=by rw [List.getD_eq_getElem?_getD,List.getElem?_eq_getElem hi];rfl
  have hl:=sh.row i hi';rw [e1]at hl
  refine⟨by omega,fun r hr=>?_⟩
  obtain⟨k,hk',rfl⟩:=List.mem_iff_getElem.1 hr
  have:=(sh.cj i (i+1+k) (by omega) (by omega)).len
  unfold cvec at this
  rw [e1,show i+1+k-i-1=k by omega,List.getD_eq_getElem?_getD,List.getElem?_eq_getElem hk']at this
  exact this
 ·obtain⟨i,hi,rfl⟩:=List.mem_iff_getElem.1 hr
  have:=(sh.pw i (by rw [←sh.pl];exact hi)).len
  unfold pvec at this
  rw [List.getD_eq_getElem?_getD,List.getElem?_eq_getElem hi]at this
  exact this
theorem zHf (so:So σ s0 vS bs) (hR:IsPr vO vP vC O P C) (hp:zW O P C)
  (hk:∀wO wP wC O' P' C' σ',IsPr wO wP wC O' P' C'→SmP O' P' C'→Mv σ s0 σ'→So σ' s0 vS bs→K (.agg [wO,wP,wC]) σ'):zA Tryz.prog 151 [.ptr s0 0,.agg [vO,vP,vC]] σ K:=by
 have sh:=hp.shp;have hn6:=sh.le;have g0:=hR.O.one;have g1:=hR.P.one;have g2:=hR.C.one;have hlt:=so.lt;obtain⟨hCr,hPr⟩:=zD2 sh;have hOb:∀a∈O,-1000≤a∧a≤1000:=fun a ha=>by
  have:=hp.2.2.2.1 a ha
  rcases this with h|h|h|h<;>omega
 refine zA.gh ?_;refine zN mix Tryz.func151 cf151 rfl ?_;dsimp only [if151,eI,nI,qD,eD,mI0,lI0,LI0,fI0,cI0,sI0,C1,mD0,lD0,fD0,I0,G0,aI0,yI0,vI0,wD0,R0,S0];simp only [pwA,seval,-iQ0,g0,g1,g2];generalize hH:((σ.new [vO,vP,vC]).new [PV.fz true AV.nils 0 [],PV.fz true AV.nils 0 [],PV.fz true AV.nils 0 []])=H;have hHn:H.next=σ.next+2:=by rw [←hH];rfl
 have kH:Keep σ H:=by rw [←hH];exact(zB _ _).new _
 have ob1:H.obj (σ.next+1)=some [PV.fz true AV.nils 0 [],PV.fz true AV.nils 0 [],PV.fz true AV.nils 0 []]:=by rw [←hH];simp only [pwA,seval,-iQ0]
 clear hH;refine zCo (Q:=fun m=>m≤6) hR (by omega) (by rw [sh.pl];omega) (by rw [sh.cl];omega) (fun q hq=>by have:=(hCr q hq).1;omega) (fun r hr=>by rw [hPr r hr];omega) (fun q hq r hr=>by rw [(hCr q hq).2 r hr];omega) (fun m hm=>by omega) fun L h uO uP uC k1 p1=>?_
 have hn1:=k1.next;have p2:PW L H.next h (fun m=>m≤6) O O.length O.length (fun i=>O.length-1-i) uO uP uC:=by
  rw [sh.pl,sh.cl]at p1
  exact p1.lenE fun i hi=>sh.row i hi
 clear p1;obtain⟨so_,capO,eO,-⟩:=p2.hO;subst eO;have a:=TB.start p2 (r:=σ.next+1) (by omega) (by rw [k1.obj _ (by omega)];exact ob1) hn1
 have km1:KM σ s0 (h.new [.sl so_ 0 O.length capO,uP,uC]):=so.kmK ((kH.trans k1).new _);have so1:So (h.new [.sl so_ 0 O.length capO,uP,uC]) s0 vS bs:=so.keep ((kH.trans k1).new _);simp only [pwA,seval,-iQ0,p2.hP.one,p2.hC.one];have hr1:s0≠σ.next+1:=by omega
 have hs0:s0<H.next:=by omega
 have hsh:h.next<(h.new [.sl so_ 0 O.length capO,uP,uC]).next:=Nat.lt_succ_self _;have fin:∀{g:PHeap} {L':Nat→Nat} {b':Nat} {Q':Nat→Prop} {O':List Int} {nP nC:Nat} {len:Nat→Nat} {wO wP wC:PV},σ.next+1<b'→KM σ s0 g→So g s0 vS bs→g.obj (σ.next+1)=some [PV.fz true AV.nils 0 [],PV.fz true AV.nils 0 [],PV.fz true AV.nils 0 []]→g.obj h.next=some [wO,wP,wC]→
   PW L' b' g Q' O' nP nC len wO wP wC→(∀P' C',PQ3 Q' P' C' nP nC len→SmP O' P' C')→g.rd h.next 0 3=some [wO,wP,wC]∧g.wr (σ.next+1) 0 [wO,wP,wC]=some (g.set (σ.next+1) [wO,wP,wC])∧(g.set (σ.next+1) [wO,wP,wC]).rd (σ.next+1) 0 3=some [wO,wP,wC]∧Gh σ K (.agg [wO,wP,wC]) (g.set (σ.next+1) [wO,wP,wC]):=fun {g L' b' Q' O' nP nC len wO wP wC} hb km so' hr hs p sm=>
  ⟨by rw [zT hs];rfl,by rw [zR hr,if_pos ⟨by simp,by simp [p.hO.one,p.hP.one,p.hC.one]⟩];rfl,by rw [qJ,if_pos rfl];rfl,(p.set (by omega) _).finKM (km.set (by omega) _) (so'.set (by omega) _) hlt (by omega) fun wO wP wC P C σ' x1 x2 x3 x4=>hk wO wP wC O' P C σ' x1 (sm P C x2) x3 x4⟩
 have finT:∀{g:PHeap} {L':Nat→Nat} {O':List Int} {len:Nat→Nat} {wO wP wC:PV},KM σ s0 g→So g s0 vS bs→TB H.next g (fun m=>m≤7) O' L' O.length O.length len (σ.next+1) h.next wO wP wC→O'.length≤64→(∀a∈O',-1000≤a∧a≤1000)→(∀i,i<O.length→len i≤64)→g.rd h.next 0 3=some [wO,wP,wC]∧g.wr (σ.next+1) 0 [wO,wP,wC]=some (g.set (σ.next+1) [wO,wP,wC])∧(g.set (σ.next+1) [wO,wP,wC]).rd (σ.next+1) 0 3=some [wO,wP,wC]∧Gh σ K (.agg [wO,wP,wC]) (g.set (σ.next+1) [wO,wP,wC]):=fun {g L' O' len wO wP wC} km so' a h1 h2 h3=>
  fin (by omega) km so' a.res a.ob a.pw fun P' C' q=>q.sm (by omega) h1 h2 (by omega) (by omega) h3
 generalize h.new [PV.sl so_ 0 O.length capO,uP,uC]=g at *
 generalize mkM L h.next 7=L1 at *
 refine zO so1 (by decide) fun x1 g1 hx1 m1 so2=>?_
 have a1:=a.mv hs0 hr1 m1;have km2:=km1.mv hlt m1;have x10:=hx1.1;have x1b:x1<6:=hx1.2.2 (by decide)
 have hsh1:h.next<g1.next:=by rw [m1.next];exact hsh
 clear a km1 so1 m1 hx1;have w67:∀m,m≤6→m≤7:=fun m hm=>by omega
 obtain⟨σ',m',so',kp,hn'⟩:=kmSo km2 so2 hlt;have lenB:∀i,i<O.length→(fun i=>O.length-1-i) i≤64:=fun i hi=>by show O.length-1-i≤64;omega
 by_cases e0:x1=0
 ·subst e0
  have n1:¬h.next=g1.next:=by omega
  simp only [pwA,seval,-iQ0,a1.r0,n1];refine PW.pushO (σ:=σ') (a1.weak w67).pw kp (by omega) (by omega) (by omega) fun v2 h2 L2 k2 p2' l2 o2 q2=>?_
  obtain⟨e1,a2⟩:=(a1.weak w67).step p2' (Nat.le_of_lt l2) o2 q2;have w:h2.wr h.next 0 [v2]=some (h2.set h.next [v2,uP,uC]):=by rw [zR e1,if_pos ⟨by simp,by simp [p2'.hO.one]⟩];rfl
  have km3:KM σ s0 (h2.set h.next [v2,uP,uC]):=KM.set ⟨σ',m',k2⟩ (by omega) _
  have so3:So (h2.set h.next [v2,uP,uC]) s0 vS bs:=(so'.keep k2).set (by omega) _
  generalize h2.set h.next [v2,uP,uC]=g2 at *
  obtain⟨f1,f2,f3,f4⟩:=finT km3 so3 a2 (by simp;omega) (fun a ha=>by
   rcases List.mem_append.1 ha with h|h
   ·exact hOb a h
   ·rw [List.mem_singleton.1 h];decide) lenB
  simp only [pwA,seval,-iQ0,w,p2'.hO.cells,f1,f2,f3];exact f4
 by_cases e1:x1=1
 ·subst e1
  by_cases hO0:0<O.length
  rotate_left
  ·have hO0':¬(0:Int)<(O.length:Int):=by omega
   obtain⟨f1,f2,f3,f4⟩:=finT km2 so2 (a1.weak w67) (by omega) hOb lenB
   simp only [pwA,seval,-iQ0,a1.r0,hO0',f1,f2,f3];exact f4
  have hO0':(0:Int)<(O.length:Int):=by omega
  have n1:¬h.next=g1.next:=by omega
  simp only [pwA,seval,-iQ0,a1.r0,hO0',hO0,n1];refine Zc (t:=g1.next) (xs:=[4,1,11,0,-2]) (so2.keep (zB _ _)) (by omega) (by rw [zG,if_pos rfl];rfl) (by decide) fun y g2 hy m2 so3=>?_
  have a2:=(a1.new _).mv hs0 hr1 m2;have km3:=(km2.new _).mv hlt m2;obtain⟨so',cap',e,hb,hl5,L5,w,p⟩:=(a2.weak w67).pw.setO (y:=y) hO0;simp only [PV.sl.injEq]at e
  obtain⟨rfl,-,-,rfl⟩:=e;have a3:=(a2.weak w67).wroteO hb (by omega) rfl p
  have km4:=km3.set (t:=so_) (by omega) (pis (O.set 0 y))
  have so4:=so3.set (t:=so_) (by omega) (pis (O.set 0 y))
  generalize g2.set so_ (pis (O.set 0 y))=g3 at *
  obtain⟨f1,f2,f3,f4⟩:=finT km4 so4 a3 (by simp;omega) (fun a ha=>by
   rcases List.mem_or_eq_of_mem_set ha with h|rfl
   ·exact hOb a h
   ·simp at hy;omega) lenB
  have o0:g3.rd1 h.next 0=some (.sl so_ 0 O.length capO):=a3.r0;simp only [pwA,seval,-iQ0,a2.r0,w,hO0,hO0',f1,f2,f3];exact f4
 by_cases e2:x1=2
 ·subst e2
  by_cases hO0:0<O.length
  rotate_left
  ·have hO0':¬(0:Int)<(O.length:Int):=by omega
   obtain⟨f1,f2,f3,f4⟩:=finT km2 so2 (a1.weak w67) (by omega) hOb lenB
   simp only [pwA,seval,-iQ0,a1.r1,a1.pw.hP.pLen,hO0',f1,f2,f3];exact f4
  have hO0':(0:Int)<(O.length:Int):=by omega
  obtain⟨sP,capP,cs,eP,h1,h2,h3,h4,h5,h6⟩:=a1.pw.powers hO0;subst eP;obtain⟨x,q,t,capt,e,q1,q2,q3,q4,q5⟩:=h6 _ (List.getElem_mem (by omega:0<cs.length))
  have rd:g1.rd1 sP 0=some (.sl t 0 x.length capt):=by rw [zH h1,List.getElem?_eq_getElem (by omega),e]
  have n1:¬h.next=g1.next:=by omega
  have n2:¬sP=g1.next:=by omega
  simp only [pwA,seval,-iQ0,a1.r1,hO0',hO0,n1,n2,rd];refine zAn (by rw [zG,if_neg (by omega)];exact q2) (by show t<g1.next+1;omega) (by omega) fun cap2 hc2=>?_
  have n3:¬h.next=g1.next+1:=by omega
  simp only [pwA,seval,-iQ0,a1.r1,n1,n3];have hf:qW 1 ((g1.new [PV.int IntKind.i64 0]).new (pis x)) (.sl g1.next 0 1 (.known 1)) 1=some [PV.int IntKind.i64 0]:=by
   have:((g1.new [PV.int IntKind.i64 0]).new (pis x)).obj g1.next=some [PV.int IntKind.i64 0]:=by rw [zG,if_neg (show ¬g1.next=(g1.new [PV.int IntKind.i64 0]).next from fun e=>by have:g1.next=g1.next+1:=e;omega),zG,if_pos rfl]
   rw [qC,if_neg (by decide),if_pos (Nat.le_refl _),zT this];rfl
  refine PAcc.app (σb:=g1.new [.int .i64 0]) (b:=0) (n:=x.length) (m:=1) (cs:=pis x) (news:=[.int .i64 0]) (zB _ _) (Nat.zero_le _) (.inr ⟨g1.next+1,cap2,rfl,hc2,by rw [zG];exact if_pos rfl,by rw [zK];omega,Nat.le_refl _,Nat.lt_succ_self _⟩) rfl (fun _=>hf) rfl (by omega) (by omega) fun v2 h2' k2 _ aS=>?_
  obtain⟨s',cap',rfl,z1,z2,z3,z4,z5⟩:=aS (by omega)
  have z4':g1.next+1≤s':=z4;have kk:=(zB g1 [PV.int .i64 0]).trans k2;have a2:TB H.next h2' (fun m=>m≤7) O (mkM L1 s' 1) O.length O.length (fun i=>O.length-1-i) (σ.next+1) h.next (.sl so_ 0 O.length capO) (.sl sP 0 O.length capP) uC:=(a1.weak w67).keepL kk.next (kk.obj _ a1.rlt) (fun t _ ht=>kk.obj t ht) (qE (by omega))
  have hrow:RowAt (mkM L1 s' 1) h2' H.next (fun m=>m≤7) (.sl s' 0 (x.length+1) cap'):=⟨x++[0],by simp;omega,s',cap',by simp,by simpa using z1,by rw [z2];simp [pis],by omega,z5,ZT⟩
  obtain⟨sP',capP',ds,e',b1,b2,w,a3⟩:=a2.putP hO0 hrow;simp only [PV.sl.injEq]at e'
  obtain⟨rfl,-,-,rfl⟩:=e';have km3:KM σ s0 (h2'.set sP ds):=KM.set (km2.keep kk) (by omega) ds
  have so3:So (h2'.set sP ds) s0 vS bs:=(so2.keep kk).set (by omega) ds
  have r1':h2'.rd1 h.next 1=some (.sl sP 0 O.length capP):=a2.r1;generalize h2'.set sP ds=g3 at *
  obtain⟨f1,f2,f3,f4⟩:=finT km3 so3 a3 (by omega) hOb lenB
  simp only [pwA,seval,-iQ0,r1',w,hO0,hO0',f1,f2,f3];exact f4
 by_cases e3:x1=3
 ·subst e3
  by_cases hO0:0<O.length
  rotate_left
  ·have hO0':¬(0:Int)<(O.length:Int):=by omega
   obtain⟨f1,f2,f3,f4⟩:=finT km2 so2 (a1.weak w67) (by omega) hOb lenB
   simp only [pwA,seval,-iQ0,a1.r1,a1.pw.hP.pLen,hO0',f1,f2,f3];exact f4
  have hO0':(0:Int)<(O.length:Int):=by omega
  obtain⟨sP,capP,cs,eP,h1,h2,h3,h4,h5,h6⟩:=a1.pw.powers hO0;subst eP;obtain⟨x,q,t,capt,e,q1,q2,q3,q4,q5⟩:=h6 _ (List.getElem_mem (by omega:0<cs.length))
  have rd:g1.rd1 sP 0=some (.sl t 0 x.length capt):=by rw [zH h1,List.getElem?_eq_getElem (by omega),e]
  by_cases hx0:0<x.length
  rotate_left
  ·have hx0':¬(0:Int)<(x.length:Int):=by omega
   obtain⟨f1,f2,f3,f4⟩:=finT km2 so2 (a1.weak w67) (by omega) hOb lenB
   simp only [pwA,seval,-iQ0,a1.r1,hO0',hO0,rd,hx0',f1,f2,f3];exact f4
  have hx0':(0:Int)<(x.length:Int):=by omega
  obtain⟨w,p⟩:=(a1.weak w67).pw.setRow (y:=1) q2 hx0 q5;have a3:=(a1.weak w67).wrote q3 (by omega) p
  have km3:=km2.set (t:=t) (by omega) (pis (x.set 0 1))
  have so3:=so2.set (t:=t) (by omega) (pis (x.set 0 1))
  generalize g1.set t (pis (x.set 0 1))=g3 at *
  obtain⟨f1,f2,f3,f4⟩:=finT km3 so3 a3 (by omega) hOb lenB
  simp only [pwA,seval,-iQ0,a1.r1,hO0',hO0,rd,hx0',hx0,w,f1,f2,f3];exact f4
 by_cases e4:x1=4
 ·subst e4
  by_cases hO0:0<O.length
  rotate_left
  ·have hO0':¬(0:Int)<(O.length:Int):=by omega
   obtain⟨f1,f2,f3,f4⟩:=finT km2 so2 (a1.weak w67) (by omega) hOb lenB
   simp only [pwA,seval,-iQ0,a1.r2,a1.pw.hC.pLen,hO0',f1,f2,f3];exact f4
  have hO0':(0:Int)<(O.length:Int):=by omega
  have aw:=a1.weak w67;obtain⟨ee,-⟩|⟨sC,capC,ms,eC,z1,z2,z3,z4,z5,z6,z7⟩:=aw.pw.hC
  ·omega
  subst eC;have hm0:=z7 0 _ (List.getElem?_eq_getElem (by omega:0<ms.length))
  have q1:g1.rd1 sC 0=some ms[0]:=by rw [zH z2,List.getElem?_eq_getElem (by omega)]
  obtain⟨t,capt,cs,et,y1,y2,y3,y4,y5,y6,y7⟩:=hm0;rw [et]at q1
  have hm0:MatAt L1 g1 H.next (fun m=>m≤7) 3 (O.length-1-0) (.sl t 0 (O.length-1-0) capt):=⟨t,capt,cs,rfl,y1,y2,y3,y4,y5,y6,y7⟩
  have hHg:H.next≤g1.next:=by omega
  have n1:¬h.next=g1.next:=by omega
  have n2:¬sC=g1.next:=by omega
  have n3:¬h.next=g1.next+1:=by omega
  have n4:¬sC=g1.next+1:=by omega
  have aZ:=aw.fresh (pis (List.replicate O.length 0)) 1;have kZ:=zB g1 (pis (List.replicate O.length 0));have rZ:RowAt (mkM L1 g1.next 1) (g1.new (pis (List.replicate O.length 0))) H.next (fun m=>m≤7) (.sl g1.next 0 O.length (.known O.length)):=by
   have:=RowAt.fresh (L:=L1) (h:=g1) (b:=H.next) (Q:=fun m=>m≤7) (x:=List.replicate O.length 0) (cap:=.known O.length) hHg (by simp;omega) (by simp [full])
   simpa using this
  have mZ:=hm0.keep (L':=mkM L1 g1.next 1) (h':=g1.new (pis (List.replicate O.length 0))) (Nat.le_succ _) (fun t _ ht=>by rw [zG,if_neg (by omega)]) (qE (Nat.le_refl _))
  simp only [pwA,seval,-iQ0,a1.r2,a1.r0,hO0',hO0,q1,n1,n2,n3,n4,zf,zDh,TVp_e,TVp_q,ZO,ZN,mk8 (n:=O.length) (by omega),Go.Ab.mkL (n:=O.length) (by omega)]
  have lenC:∀len':Nat→Nat,(∀j,len' j=if j=0 then O.length-1-0+1 else O.length-1-j)→∀i,i<O.length→len' i≤64:=fun len' hl i hi=>by rw [hl i];split<;>omega
  refine⟨?_,?_,?_⟩
  ·refine zBn (L:=L1) (k:=6) hm0 (by omega) (fun m hm=>by omega) (by decide) (by omega) fun L2 h2 v2 k2 e2 m2=>?_
   have hn2:=k2.next;have a2:=aw.keepL k2.next (k2.obj _ aw.rlt) (fun t _ ht=>k2.obj t ht) e2
   have q2:h2.rd1 sC 0=some (.sl t 0 (O.length-1-0) capt):=by unfold PHeap.rd1;rw [k2.obj sC z5];exact q1
   have n5:¬h.next=h2.next:=by omega
   have n6:¬sC=h2.next:=by omega
   have n7:¬h.next=h2.next+1:=by omega
   have n8:¬sC=h2.next+1:=by omega
   have aY:=(a2.fresh (pis (List.replicate O.length 0)) 1).new [PV.sl h2.next 0 O.length (.known O.length)];have rY:RowAt (mkM L2 h2.next 1) (h2.new (pis (List.replicate O.length 0))) H.next (fun m=>m≤7) (.sl h2.next 0 O.length (.known O.length)):=by
    have:=RowAt.fresh (L:=L2) (h:=h2) (b:=H.next) (Q:=fun m=>m≤7) (x:=List.replicate O.length 0) (cap:=.known O.length) (by omega) (by simp;omega) (by simp [full])
    simpa using this
   have kY:Keep g1 ((h2.new (pis (List.replicate O.length 0))).new [PV.sl h2.next 0 O.length (.known O.length)]):=(k2.new _).new _;have mY:=m2.keep (L':=mkM L2 h2.next 1) (h':=(h2.new (pis (List.replicate O.length 0))).new [PV.sl h2.next 0 O.length (.known O.length)]) (by show h2.next≤h2.next+1+1;omega) (fun t _ ht=>by rw [zG,if_neg (by show ¬t=h2.next+1;omega),zG,if_neg (by omega)]) (qE (Nat.le_refl _))
   have rY':=rY.keep (L':=mkM L2 h2.next 1) (h':=(h2.new (pis (List.replicate O.length 0))).new [PV.sl h2.next 0 O.length (.known O.length)]) (Nat.le_succ _) (fun t _ ht=>by rw [zG,if_neg (by show ¬t=h2.next+1;have:t<h2.next+1:=ht;omega)]) (fun _ _=>rfl)
   have oY:((h2.new (pis (List.replicate O.length 0))).new [PV.sl h2.next 0 O.length (.known O.length)]).obj (h2.next+1)=some [PV.sl h2.next 0 O.length (.known O.length)]:=by rw [zG];exact if_pos rfl
   simp only [pwA,seval,-iQ0,TVp_e,TVp_q,ZO,ZN,a2.r2,a2.r0,q2,n5,n6,n7,n8,hO0',hO0,zf,mk8 (n:=O.length) (by omega),Go.Ab.mkL (n:=O.length) (by omega)]
   have hYn:((h2.new (pis (List.replicate O.length 0))).new [PV.sl h2.next 0 O.length (.known O.length)]).next=h2.next+2:=rfl;generalize ((h2.new (pis (List.replicate O.length 0))).new [PV.sl h2.next 0 O.length (.known O.length)])=gY at *
   refine MatN.pushG (σ:=σ') (.inr mY) (by decide) rY' rfl (zA6 oY) (kp.trans kY) (by omega) (by omega) (by omega) fun v3 h3 L3 k3 m3 l3 hL3 ho3 hlo3=>?_
   have a3:=aY.keepK (k:=6) (Nat.le_refl _) (by decide) (Nat.le_of_lt l3) hlo3 ho3 hL3
   obtain⟨sC',capC',ds,L4,len',e',b1,b2,l4,w,p4,f7,flen⟩:=a3.pw.putMat hO0 m3;simp only [PV.sl.injEq]at e'
   obtain⟨rfl,-,-,rfl⟩:=e';have a4:=a3.wroteO b1 (by omega) (by rw [f7 _ (by rw [a3.ls];exact Nat.le_refl _)]) p4
   have km3:KM σ s0 (h3.set sC ds):=KM.set ⟨σ',m',k3⟩ (by omega) _
   have so3:So (h3.set sC ds) s0 vS bs:=(so'.keep k3).set (by omega) _
   have r2':=a3.r2;generalize h3.set sC ds=g3 at *
   obtain⟨f1,f2,f3,f4⟩:=finT km3 so3 a4 (by omega) hOb (lenC len' flen)
   simp only [pwA,seval,-iQ0,TVp_e,TVp_q,ZO,ZN,r2',w,hO0,hO0',m3.cells,f1,f2,f3];exact f4
  ·generalize hZn:g1.new (pis (List.replicate O.length 0))=Z at *
   have hZ1:Z.next=g1.next+1:=by rw [←hZn];rfl
   refine zBn (L:=mkM L1 g1.next 1) (k:=6) mZ (by omega) (fun m hm=>by omega) (by decide) (by omega) fun L2 h2 v2 k2 e2 m2=>?_
   have hn2:=k2.next;have a2:=aZ.keepL k2.next (k2.obj _ aZ.rlt) (fun t _ ht=>k2.obj t ht) e2
   have q2:h2.rd1 sC 0=some (.sl t 0 (O.length-1-0) capt):=by unfold PHeap.rd1;rw [k2.obj sC (by omega),←hZn,zG,if_neg n2];exact q1
   have n5:¬h.next=h2.next:=by omega
   have n6:¬sC=h2.next:=by omega
   have aY:=a2.new [PV.sl g1.next 0 O.length (.known O.length)];have kY:Keep g1 (h2.new [PV.sl g1.next 0 O.length (.known O.length)]):=(kZ.trans k2).new _;have mY:=m2.keep (L':=L2) (h':=h2.new [PV.sl g1.next 0 O.length (.known O.length)]) (Nat.le_succ _) (fun t _ ht=>by rw [zG,if_neg (by omega)]) (fun _ _=>rfl)
   have rY':=rZ.keep (L':=L2) (h':=h2.new [PV.sl g1.next 0 O.length (.known O.length)]) (by show Z.next≤h2.next+1;omega) (fun t _ ht=>by rw [zG,if_neg (by omega),k2.obj t ht]) e2
   have oY:(h2.new [PV.sl g1.next 0 O.length (.known O.length)]).obj h2.next=some [PV.sl g1.next 0 O.length (.known O.length)]:=by rw [zG,if_pos rfl]
   simp only [pwA,seval,-iQ0,TVp_e,TVp_q,ZO,ZN,a2.r2,a2.r0,q2,n5,n6,hO0',hO0];have hYn:(h2.new [PV.sl g1.next 0 O.length (.known O.length)]).next=h2.next+1:=rfl;generalize (h2.new [PV.sl g1.next 0 O.length (.known O.length)])=gY at *
   refine MatN.pushG (σ:=σ') (.inr mY) (by decide) rY' rfl (zA6 oY) (kp.trans kY) (by omega) (by omega) (by omega) fun v3 h3 L3 k3 m3 l3 hL3 ho3 hlo3=>?_
   have a3:=aY.keepK (k:=6) (Nat.le_refl _) (by decide) (Nat.le_of_lt l3) hlo3 ho3 hL3
   obtain⟨sC',capC',ds,L4,len',e',b1,b2,l4,w,p4,f7,flen⟩:=a3.pw.putMat hO0 m3;simp only [PV.sl.injEq]at e'
   obtain⟨rfl,-,-,rfl⟩:=e';have a4:=a3.wroteO b1 (by omega) (by rw [f7 _ (by rw [a3.ls];exact Nat.le_refl _)]) p4
   have km3:KM σ s0 (h3.set sC ds):=KM.set ⟨σ',m',k3⟩ (by omega) _
   have so3:So (h3.set sC ds) s0 vS bs:=(so'.keep k3).set (by omega) _
   have r2':=a3.r2;generalize h3.set sC ds=g3 at *
   obtain⟨f1,f2,f3,f4⟩:=finT km3 so3 a4 (by omega) hOb (lenC len' flen)
   simp only [pwA,seval,-iQ0,TVp_e,TVp_q,ZO,ZN,r2',w,hO0,hO0',m3.cells,f1,f2,f3];exact f4
  ·generalize hZn:g1.new (pis (List.replicate O.length 0))=Z at *
   have hZ1:Z.next=g1.next+1:=by rw [←hZn];rfl
   have aW:=aZ.new [PV.sl g1.next 0 O.length (.known O.length)];have kW:=zB Z [PV.sl g1.next 0 O.length (.known O.length)];have mW:=mZ.keep (L':=mkM L1 g1.next 1) (h':=Z.new [PV.sl g1.next 0 O.length (.known O.length)]) (Nat.le_succ _) (fun t _ ht=>by rw [zG,if_neg (by omega)]) (fun _ _=>rfl)
   have rW:=rZ.keep (L':=mkM L1 g1.next 1) (h':=Z.new [PV.sl g1.next 0 O.length (.known O.length)]) (Nat.le_succ _) (fun t _ ht=>by rw [zG,if_neg (by omega)]) (fun _ _=>rfl)
   have oW:(Z.new [PV.sl g1.next 0 O.length (.known O.length)]).obj (g1.next+1)=some [PV.sl g1.next 0 O.length (.known O.length)]:=by rw [zG,if_pos hZ1.symm]
   have q0:(Z.new [PV.sl g1.next 0 O.length (.known O.length)]).rd1 sC 0=some (.sl t 0 (O.length-1-0) capt):=by unfold PHeap.rd1;rw [zG,if_neg (by omega),←hZn,zG,if_neg n2];exact q1
   have hWn:(Z.new [PV.sl g1.next 0 O.length (.known O.length)]).next=g1.next+2:=by show Z.next+1=_;omega
   generalize Z.new [PV.sl g1.next 0 O.length (.known O.length)]=W at *
   have hsW:sC<W.next:=by omega
   refine zBn (L:=mkM L1 g1.next 1) (k:=6) mW (by omega) (fun m hm=>by omega) (by decide) (by omega) fun L2 gY v2 k2 e2 mY=>?_
   have hn2:=k2.next;have aY:=aW.keepL k2.next (k2.obj _ aW.rlt) (fun t _ ht=>k2.obj t ht) e2
   have q2:gY.rd1 sC 0=some (.sl t 0 (O.length-1-0) capt):=by unfold PHeap.rd1 at q0 ⊢;rw [k2.obj sC hsW];exact q0
   have kY:Keep g1 gY:=(kZ.trans kW).trans k2;have rY':=rW.keep (L':=L2) k2.next (fun t _ ht=>k2.obj t ht) e2
   have oY:gY.obj (g1.next+1)=some [PV.sl g1.next 0 O.length (.known O.length)]:=by rw [k2.obj _ (by omega)];exact oW
   simp only [pwA,seval,-iQ0,TVp_e,TVp_q,ZO,ZN,aY.r2,aY.r0,q2,hO0',hO0];refine MatN.pushG (σ:=σ') (.inr mY) (by decide) rY' rfl (zA6 oY) (kp.trans kY) (by omega) (by omega) (by omega) fun v3 h3 L3 k3 m3 l3 hL3 ho3 hlo3=>?_
   have a3:=aY.keepK (k:=6) (Nat.le_refl _) (by decide) (Nat.le_of_lt l3) hlo3 ho3 hL3
   obtain⟨sC',capC',ds,L4,len',e',b1,b2,l4,w,p4,f7,flen⟩:=a3.pw.putMat hO0 m3;simp only [PV.sl.injEq]at e'
   obtain⟨rfl,-,-,rfl⟩:=e';have a4:=a3.wroteO b1 (by omega) (by rw [f7 _ (by rw [a3.ls];exact Nat.le_refl _)]) p4
   have km3:KM σ s0 (h3.set sC ds):=KM.set ⟨σ',m',k3⟩ (by omega) _
   have so3:So (h3.set sC ds) s0 vS bs:=(so'.keep k3).set (by omega) _
   have r2':=a3.r2;generalize h3.set sC ds=g3 at *
   obtain⟨f1,f2,f3,f4⟩:=finT km3 so3 a4 (by omega) hOb (lenC len' flen)
   simp only [pwA,seval,-iQ0,TVp_e,TVp_q,ZO,ZN,r2',w,hO0,hO0',m3.cells,f1,f2,f3];exact f4
 have wi:x1=5:=by omega
 subst wi;clear e0 e1 e2 e3 e4;have ores:=a1.res;have oold:=a1.ob;have trivQ:∀{n:Nat} {P':List (List Int)} {C':List (List (List Int))} {O':List Int},n≤7→O'.length=n→(∀a∈O',-1000≤a∧a≤1000)→PQ3 (fun m=>m=n) P' C' n n (fun j=>n-1-j)→SmP O' P' C':=fun {n P' C' O'} hn hl hb q=>
  (PQ3.sm (N:=n) ⟨q.pl,q.cl,fun r hr=>Nat.le_of_eq (q.pq r hr),q.row,fun a ha r hr=>Nat.le_of_eq (q.cq a ha r hr)⟩ (by omega) (by omega) hb (by omega) (by omega) fun i hi=>by omega)
 simp only [pwA,seval,-iQ0];refine qX (s:=g1.next) (O:=[7,7,7,7]) (by rw [zG,if_pos rfl];rfl) (Nat.lt_succ_self _) (by decide) fun L3 h3 wO wP wC k3 p3=>?_
 have hn3:=k3.next;have hn3':g1.next+1≤h3.next:=hn3;have kg:=(zB g1 (pis [7,7,7,7])).trans k3;have o3:h3.obj h.next=some [.sl so_ 0 O.length capO,uP,uC]:=by rw [kg.obj _ hsh1];exact oold
 have w3:h3.wr h.next 0 [wO,wP,wC]=some (h3.set h.next [wO,wP,wC]):=by rw [zR o3,if_pos ⟨by simp,by simp [p3.hO.one,p3.hP.one,p3.hC.one]⟩];rfl
 have p4:=p3.set (s:=h.next) (by show h.next<g1.next+1;omega) [wO,wP,wC]
 have km4:KM σ s0 (h3.set h.next [wO,wP,wC]):=(km2.keep kg).set (by omega) _
 have so4:So (h3.set h.next [wO,wP,wC]) s0 vS bs:=(so2.keep kg).set (by omega) _
 have r4:(h3.set h.next [wO,wP,wC]).obj (σ.next+1)=some [PV.fz true AV.nils 0 [],PV.fz true AV.nils 0 [],PV.fz true AV.nils 0 []]:=by rw [zI,if_neg (by omega),kg.obj _ (by omega)];exact ores
 have o4:(h3.set h.next [wO,wP,wC]).obj h.next=some [wO,wP,wC]:=by rw [zI,if_pos rfl]
 have hg4:(h3.set h.next [wO,wP,wC]).next=h3.next:=rfl;simp only [pwA,seval,-iQ0,p3.hO.one,p3.hP.one,p3.hC.one,w3];generalize h3.set h.next [wO,wP,wC]=g4 at *
 refine zO so4 (by decide) fun x2 g5 hx2 m5 so5=>?_
 have p5:PW L3 (g1.new (pis [7,7,7,7])).next g5 (fun m=>m=4) [7,7,7,7] 4 4 (fun j=>4-1-j) wO wP wC:=p4.mv (by show s0<g1.next+1;omega) m5
 have km5:=km4.mv hlt m5;have r5:g5.obj (σ.next+1)=some [PV.fz true AV.nils 0 [],PV.fz true AV.nils 0 [],PV.fz true AV.nils 0 []]:=by rw [m5.obj (Ne.symm hr1)];exact r4
 have o5:g5.obj h.next=some [wO,wP,wC]:=by rw [m5.obj (by omega)];exact o4
 have hg5:g5.next=g4.next:=m5.next
 by_cases e2:x2=0
 rotate_left
 ·obtain⟨f1,f2,f3,f4⟩:=fin (by show σ.next+1<g1.next+1;omega) km5 so5 r5 o5 p5 fun P' C' q=>trivQ (by decide) rfl (by decide) q
  simp only [pwA,seval,-iQ0,e2,f1,f2,f3];exact f4
 subst e2;simp only [pwA,seval,-iQ0];refine qX (s:=g5.next) (O:=[2,2,2,2,2,2,2]) (by rw [zG,if_pos rfl];rfl) (Nat.lt_succ_self _) (by decide) fun L6 h6 yO yP yC k6 p6=>?_
 have hn6':g5.next+1≤h6.next:=k6.next;have kg6:=(zB g5 (pis [2,2,2,2,2,2,2])).trans k6;have o6:h6.obj h.next=some [wO,wP,wC]:=by rw [kg6.obj _ (by omega)];exact o5
 have w6:h6.wr h.next 0 [yO,yP,yC]=some (h6.set h.next [yO,yP,yC]):=by rw [zR o6,if_pos ⟨by simp,by simp [p6.hO.one,p6.hP.one,p6.hC.one]⟩];rfl
 have p7:PW L6 (g5.new (pis [2,2,2,2,2,2,2])).next (h6.set h.next [yO,yP,yC]) (fun m=>m=7) [2,2,2,2,2,2,2] 7 7 (fun j=>7-1-j) yO yP yC:=p6.set (s:=h.next) (by show h.next<g5.next+1;omega) [yO,yP,yC]
 have km7:KM σ s0 (h6.set h.next [yO,yP,yC]):=(km5.keep kg6).set (by omega) _
 have so7:So (h6.set h.next [yO,yP,yC]) s0 vS bs:=(so5.keep kg6).set (by omega) _
 have r7:(h6.set h.next [yO,yP,yC]).obj (σ.next+1)=some [PV.fz true AV.nils 0 [],PV.fz true AV.nils 0 [],PV.fz true AV.nils 0 []]:=by rw [zI,if_neg (by omega),kg6.obj _ (by omega)];exact r5
 have o7:(h6.set h.next [yO,yP,yC]).obj h.next=some [yO,yP,yC]:=by rw [zI,if_pos rfl]
 simp only [pwA,seval,-iQ0,p6.hO.one,p6.hP.one,p6.hC.one,w6];generalize h6.set h.next [yO,yP,yC]=g7 at *
 obtain⟨f1,f2,f3,f4⟩:=fin (by show σ.next+1<g5.next+1;omega) km7 so7 r7 o7 p7 fun P' C' q=>trivQ (by decide) rfl (by decide) q
 simp only [pwA,seval,-iQ0,f1,f2,f3];exact f4
end Go.Proofs
namespace Go.Grp
end Go.Grp
set_option linter.unusedSimpArgs false
set_option linter.unusedVariables false
set_option linter.unusedSectionVars false
namespace Go.Proofs
open Go.Ab Go.Lie Go.Grp
variable {σ σ0 h h':PHeap} {K:PV→PHeap→Prop} {b s t k nP nC r s0 i j:Nat} {L L':Nat→Nat} {Q Q':Nat→Prop} {len:Nat→Nat} {v vO vP vC c vX vS vL:PV} {x O xs bs:List Int} {P M:List (List Int)} {C:List (List (List Int))} {cs:List PV}
theorem Z6 {n:Int} (hn:1≤n∧n≤1000) (hk:∀v xs t,FI v xs→xs.length≤9→(∀x∈xs,isP x)→K (.tup [v,.bool t]) σ):zA Tryz.prog 236 [.int .i64 n] σ K:=by
 refine zA.gh ?_;refine zC mix Tryz.func236 ?_
 conv=>arg 2;cbv
 refine zD rfl ?_;simp only [pwA,seval,-iQ0];refine zF (fun m vs h=>∃(d n':Int) (v:PV) (xs:List Int),2≤d∧d≤8∧m=(8-d).toNat∧vs=[.int .i64 n',v,.int .i64 d]∧1≤n'∧2 ^ xs.length*n'≤1000∧(∀x∈xs,isP x)∧Keep σ h∧PSl σ.next 1 h v xs.length (pis xs)) 6 ?_ ?_
 ·exact⟨2,n,.sl σ.next 0 0 (.known 0),[],by decide,by decide,rfl,rfl,hn.1,by simpa using hn.2,fun x hx=>(by cases hx),zB _ _,σ.next,.known 0,rfl,.inr rfl,by rw [zG,if_pos rfl];rfl,rfl,Nat.le_refl _,Nat.lt_succ_self _⟩
 rintro m vs h ⟨d,n',v,xs,hd,hd8,rfl,rfl,hn1,hpow,hxs,kk,pa⟩
 have hlen:∀{xs:List Int} {n':Int},1≤n'→(2:Int) ^ xs.length*n'≤1000→xs.length≤9:=fun {xs n'} h1 h2=>by
  rcases Nat.lt_or_ge xs.length 10 with q|q
  ·omega
  ·exfalso
   have e:(2:Int) ^ xs.length ≥ 1024:=by
    obtain⟨r,hr⟩:∃r,xs.length=10+r:=⟨xs.length-10,by omega⟩
    rw [hr,Int.pow_add];have h2:(1:Int)≤2 ^ r:=Int.pow_pos (by decide)
    have:(2:Int) ^ 10=1024:=by decide
    rw [this];omega
   have:(1024:Int)*1≤2 ^ xs.length*n':=Int.mul_le_mul e h1 (by decide) (by omega)
   omega
 simp only [pwA,seval,-iQ0];refine iteI (fun h7=>?_) fun h8=>?_
 rotate_left
 ·have hl:=hlen hn1 hpow
  obtain⟨s,cap,rfl,q1,q2,q3,q4,q5⟩:=pa;have e:(TR.tup [TR.row s cap xs,.leaf (.bool (decide (n'=1)))]).pv=.tup [.sl s 0 xs.length cap,.bool (decide (n'=1))]:=by simp only [TR.pv,TR.pvs,TR.row_pv]
  rw [←e];refine Gh.treeF kk (qy ⟨TR.row_ok q1 q2 q4 q5,trivial,trivial⟩) fun a=>?_
  have:=hk ((TR.row s cap xs).fz a) xs (decide (n'=1)) TR.row_FI hl hxs
  simpa only [TR.fz,TR.fzs]using this
 refine zF (fun m vs h=>∃(n':Int) (v:PV) (xs:List Int),m=n'.toNat∧vs=[.int .i64 n',v,.int .i64 d]∧1≤n'∧2 ^ xs.length*n'≤1000∧(∀x∈xs,isP x)∧Keep σ h∧PSl σ.next 1 h v xs.length (pis xs)) n'.toNat ?_ ?_
 ·exact⟨n',v,xs,rfl,rfl,hn1,hpow,hxs,kk,pa⟩
 clear hn1 hpow hxs kk pa
 rintro m vs h ⟨n',v,xs,rfl,rfl,hn1,hpow,hxs,kk,pa⟩
 have hl:=hlen hn1 hpow;have hd0:¬d=0:=by omega
 have out:∃n'',n''<(8-d).toNat∧∃(d' n₁:Int) (v₁:PV) (xs₁:List Int),2≤d'∧d'≤8∧n''=(8-d').toNat∧[PV.int .i64 n',v,PV.int .i64 (IntKind.i64.wrap (d+1))]=[PV.int .i64 n₁,v₁,PV.int .i64 d']∧1≤n₁∧2 ^ xs₁.length*n₁≤1000∧(∀x∈xs₁,isP x)∧Keep σ h∧PSl σ.next 1 h v₁ xs₁.length (pis xs₁):=
  ⟨_,by rw [show(8-d).toNat=(8-(d+1)).toNat+1 by omega];exact Nat.lt_succ_self _,d+1,n',v,xs,by omega,by omega,rfl,by rw [wrap64 (by omega) (by omega)],hn1,hpow,hxs,kk,pa⟩
 simp only [pwA,seval,-iQ0];refine zAZ ?_
 by_cases hp:isP d
 rotate_left
 ·simp only [pwA,seval,-iQ0,hp,decide_false]
  exact out
 by_cases hm:n'.tmod d=0
 rotate_left
 ·simp only [pwA,seval,-iQ0,hp,decide_true,hd0,hm,decide_false]
  exact out
 simp only [pwA,seval,-iQ0,hp,decide_true,hd0,hm];refine PSl.push (σb:=σ) (bytes:=8) kk pa (by omega) (by omega) fun v2 h2 k2 a2=>?_
 have hdiv:n'=d*(n'.tdiv d):=by
  have:=Int.tmod_add_mul_tdiv n' d
  omega
 have hq0:1≤n'.tdiv d:=by
  rcases Int.lt_or_le (n'.tdiv d) 1 with q|q
  ·exfalso
   have:d*(n'.tdiv d)≤0:=Int.mul_nonpos_of_nonneg_of_nonpos (by omega) (by omega)
   omega
  ·exact q
 have hlt:n'.tdiv d<n':=by
  have:2*(n'.tdiv d)≤d*(n'.tdiv d):=Int.mul_le_mul_of_nonneg_right hd (by omega)
  omega
 have hb:n'≤1000:=by
  have h1:(1:Int)≤2 ^ xs.length:=Int.pow_pos (by decide)
  have:=Int.mul_le_mul_of_nonneg_right h1 (show(0:Int)≤n' by omega)
  omega
 have wi:IntKind.i64.wrap (n'.tdiv d)=n'.tdiv d:=wrap64 (by omega) (by omega)
 simp only [pwA,seval,-iQ0,hd0,wi];refine⟨_,by show(n'.tdiv d).toNat<n'.toNat;omega,n'.tdiv d,v2,xs++[d],rfl,rfl,hq0,?_,fun x hx=>?_,k2,?_⟩
 ·rw [List.length_append,List.length_singleton,Int.pow_succ,Int.mul_assoc]
  have h1:(0:Int)≤2 ^ xs.length:=Int.le_of_lt (Int.pow_pos (by decide))
  have h2:2*(n'.tdiv d)≤n':=by
   have:2*(n'.tdiv d)≤d*(n'.tdiv d):=Int.mul_le_mul_of_nonneg_right hd (by omega)
   omega
  exact Int.le_trans (Int.mul_le_mul_of_nonneg_left h2 h1) hpow
 ·rcases List.mem_append.1 hx with hx | hx
  ·exact hxs x hx
  ·rw [List.mem_singleton.1 hx];exact hp
 ·rw [List.length_append,List.length_singleton]
  have e:pis (xs++[d])=pis xs++[.int .i64 d]:=by simp [pis]
  rw [e];exact a2
theorem zFF {x:Int} {n:Nat} {cap:Cap} {from':Nat} (ho:σ.obj s=some (pis O)) (hs:s<σ.next) (hO:O.length=n) (hn:n≤1000) (hpos:∀a∈O,1≤a∧a≤1000) (hx:0≤x∧x≤1000000)
  (hk:∀ys cap,ys.length=n→full 1 cap n→K (.sl σ.next 0 n cap) (σ.new (pis ys))):zA Tryz.prog 237 [.sl s 0 n cap,.int .i64 from',.int .i64 x] σ K:=by
 refine zA.gh ?_;refine zC mix Tryz.func237 ?_
 conv=>arg 2;cbv
 refine zD rfl ?_;simp only [pwA,seval,-iQ0,zf,mk8 (n:=n) (by omega),Go.Ab.mkL (n:=n) (by omega)]
 refine zF (fun m vs h=>∃(i:Nat) (x:Int) (ys:List Int),m=n-i∧vs=[.sl s 0 n cap,.int .i64 x,.sl σ.next 0 n (.known n),.int .i64 i]∧0≤x∧x≤1000000∧ys.length=n∧h=σ.new (pis ys)) (n-from') ?_ ?_
 ·exact⟨from',x,List.replicate n 0,rfl,rfl,hx.1,hx.2,by simp,rfl⟩
 rintro m vs h ⟨i,x,ys,rfl,rfl,hx0,hx1,hys,rfl⟩
 simp only [pwA,seval,-iQ0];refine iteI (fun hlt=>?_) fun hge=>?_
 rotate_left
 ·exact Gh.finS (s:=σ.next) (zB σ _) (by rw [zG,if_pos rfl]) (Nat.le_refl _) (zM _ _) (hk ys _ hys (.inr rfl))
 have hlt':(i:Int)<(n:Int):=by omega
 have hi:i<O.length:=by omega
 have ob:=hpos _ (List.getElem_mem hi);have rd:(σ.new (pis ys)).rd1 s i=some (.int .i64 O[i]):=by
  unfold PHeap.rd1;rw [zG,if_neg (by omega),ho];simp only [Option.bind_some];rw [zL,gi hi];rfl
 have h0:¬O[i]=0:=by omega
 have w:(σ.new (pis ys)).wr σ.next i [.int .i64 (x.tmod O[i])]=some ((σ.new (pis ys)).set σ.next (pis (ys.set i (x.tmod O[i])))):=zBU (by rw [zG,if_pos rfl]) (by omega)
 have e2:(σ.new (pis ys)).set σ.next (pis (ys.set i (x.tmod O[i])))=σ.new (pis (ys.set i (x.tmod O[i]))):=by
  unfold PHeap.set PHeap.new
  congr 1
  funext q
  by_cases e:q=σ.next<;>simp [e]
 have rd2:(σ.new (pis (ys.set i (x.tmod O[i])))).rd1 s i=some (.int .i64 O[i]):=by
  unfold PHeap.rd1;rw [zG,if_neg (by omega),ho];simp only [Option.bind_some];rw [zL,gi hi];rfl
 have hq0:0≤x.tdiv O[i]:=Int.tdiv_nonneg hx0 (by omega)
 have hq1:x.tdiv O[i]≤x:=Int.tdiv_le_self _ hx0;have wi:IntKind.i64.wrap (x.tdiv O[i])=x.tdiv O[i]:=wrap64 (by omega) (by omega)
 rw [e2]at w
 generalize hg:σ.new (pis (ys.set i (x.tmod O[i])))=g at *
 simp only [pwA,seval,-iQ0,hlt,hlt',rd,h0,w,rd2,wi,wrapS hlt (by omega:n≤4611686018427387904)]
 exact⟨_,by omega,i+1,_,ys.set i (x.tmod O[i]),rfl,rfl,hq0,by omega,by rw [List.length_set];exact hys,hg.symm⟩
theorem zHi {base e m:Int} (hb:0≤base∧base≤1000) (he:0≤e∧e≤1000) (hm:1≤m∧m≤1000) (hk:∀y,0≤y∧y≤1000→K (.int .i64 y) σ):zA Tryz.prog 238 [.int .i64 base,.int .i64 e,.int .i64 m] σ K:=by
 have hm0:¬m=0:=by omega
 have rb:∀z:Int,0≤z→0≤z.tmod m∧z.tmod m≤1000:=fun z hz=>by
  have h1:=Int.tmod_nonneg m hz;have h2:=Int.tmod_lt_of_pos z (show 0<m by omega)
  omega
 refine zC mix Tryz.func238 ?_
 conv=>arg 2;cbv
 refine zD rfl ?_;simp only [pwA,seval,-iQ0,hm0];refine zF (fun k vs h=>∃(b e y:Int),k=e.toNat∧vs=[.int .i64 b,.int .i64 e,.int .i64 m,.int .i64 y]∧0≤b∧b≤1000∧0≤e∧e≤1000∧0≤y∧y≤1000∧σ=h) e.toNat ?_ ?_
 ·have:=rb 1 (by decide)
  exact⟨base,e,_,rfl,rfl,hb.1,hb.2,he.1,he.2,this.1,this.2,rfl⟩
 rintro k vs h ⟨b,e,y,rfl,rfl,b0,b1,e0,e1,y0,y1,rfl⟩
 simp only [pwA,seval,-iQ0];refine iteI (fun hpos=>?_) fun hz=>?_
 rotate_left
 ·exact hk y ⟨y0,y1⟩
 have hyb:y*b≤1000000∧0≤y*b:=⟨by have:=Int.mul_le_mul y1 b1 b0 (by decide:(0:Int)≤1000);omega,Int.mul_nonneg y0 b0⟩
 have hbb:b*b≤1000000∧0≤b*b:=⟨by have:=Int.mul_le_mul b1 b1 b0 (by decide:(0:Int)≤1000);omega,Int.mul_nonneg b0 b0⟩
 have w1:IntKind.i64.wrap (y*b)=y*b:=wrap64 (by omega) (by omega)
 have w2:IntKind.i64.wrap (b*b)=b*b:=wrap64 (by omega) (by omega)
 have hq0:0≤e.tdiv 2:=Int.tdiv_nonneg e0 (by decide)
 have hq1:e.tdiv 2<e:=by rw [Int.tdiv_eq_ediv_of_nonneg e0];omega
 have w3:IntKind.i64.wrap (e.tdiv 2)=e.tdiv 2:=wrap64 (by omega) (by omega)
 have r1:=rb _ hyb.2;have r2:=rb _ hbb.2;simp only [pwA,seval,-iQ0];refine iteI (fun h1=>?_) fun h1=>?_
 ·simp only [pwA,seval,-iQ0,w1,w2,w3,hm0]
  exact⟨_,by show(e.tdiv 2).toNat<e.toNat;omega,_,e.tdiv 2,_,rfl,rfl,r2.1,r2.2,hq0,by omega,r1.1,r1.2⟩
 ·simp only [pwA,seval,-iQ0,w1,w2,w3,hm0]
  exact⟨_,by show(e.tdiv 2).toNat<e.toNat;omega,_,e.tdiv 2,_,rfl,rfl,r2.1,r2.2,hq0,by omega,y0,y1⟩
def MatX (h:PHeap) (v:PV) (M:List (List Int)):Prop:=∃s cap cs,v=.sl s 0 M.length cap∧h.obj s=some cs∧s<h.next∧All2 (fun c x=>∃t cap,c=PV.sl t 0 x.length cap∧h.obj t=some (pis x)∧t<h.next) cs M
theorem MatX.keep (a:MatX h v M) (k:Keep h h'):MatX h' v M:=by
 obtain⟨s,cap,cs,e,h1,h2,h3⟩:=a;have hn:=k.next;exact⟨s,cap,cs,e,by rw [k.obj s h2];exact h1,by omega,h3.imp fun c x ⟨t,cap,e,g1,g2⟩=>⟨t,cap,e,by rw [k.obj t g2];exact g1,by omega⟩⟩
theorem MatX.pLen (a:MatX h v M):pLen v=some (.int .i64 M.length):=by obtain⟨s,cap,cs,rfl,_⟩:=a;rfl
theorem MatX.one (a:MatX h v M):v.one=true:=by obtain⟨s,cap,cs,rfl,_⟩:=a;rfl
theorem zI9 (hM:MatX σ v M) (hm:M.length≤1000) (hr:∀r∈M,r.length≤1000) (hk:∀w,FII w M→K w σ):zA Tryz.prog 64 [v] σ K:=by
 obtain⟨s,cap,cs,rfl,h1,h2,h3⟩:=hM;refine zA.gh ?_;refine zC mix Tryz.func64 ?_
 conv=>arg 2;cbv
 refine zD rfl ?_;simp only [pwA,seval,-iQ0];refine zF (fun m vs h=>∃(i:Nat) (v:PV) (rows:List SR),i≤M.length∧m=M.length-i∧vs=[.sl s 0 M.length cap,v,.int .i64 i]∧Keep σ h∧PSl σ.next 1 h v i (rows.map SR.pv)∧(∀q∈rows,q.ok h σ.next)∧rows.map SR.x=M.take i∧∀q∈rows,∀off l c,v≠.sl q.s off l c) M.length ?_ ?_
 ·exact⟨0,.sl σ.next 0 0 (.known 0),[],Nat.zero_le _,rfl,rfl,zB _ _,⟨σ.next,.known 0,rfl,.inr rfl,by rw [zG,if_pos rfl];rfl,rfl,Nat.le_refl _,Nat.lt_succ_self _⟩,fun q hq=>(by cases hq),by simp,fun q hq=>by cases hq⟩
 rintro m vs h ⟨i,v,rows,hi,rfl,rfl,kk,pa,hq,hx,hne⟩
 have hnx:=kk.next;simp only [pwA,seval,-iQ0];refine iteI (fun hlt=>?_) fun hge=>?_
 rotate_left
 ·have e:i=M.length:=by omega
  subst e;obtain⟨s',cap',rfl,q1,q2,q3,q4,q5⟩:=pa;rw [List.take_length]at hx
  have hl:rows.length=M.length:=by rw [←List.length_map (f:=SR.x),hx]
  have e:(TR.rows s' cap' rows).pv=.sl s' 0 M.length cap':=by simp only [TR.rows,TR.pv,List.length_map,hl]
  rw [←e];refine Gh.treeF kk (qy (TR.rows_ok (by rw [hl];exact q1) q2 q4 q5 hq)) fun a=>?_
  have e2:FII ((TR.rows s' cap' rows).fz a) M:=by rw [←hx];exact TR.rows_FII
  exact hk _ e2
 have hcl:cs.length=M.length:=h3.1;obtain⟨t,capt,e,g1,g2⟩:=h3.2 i _ _ (List.getElem?_eq_getElem (by omega)) (List.getElem?_eq_getElem hlt)
 have hlt':(i:Int)<(M.length:Int):=by omega
 have rd:h.rd1 s i=some (.sl t 0 M[i].length capt):=by unfold PHeap.rd1;rw [kk.obj s h2,h1,←e];exact List.getElem?_eq_getElem (by omega)
 simp only [pwA,seval,-iQ0,hlt,hlt',rd];refine zAn (by rw [kk.obj t g2];exact g1) (by omega) (by have:=hr _ (List.getElem_mem hlt);omega) fun cap2 hc=>?_
 simp only [pwA,seval,-iQ0];refine PAcc.pushS (σb:=σ) (h:=h.new (pis M[i])) (e:=1) (kk.new _) (PSl.acc (pa.keep (zB _ _))) rfl (by omega) (by omega) fun v2 h2' k2 a2 o2 n2 l2=>?_
 have l2':h.next+1<h2'.next:=l2;have keepO:∀t,t<h.next+1→(∀off l c,v≠.sl t off l c)→h2'.obj t=(h.new (pis M[i])).obj t:=fun t ht hv=>o2 t ht hv
 obtain⟨sv,capv,ev,_,_,_,_,sv5⟩:=pa;simp only [pwA,seval,-iQ0,wrapS hlt (by omega:M.length≤4611686018427387904)]
 refine⟨_,by omega,i+1,v2,rows++[⟨h.next,cap2,M[i]⟩],by omega,rfl,rfl,k2,by simpa [SR.pv]using a2,fun q hq'=>?_,by rw [List.map_append,hx,List.take_succ_eq_append_getElem hlt];rfl,fun q hq' off l c e'=>?_⟩
 ·rcases List.mem_append.1 hq' with hq' | hq'
  ·obtain⟨y1,y2,y3,y4⟩:=hq q hq'
   exact⟨y1,by rw [keepO q.s (by omega) (hne q hq'),zG,if_neg (by omega)];exact y2,y3,by omega⟩
  ·rw [List.mem_singleton.1 hq']
   exact⟨hc,by rw [keepO h.next (by omega) (fun off l c e'=>by rw [ev]at e';simp only [PV.sl.injEq]at e';omega),zG,if_pos rfl],hnx,by show h.next<h2'.next;omega⟩
 ·rcases List.mem_append.1 hq' with hq' | hq'
  ·exact n2 q.s (by have:=(hq q hq').2.2.2;show q.s<h.next+1;omega) off l c e'
  ·rw [List.mem_singleton.1 hq']at e'
   exact n2 h.next (Nat.lt_succ_self _) off l c e'
theorem PSl.catO {σb h:PHeap} {n m:Nat} {v:PV} {xs:List Int} {k:IntKind} {K:PV→PHeap→Prop} (hk:Keep σb h) (a:PSl σb.next 1 h v n (pis xs)) (hb:n+m≤1000) (kk:∀v' h',Keep σb h'→PSl σb.next 1 h' v' (n+m) (pis (xs++List.replicate m 0))→K v' h'):zAk 1 8 [.int .i64 0] v (.int k m) h K:=by
 have A:=PSl.cat (bytes:=8) (w:=true) (av:=.nils) (m:=m) (news:=pis (List.replicate m 0)) (K:=fun q=>K q.1 q.2) hk a (by rw [zK,List.length_replicate]) (by omega) (by omega) fun v' h' k' a'=>kk v' h' k' (by rw [Z4]at a';exact a')
 obtain⟨s,cap,rfl,_⟩:=a;rw [zIq];refine⟨⟨by omega,by omega,by omega⟩,?_⟩
 rw [qd]at A
 rw [Int.toNat_natCast]
 by_cases h0:m=0
 ·subst h0
  simp only [zDn,Option.bind_some,if_true]at A
  rw [if_neg (by omega)]
  exact A
 ·simp only [zDn,Option.bind_some,if_neg h0,zBd,Nat.mul_one]at A
  rw [if_pos ⟨Nat.le_refl _,by rw [zK,List.length_replicate];exact Nat.le_refl _,by omega⟩]at A
  rw [if_pos (by omega)]
  have e:ofAVs (zeros [.int .i64 0] m)=pis (List.replicate m 0):=by
   rw [zBT];rw [zGm];exact zf m 0
  rw [e];simp only [Option.bind_some]at A
  rw [List.take_of_length_le (by rw [zK,List.length_replicate];exact Nat.le_refl _)]at A
  exact A
theorem Zr {before behind:Nat} {v:PV} (hv:FI v x) (hb1:before≤300) (hb2:behind≤300) (hx:x.length≤300) (hk:∀cap ys,ys.length=before+x.length+behind→full 1 cap ys.length→K (.sl σ.next 0 ys.length cap) (σ.new (pis ys))):zA Tryz.prog 229 [.int .i64 before,v,.int .i64 behind] σ K:=by
 obtain⟨w,a,rfl⟩:=hv;refine zA.gh ?_;refine zC mix Tryz.func229 ?_
 conv=>arg 2;cbv
 refine zD rfl ?_;simp only [pwA,seval,-iQ0,zf,mk8 (n:=before) (by omega),Go.Ab.mkL (n:=before) (by omega)]
 refine PSl.cat (σb:=σ) (bytes:=8) (m:=x.length) (news:=pis x) (zB σ _) (PSl.own (n:=before) (.inr rfl) (by rw [zG,if_pos rfl]) (by rw [zK,List.length_replicate,Nat.mul_one]) (Nat.le_refl _) (Nat.lt_succ_self _)) (by rw [zK]) (by omega) (by omega) fun v1 h1 k1 a1=>?_
 rw [Z4]at a1
 simp only [pwA,seval,-iQ0];refine PSl.catO (σb:=σ) (m:=behind) k1 a1 (by omega) fun v2 h2 k2 a2=>?_
 simp only [pwA,seval,-iQ0];have hl:(List.replicate before (0:Int)++x++List.replicate behind 0).length=before+x.length+behind:=by simp [Nat.add_assoc]
 refine a2.out k2 (zM _ _) fun cap hc=>?_
 have:=hk cap _ hl (by rw [hl];exact hc)
 rw [hl]at this
 exact this
end Go.Proofs
