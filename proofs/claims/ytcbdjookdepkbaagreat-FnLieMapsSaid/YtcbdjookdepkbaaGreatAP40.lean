/- A list of bytes that a law is handed, laid as a frozen value. -/
import Derived.Test.YtcbdjookdepkbaaGreatAP39
import Derived.Test.YtcbdjookdepkbaaGreatAP33
import Derived.Test.YtcbdjookdepkbaaGreatAP38
import Derived.Maps.RangeRun
import Derived.WalkKit
import Derived.Deep.LoopGhost
import Derived.Lib.Walk
import Derived.Tactics
import Derived.Tactics2
import Derived.StillTactics
import Derived.OwnWalk
import Derived.Laws.Pointers
import Derived.Deep.RegionHeldLaw
import Derived.Deep.AppendLies
import Derived.RegionTactic
import Derived.Deep.Cut
import Derived.Deep.CutRange
import Derived.Laws.ResultCell
set_option linter.unusedSimpArgs false
set_option linter.unusedVariables false
set_option linter.unusedSectionVars false
namespace Go.Proofs
section
open Go.RowKit
open Go.ChangeMaps (setBlock)
theorem zAf {W:World} {P:Nat} {x:List Int}:FpI W P x #[] 0 (.slice none 0 0) 0 ((W.alloc (.cells #[.slice none 0 0,.int .i64 0] 38)).alloc (.map #[] 0)):=by
 refine⟨.inl ⟨rfl,rfl,rfl,rfl⟩,?_,World.ownsRow_nil _ _ _ _,((Below.refl _ W).alloc (Nat.le_refl _) _).alloc (by simp) _,?_,by simp⟩
 ·have:=heap_alloc_new (W.alloc (.cells #[.slice none 0 0,.int .i64 0] 38)) (.map #[] 0)
  simpa using this
 ·rw [Below.heap_alloc _ _ _ (by simp)]
  exact heap_alloc_new _ _
theorem zFP {y:List Int} {i:Nat} {q:Int} (h:y[i]? = some q):(y.take i++[1]).set i q=y.take (i+1):=by
 obtain⟨hl,rfl⟩:=List.getElem?_eq_some_iff.1 h;rw [List.take_succ_eq_append_getElem hl,List.set_append,if_neg (by rw [List.length_take];omega),List.length_take,Nat.min_eq_left (by omega),Nat.sub_self]
 rfl
theorem zK7 {w:World} {B B' n e:Nat} {v:Value} {xs:List Value} (h:w.ownsRow B e 1 v n xs) (hB:B'≤B):w.ownsRow B' e 1 v n xs:=by
 refine⟨h.1,?_⟩;rcases h.2 with q|⟨g,cap,cur,h1,h2,rest⟩
 ·exact .inl q
 ·exact .inr ⟨g,cap,cur,h1,Nat.le_trans hB h2,rest⟩
theorem World.block_lt_of_heap {w:World} {b:Nat} {o:Obj} (h:w.heap[b]? = some o):b<w.heap.size:=(Array.getElem?_eq_some_iff.1 h).1
structure FpJ (W:World) (R P:Nat) (x:List Int) (v:Value) (n g1 c1:Nat) (w3:World):Prop where
 it:w3.heap[R]? = some (.mapIter (some (W.heap.size+1)) 1 #[0] 1)
 map:w3.heap[W.heap.size+1]? = some (.map #[⟨.int .i64 P,v,0⟩] 1)
 own:w3.ownsRow (R+1) 2 1 (.slice (some ⟨g1,0,none⟩) n c1) n (vls x.reverse)
 blw:Below W.heap.size W w3
 cel:w3.heap[W.heap.size]? = some (.cells #[.slice none 0 0,.int .i64 0] 38 (0,0))
set_option maxHeartbeats 1600000 in
set_option maxRecDepth 1000000 in
theorem zFC (g0 o0 c0 n P:Nat) (x:List Int) (W:World) (hn:n=x.length) (h0:0<n) (hx:PtsOK P x) (hc:∀i v,x[i]? = some v→W.cell? ⟨g0,o0+i,none⟩=some (.int .i64 v)) (hg0:g0<W.heap.size):
  Calls Tryz.prog 32 #[.slice (some ⟨g0,o0,none⟩) n c0,.int .i64 0] W fun e w'=>∃g c,e=.returned (.tuple #[.agg #[.slice (some ⟨g,0,none⟩) n c,.int .i64 0],.int .i64 0])∧w'.ownsRow W.heap.size 2 1 (.slice (some ⟨g,0,none⟩) n c) n (vls x)∧Below W.heap.size W w':=by
 obtain⟨i0,hi,hz0,hz1,hz2⟩:=info_parts zMQ;have hmk:=run_makeMap_plain (P:=Tryz.prog);have HN:Aside (n=x.length∧PtsOK P x):=⟨hn,hx⟩;have hn6:n≤6:=by rw [hn];exact hx.len
 clear hn hx
 go_enter Tryz.func32,Tryz.ntmps32
 go_wp2
 go_loopg [8,9,10,19] n (fun m s8 s9 s10 s19 wr=>∃(k:Nat) (es:Array MapEntry) (c:Nat) (v:Value),k≤n∧m=n-k∧s19=.int .i64 k∧FpI W P x es c v k wr)
 case atStart=>exact⟨0,#[],0,.slice none 0 0,Nat.zero_le _,rfl,rfl,zAf⟩
 case round=>
  obtain⟨k,es,c,v,hk,rfl,rfl,hI⟩:=hrel
  by_cases hkn:k<n
  ·obtain⟨hn,hx⟩:=HN.out
   have hkl:k<x.length:=by omega
   have ck:=hc k x[k] (List.getElem?_eq_getElem hkl);have ck':wr.cell? ⟨g0,o0+k,none⟩=some (.int .i64 x[k]):=(hI.blw.cell (p:=⟨g0,o0+k,none⟩) hg0).trans ck;obtain⟨j,j1,j9,hj,hq7⟩:=hx.pw _ (List.getElem_mem hkl);have fc:=zJ6 hx.pr j1 j9 (by rw [hj]at hq7;exact Int.ofNat_le.1 hq7) wr
   obtain⟨q,hqe⟩:∃q,q=P ^ j:=⟨_,rfl⟩
   rw [←hqe]at fc hj
   rw [hj]at ck'
   have A:Aside (FpI W P x es c v k wr∧x[k]? = some (q:Int)):=⟨hI,by rw [List.getElem?_eq_getElem hkl,hj]⟩
   clear hI hmk ck hc hq7 hj hqe hn hx hkl
   go_wp2_with fail
   refine fc.mono ?_
   rintro e w1 ⟨pb,po,pc,v2,rfl,hpB,cp,b1⟩
   have hI:=A.out.1.below b1;have hkq:=A.out.2;clear fc ck' b1;have hlk:=hI.mio.look hI.map;have hno:v.ownBlock≠some pb:=fun e=>by have:=(A.out.1.own.lt _ e).2;omega
   have hsr:=A.out.1.siz;clear A;have hplt:=World.block_lt_of_cell? _ _ cp;have hs2:=hI.siz;have own2:(w1.alloc (.cells #[.int .i64 q] 2)).drew.ownsRow (W.heap.size+2) 2 1 v k (vls (x.take k)):=(hI.own.alloc _).drew;have nws:∀j u,[Value.int .i64 q][j]? = some u→(w1.alloc (.cells #[.int .i64 q] 2)).drew.cell? ((⟨w1.heap.size,0,none⟩:Addr).add j)=some u:=World.news_of_block (cs:=#[.int .i64 q]) (t:=2) (fr:=(0,0)) (heap_alloc_new w1 _)
   have b63:k+1≤maxLen:=by unfold maxLen;omega
   have bby:(k+1)*8≤140737488355328:=by omega
   have bba:W.heap.size+2≤(w1.alloc (.cells #[.int .i64 q] 2)).drew.heap.size:=by simp;omega
   have bsz:(w1.alloc (.cells #[.int .i64 q] 2)).drew.heap.size=w1.heap.size+1:=by simp
   have mpl:(w1.alloc (.cells #[.int .i64 q] 2)).drew.heap[W.heap.size+1]? = some (.map es c):=(Below.heap_alloc w1 _ _ (by omega)).trans hI.map
   have hnoM:some (W.heap.size+1)≠v.ownBlock:=fun e=>by have:=(hI.own.lt _ e.symm).1;omega
   have mp2:∀w2:World,(w1.alloc (.cells #[.int .i64 q] 2)).drew.grownBy w2 v.ownBlock→w2.heap[W.heap.size+1]? = some (.map es c):=fun w2 g=>(g.block _ (by omega) hnoM).trans mpl
   have mp1:=hI.map;have hpM:pb≠W.heap.size+1:=by omega
   have cp1:w1.drew.cell? ⟨pb,po,none⟩=some (.int .i64 P):=cp;have cpl:(w1.alloc (.cells #[.int .i64 q] 2)).cell? ⟨pb,po,none⟩=some (.int .i64 P):=by rw [←cp];exact World.cell?_of_block (Below.heap_alloc w1 _ _ hplt)
   have kp2:∀w2:World,(w1.alloc (.cells #[.int .i64 q] 2)).drew.grownBy w2 v.ownBlock→w2.cell? ⟨pb,po,none⟩=some (.int .i64 P):=fun w2 g=>g.cell (by rw [←cp];exact World.cell?_of_block (Below.heap_alloc w1 _ _ hplt)) (Ne.symm hno)
   have hI':Aside (FpI W P x es c v k w1∧x[k]? = some (q:Int)):=⟨hI,hkq⟩;have hmio:=hI.mio;clear hI hkq
   go_wp2_with fail
   have hl1:(Instr.lookup 89 (.map (some (W.heap.size+1))) (.int .i64 P) false).run Tryz.prog w1.drew=.ok v w1.drew:=hmio.look mp1;have hl2:(Instr.lookup 89 (.map (some (W.heap.size+1))) (.int .i64 P) false).run Tryz.prog (w1.alloc (.cells #[.int .i64 q] 2)).drew=.ok v (w1.alloc (.cells #[.int .i64 q] 2)).drew:=hmio.look mpl
   go_region_held_law (fun w'=>w'.cell? ⟨pb,po,none⟩=some (.int .i64 P))
    (first
     | exact kp2 _ hgrow
     | exact(World.cell?_of_block (ZI hpM)).trans (kp2 _ hgrow)
     | exact cp1
     | exact cpl)
    ((refine step_append_lies _ (by rfl) _ _ _ (by rfl) (W.heap.size+2) 2 i0 _ 1 8 zHh hi hz0 hz1 hz2 rfl (by omega) v k (vls (x.take k)) (by rfl) own2 ⟨w1.heap.size,0,none⟩ 1 1 [.int .i64 q] (by rfl) (by rfl) nws (by simp [Value.oneCell']) (by omega) b63 bby bba (w1.heap.size+1) bsz ?_;intro gg cap w2 hown2 hgrow hat hlt;have hmu:=hmio.upd (mp2 _ hgrow) (.slice (some ⟨gg,0,none⟩) (k+1) cap)))
   all_goals
    clear hmu hl1 hl2 nws own2 b63 bby bba bsz mpl mp2 kp2 cpl cp1 mp1 hnoM hpM hmio
    go_wp2
    go_roundg (n-(k+1))
    case measure=>omega
    case rel=>
     refine⟨k+1,_,_,_,by omega,rfl,by go_num,(FpI.below hI'.out.1 (((Below.refl _ w1).alloc (Nat.le_refl _) _).drew)).next hI'.out.2 hgrow hown2⟩
  ·obtain rfl:k=n:=by omega
   rename World=>wq
   obtain⟨hn,hx⟩:=HN.out;obtain⟨_,rfl,rfl⟩:0<k∧es = #[⟨.int .i64 P,v,0⟩]∧c=1:=by
    rcases hI.mio with ⟨h,_⟩|h
    ·omega
    ·exact h
   have hrg:=run_range_map (P:=Tryz.prog) wq 89 2 36 (W.heap.size+1) _ _ zAA hI.map;have A:Aside (FpI W P x #[⟨.int .i64 P,v,0⟩] 1 v k wq∧k=x.length∧PtsOK P x):=⟨hI,hn,hx⟩;clear hI hmk hc hn hx
   go_wp2_with fail
   go_loopg [5,11,13,14,15] 1 (fun m s5 s11 s13 s14 s15 w3=>s5=.int .i64 0∧((m=1∧s11=.slice none 0 0∧w3=wq.alloc (.mapIter (some (W.heap.size+1)) 1 #[] 1))∨
    (m=0∧∃g1 c1,s11=.slice (some ⟨g1,0,none⟩) k c1∧FpJ W wq.heap.size P x v k g1 c1 w3)))
   case atStart=>exact⟨rfl,.inl ⟨rfl,rfl,rfl⟩⟩
   case round=>
    rcases hrel with ⟨rfl,⟨rfl,rfl,rfl⟩|⟨rfl,g1,c1,rfl,hJ⟩⟩
    ·obtain⟨w5,hnx,hen,hI5,it5,s5⟩:=next1 A.out.1
     obtain⟨g,cap,rfl,hgB,hgl⟩:=A.out.1.own.form (by omega)
     have hx:=A.out.2.2;have hn:=A.out.2.1;have own5:=hI5.own;rw [List.take_of_length_le (by omega)]at own5
     have cap5:k≤cap:=by
      rcases own5.2 with ⟨e,_⟩|⟨_,_,_,e,_,_,h,_⟩
      ·cases e
      ·cases e;exact h
     have sc:=zNB (c:=cap) hn (by omega) (by omega) hx.asc cap5 (fun i z hi=>by rw [Nat.zero_add];exact zAK own5 hi)
     have A5:Aside (FpI W P x #[⟨.int .i64 P,.slice (some ⟨g,0,none⟩) k cap,0⟩] 1 (.slice (some ⟨g,0,none⟩) k cap) k w5∧w5.heap[wq.heap.size]? = some (.mapIter (some (W.heap.size+1)) 1 #[0] 1)∧w5.heap.size=wq.heap.size+1∧w5.ownsRow (W.heap.size+2) 2 1 (.slice (some ⟨g,0,none⟩) k cap) k (vls x)):=⟨hI5,it5,s5,own5⟩;clear hI5 it5 s5 own5 hrg hx hn
     go_wp2_with fail
     refine sc.mono ?_
     rintro e w6 ⟨rfl,b6⟩
     clear sc hnx hen;have rv:=zEu (zBD b6 A5.out.2.2.2) hgB hn6
     go_wp2_with fail
     refine rv.mono ?_
     rintro e w7 ⟨rfl,own7,b7,kept7,s7⟩
     clear rv;have A7:Aside (w6.heap.size=w7.heap.size∧(∀k,k≠g→w7.heap[k]? = w6.heap[k]?)∧Below (W.heap.size+2) w6 w7∧Below w5.heap.size w5 w6∧w7.ownsRow (W.heap.size+2) 2 1 (.slice (some ⟨g,0,none⟩) k cap) k (vls x.reverse)):=⟨s7.symm,kept7,b7,b6,own7⟩
     clear s7 kept7 b7 b6 own7
     go_wp2_with fail
     go_loopg [5,11,14,15,53] k (fun m t5 t11 t14 t15 t53 w8=>t5=.int .i64 0∧∃(i:Nat) (p8:Option Addr) (c8:Nat),i≤k∧m=k-i∧t53=.int .i64 i∧t11=.slice p8 i c8∧w8.ownsRow (wq.heap.size+1) 2 1 (.slice p8 i c8) i (vls (x.reverse.take i))∧Below (wq.heap.size+1) w7 w8)
     case atStart=>exact⟨rfl,0,none,0,Nat.zero_le _,rfl,rfl,rfl,World.ownsRow_nil _ _ _ _,Below.refl _ _⟩
     case round=>
      obtain⟨rfl,i,p8,c8,hik,rfl,rfl,rfl,own8,b8⟩:=hrel
      by_cases hlt:i<k
      ·have hrl:x.reverse.length=k:=by rw [List.length_reverse];exact A.out.2.1.symm
       have hil:i<x.reverse.length:=by omega
       obtain⟨j,j1,j9,hj,hq7⟩:=A.out.2.2.pw _ (List.mem_reverse.1 (List.getElem_mem hil));have hP2:2≤P:=by have:=A.out.2.2.pr;omega
       have hPj:2≤P ^ j:=Nat.le_trans hP2 (by have h:P ^ 1≤P ^ j:=Nat.pow_le_pow_right (by omega) j1;rwa [Nat.pow_one]at h)
       obtain⟨q,hqe⟩:∃q,q=P ^ j:=⟨_,rfl⟩
       rw [←hqe]at hj hPj
       have hgi:x.reverse[i]? = some (q:Int):=by rw [List.getElem?_eq_getElem hil,hj]
       rw [hj]at hq7
       have cp:wr.cell? ⟨g,i,none⟩=some (.int .i64 q):=by
        rw [b8.cell (p:=⟨g,i,none⟩) (by show g<_;omega)]
        exact zAK A7.out.2.2.2.2 hgi
       have A8:Aside (x.reverse[i]? = some (q:Int)∧wr.ownsRow (wq.heap.size+1) 2 1 (.slice p8 i c8) i (vls (x.reverse.take i))∧Below (wq.heap.size+1) w7 wr):=⟨hgi,own8,b8⟩;have own9:(wr.alloc (.cells #[.int .i64 1] 2)).ownsRow (wq.heap.size+1) 2 1 (.slice p8 i c8) i (vls (x.reverse.take i)):=own8.alloc _;have nws:∀j u,[Value.int .i64 1][j]? = some u→(wr.alloc (.cells #[.int .i64 1] 2)).cell? ((⟨wr.heap.size,0,none⟩:Addr).add j)=some u:=World.news_of_block (cs:=#[.int .i64 1]) (t:=2) (fr:=(0,0)) (heap_alloc_new wr _)
       have b63:i+1≤maxLen:=by unfold maxLen;omega
       have bby:(i+1)*8≤140737488355328:=by omega
       have hs8:wq.heap.size+1≤wr.heap.size:=Nat.le_trans (by have:=A5.out.2.2.1;have:=A7.out.1;have:=A7.out.2.2.2.1.size;omega) b8.size
       have bba:wq.heap.size+1≤(wr.alloc (.cells #[.int .i64 1] 2)).heap.size:=by simp;omega
       have bsz:(wr.alloc (.cells #[.int .i64 1] 2)).heap.size=wr.heap.size+1:=by simp
       have b9:Below (wq.heap.size+1) w7 (wr.alloc (.cells #[.int .i64 1] 2)):=b8.alloc hs8 _;clear hj hqe hgi own8 b8 hil hrl
       go_wp2_with (at_builtin;refine wpList_append_lies _ rfl _ _ 36 rfl (wq.heap.size+1) 2 i0 (.int .i64 0) 1 8 zHh hi hz0 hz1 hz2 rfl (by decide) _ _ _ rfl own9 ⟨wr.heap.size,0,none⟩ 1 1 [.int .i64 1] rfl rfl nws (by simp [Value.oneCell']) (by decide) b63 bby bba (wr.heap.size+1) bsz ?_)
       intro g1 c1 w10 own10 gr10 hat hlt10;have b10:Below (wq.heap.size+1) w7 w10:=b9.grown gr10 bba fun j hj=>(own9.lt j hj).1
       have own10':w10.ownsRow (wq.heap.size+1) 2 1 (.slice (some ⟨g1,0,none⟩) (i+1) c1) (i+1) (vls (x.reverse.take i++[1])):=by
        have e:vls (x.reverse.take i++[1])=vls (x.reverse.take i)++[.int .i64 1]:=by simp [vls]
        rw [e];exact own10
       have hil:i<x.reverse.length:=by rw [List.length_reverse,←A.out.2.1];exact hlt
       have c10:w10.cell? ⟨g1,i,none⟩=some (.int .i64 1):=zAK own10' (by
        rw [List.getElem?_append_right (by rw [List.length_take];omega),List.length_take,Nat.min_eq_left (by omega),Nat.sub_self];rfl)
       have f10:w10.frozen? ⟨g1,i,none⟩=false:=own10'.frozenAt i;have A10:Aside (w10.ownsRow (wq.heap.size+1) 2 1 (.slice (some ⟨g1,0,none⟩) (i+1) c1) (i+1) (vls (x.reverse.take i++[1]))∧Below (wq.heap.size+1) w7 w10∧i<x.reverse.length):=⟨own10',b10,hil⟩;clear own10' b10 hil own9 nws b63 bby hs8 bba bsz b9 own10 gr10 hat hlt10 cp;have hq0:¬(q:Int)=0:=by omega
       have hqd:¬(1000000:Int) / q<1:=by
        rw [show(1000000:Int) / q=((1000000 / q:Nat):Int) from rfl]
        have:1371≤1000000 / q:=(Nat.le_div_iff_mul_le (by omega)).2 (by omega)
        omega
       go_wp2_with fail
       go_region
       go_wp2_with fail
       go_roundg (k-(i+1))
       case measure=>omega
       case rel=>
        exact⟨rfl,i+1,some ⟨g1,0,none⟩,c1,by omega,rfl,by go_num,rfl,by rw [←zFP A8.out.1];exact(zMD A10.out.1).1,(A10.out.2.1.setCell (p:=⟨g1,i,none⟩) (A10.out.1.lt g1 rfl).1 _).drew⟩
      ·obtain rfl:i=k:=by omega
       have hs8:wq.heap.size+1≤wr.heap.size:=Nat.le_trans (by have:=A5.out.2.2.1;have:=A7.out.1;have:=A7.out.2.2.2.1.size;omega) b8.size
       obtain⟨g1,c1,e,hg1,hg1l⟩:=own8.form (by omega)
       cases e;rw [List.take_of_length_le (by rw [List.length_reverse,A.out.2.1];exact Nat.le_refl _)]at own8
       have A8:Aside (wr.ownsRow (wq.heap.size+1) 2 1 (.slice (some ⟨g1,0,none⟩) i c8) i (vls x.reverse)∧Below (wq.heap.size+1) w7 wr):=⟨own8,b8⟩;clear own8 b8
       go_wp2_with fail
       go_roundg 0
       case measure=>omega
       case rel=>
        obtain⟨hI5,it5,s5,own5⟩:=A5.out;obtain⟨s7,kept7,b7,b6,own7⟩:=A7.out;obtain⟨own8,b8⟩:=A8.out;have hs5:=hI5.siz;have kb:∀j,j<wq.heap.size+1→j≠g→wr.heap[j]? = w5.heap[j]?:=fun j hj hjg=>by
         rw [b8.block j hj,kept7 j hjg,b6.block j (by omega)]
        exact⟨rfl,.inr ⟨rfl,g1,c8,rfl,by rw [kb wq.heap.size (by omega) (by omega)];exact it5,by rw [kb (W.heap.size+1) (by omega) (by omega)];exact hI5.map,own8,((hI5.blw.trans (b6.mono (by omega))).trans (b7.mono (by omega))).trans (b8.mono (by omega)),by rw [kb W.heap.size (by omega) (by omega)];exact hI5.cel⟩⟩
    ·have hnx:=next2 hJ.it hJ.map
     have hx:=A.out.2.2;have hn:=A.out.2.1;have own3:=hJ.own;have rv:=zEu own3 (own3.lt g1 rfl).1 hn6;rw [List.reverse_reverse]at rv
     have hsz:=A.out.1.siz;have A3:Aside (FpJ W wq.heap.size P x v k g1 c1 wr∧k=x.length∧PtsOK P x∧W.heap.size+2≤wq.heap.size):=⟨hJ,hn,hx,hsz⟩;clear hJ hx hn own3 hrg hsz
     go_wp2_with fail
     refine rv.mono ?_
     rintro e w4 ⟨rfl,own4,b4,kept4,s4⟩
     clear rv hnx;have A4:Aside (w4.ownsRow (wq.heap.size+1) 2 1 (.slice (some ⟨g1,0,none⟩) k c1) k (vls x)∧Below (wq.heap.size+1) wr w4∧(∀j,j≠g1→w4.heap[j]? = wr.heap[j]?)∧w4.heap.size=wr.heap.size):=⟨own4,b4,kept4,s4⟩
     have cap4:k≤c1:=by
      rcases own4.2 with ⟨e,_⟩|⟨_,_,_,e,_,_,h,_⟩
      ·cases e
      ·cases e;exact h
     have ab:=zKK (W:=w4) (c:=c1) A3.out.2.1 h0 A3.out.2.2.1 cap4 (fun i z hi=>by rw [Nat.zero_add];exact zAK own4 hi)
     clear own4 b4 kept4 s4
     go_wp2_with fail
     refine ab.mono ?_
     rintro e w9 ⟨rfl,b9⟩
     clear ab;have hg1:=(A4.out.1.lt g1 rfl).1;have hw4:=A4.out.2.2.2;have cel9:w9.heap[W.heap.size]? = some (.cells #[.slice none 0 0,.int .i64 0] 38 (0,0)):=by
      have:=A4.out.2.1.size
      have h3:=A3.out.2.2.2;have h5:=World.block_lt_of_heap A3.out.1.cel;rw [b9.block W.heap.size (by omega),A4.out.2.2.1 W.heap.size (by omega)]
      exact A3.out.1.cel
     have c90:w9.cell? ⟨W.heap.size,0,none⟩=some (.slice none 0 0):=Lib.cell_of_heap cel9 0;have c91:w9.cell? ⟨W.heap.size,1,none⟩=some (.int .i64 0):=Lib.cell_of_heap cel9 1;have f9:∀i,w9.frozen? ⟨W.heap.size,i,none⟩=false:=fun i=>Lib.frozen_of_heap cel9 i
     have A9:Aside (Below w4.heap.size w4 w9):=b9;clear b9 cel9
     go_wp2
     have own9:w9.ownsRow W.heap.size 2 1 (.slice (some ⟨g1,0,none⟩) k c1) k (vls x):=zK7 (zBD A9.out A4.out.1) (by have:=A3.out.2.2.2;omega)
     have ne:g1≠W.heap.size:=by have:=A3.out.2.2.2;omega
     have b9:Below W.heap.size W w9:=(A3.out.1.blw.trans (A4.out.2.1.mono (by have:=A3.out.2.2.2;omega))).trans (A9.out.mono (by have:=A3.out.2.2.2;have:=A4.out.2.1.size;have:=World.block_lt_of_heap A3.out.1.cel;omega))
     have d0:((w9.setCell ⟨W.heap.size,0,none⟩ (.slice (some ⟨g1,0,none⟩) k c1)).setCell ⟨W.heap.size,1,none⟩ (.int .i64 0)).cell? ⟨W.heap.size,0,none⟩=some (.slice (some ⟨g1,0,none⟩) k c1):=by
      go_simp
     have d1:((w9.setCell ⟨W.heap.size,0,none⟩ (.slice (some ⟨g1,0,none⟩) k c1)).setCell ⟨W.heap.size,1,none⟩ (.int .i64 0)).cell? ⟨W.heap.size,1,none⟩=some (.int .i64 0):=by
      go_simp
     clear f9 c90 c91;refine bodyPost_ret (v:=.tuple #[.agg #[.slice (some ⟨g1,0,none⟩) k c1,.int .i64 0],.int .i64 0]) (by rw [results_cell_tmp rfl];go_simp) rfl ?_
     refine⟨g1,c1,rfl,?_,(b9.setCell (p:=⟨W.heap.size,0,none⟩) (Nat.le_refl _) _).setCell (p:=⟨W.heap.size,1,none⟩) (Nat.le_refl _) _⟩;refine zBC (fun j hj=>?_) own9
     cases hj;rw [Below.heap_setCell _ _ _ _ (by exact ne),Below.heap_setCell _ _ _ _ (by exact ne)]
end
end Go.Proofs
namespace Go.Grp
end Go.Grp
namespace Go.Proofs
section
open Go.RowKit Go.Ab Go.Lie Go.Grp
open Go.ChangeMaps (setBlock)
set_option maxHeartbeats 1600000
set_option maxRecDepth 1000000
theorem zKP (w:World):Calls Tryz.prog 70 #[.slice none 0 0] w fun e w'=>e=.returned (.tuple #[])∧w'=w:=by
 go_enter Tryz.func70,Tryz.ntmps70
 go_wp2
 go_loopg [2,3] 0 (fun k s2 s3 wr=>s2=.int .i64 0∧s3=.int .i64 (-1)∧wr=w)
 case atStart=>exact⟨rfl,rfl,rfl⟩
 case round=>
  obtain⟨rfl,rfl,rfl⟩:=hrel
  go_wp2
  go_end0
  exact⟨rfl,rfl⟩
theorem zKL {P:Nat} {W:World} (hx:PtsOK P []):
  Calls Tryz.prog 71 #[.agg #[.slice none 0 0,.int .i64 0]] W fun e w'=>e=.returned (.tuple #[.agg #[.slice none 0 0,.int .i64 0],.int .i64 0])∧Below W.heap.size W w':=by
 have m0:=MR.empty W;have pc:=zAQ (σ:=PHeap.non) (w:=false) (a:=.nils) (x:=[]) (P:=P) (K:=fun v _=>v=.tup [.agg [.fz false .nils 0 [],.int .i64 0],.int .i64 0]) hx rfl
 refine(pc idz (fun _=>False) _ (zB3 m0.wf fun o ho=>ho.elim) ⟨⟨⟨.inl ⟨rfl,rfl,rfl⟩,trivial⟩,trivial,trivial⟩,trivial⟩ _ _ _ _ [.agg #[.slice none 0 0,.int .i64 0]] m0 ⟨_,_,rfl,⟨[_,_],⟨_,_,rfl,rfl,_,_,rfl,rfl,rfl⟩,rfl⟩,rfl⟩).mono ?_
 rintro e w' ⟨v,h',j',cv,rfl,fr,mr,vi',pv,σ',ι',Z',r',a',vk',rfl,rfl⟩
 obtain⟨vs,⟨c1,vs2,rfl,vi1,c2,vs3,rfl,rfl,rfl⟩,rfl⟩:=vi';obtain⟨vs,⟨d1,vs4,rfl,vi2,d2,vs5,rfl,rfl,rfl⟩,rfl⟩:=vi1
 have:d1=.slice none 0 0:=vi2
 subst this;exact⟨rfl,mr.below⟩
theorem zFD (p:Option Addr) (c0 P:Nat) (W:World) (hx:PtsOK P []):
  Calls Tryz.prog 32 #[.slice p 0 c0,.int .i64 0] W fun e w'=>e=.returned (.tuple #[.agg #[.slice none 0 0,.int .i64 0],.int .i64 0])∧Below W.heap.size W w':=by
 have hmk:=run_makeMap_plain (P:=Tryz.prog);have hm0:((W.alloc (.cells #[.slice none 0 0,.int .i64 0] 38)).alloc (.map #[] 0)).heap[W.heap.size+1]? = some (.map #[] 0):=(zAf (P:=P) (x:=[])).map;have hrg:=run_range_map (P:=Tryz.prog) _ 89 2 36 (W.heap.size+1) _ _ zAA hm0
 go_enter Tryz.func32,Tryz.ntmps32
 go_wp2
 go_loopg [8,9,10,19] 0 (fun m s8 s9 s10 s19 wr=>s19=.int .i64 0∧wr=(W.alloc (.cells #[.slice none 0 0,.int .i64 0] 38)).alloc (.map #[] 0))
 case atStart=>exact⟨rfl,rfl⟩
 case round=>
  obtain⟨rfl,rfl⟩:=hrel;have hz2:((W.alloc (.cells #[.slice none 0 0,.int .i64 0] 38)).alloc (.map #[] 0)).heap.size=W.heap.size+1+1:=by simp
  have hcel:((W.alloc (.cells #[.slice none 0 0,.int .i64 0] 38)).alloc (.map #[] 0)).heap[W.heap.size]? = some (.cells #[.slice none 0 0,.int .i64 0] 38 (0,0)):=(zAf (P:=P) (x:=[])).cel;have hb1:Below W.heap.size W ((W.alloc (.cells #[.slice none 0 0,.int .i64 0] 38)).alloc (.map #[] 0)):=(zAf (P:=P) (x:=[])).blw;clear hmk
  go_wp2_with fail
  clear hrg;generalize (W.alloc (.cells #[.slice none 0 0,.int .i64 0] 38)).alloc (.map #[] 0)=w2 at *
  have hr:(w2.alloc (.mapIter (some (W.heap.size+1)) 0 #[] 0)).heap[W.heap.size+1+1]? = some (.mapIter (some (W.heap.size+1)) 0 #[] 0):=by rw [←hz2];exact heap_alloc_new w2 _
  have hm:(w2.alloc (.mapIter (some (W.heap.size+1)) 0 #[] 0)).heap[W.heap.size+1]? = some (.map #[] 0):=(Below.heap_alloc w2 _ _ (by omega)).trans hm0
  have hc:(w2.alloc (.mapIter (some (W.heap.size+1)) 0 #[] 0)).heap[W.heap.size]? = some (.cells #[.slice none 0 0,.int .i64 0] 38 (0,0)):=(Below.heap_alloc w2 _ _ (by omega)).trans hcel
  have hB:Below W.heap.size W (w2.alloc (.mapIter (some (W.heap.size+1)) 0 #[] 0)):=hb1.alloc (by omega) _
  clear hm0 hcel hb1 hz2;generalize w2.alloc (.mapIter (some (W.heap.size+1)) 0 #[] 0)=w3 at *
  have hnx:∀ty,(Instr.next (.pointer (some ⟨W.heap.size+1+1,0,none⟩)) false ty).run Tryz.prog w3=.ok (.tuple #[.bool false]) w3:=fun ty=>by
   have law:=run_next_at (P:=Tryz.prog) w3 ty (W.heap.size+1+1) (W.heap.size+1) 0 0 #[] #[] 0 hr hm (fun z hz=>by simp at hz) (Nat.le_refl _)
   rcases law with ⟨_,h⟩|⟨e,he,_⟩
   ·exact h
   ·simp [leftOf]at he
  clear hr hm;refine wp_loop_rounds 1 ?_;rw [rounds_succ]
  go_wp2_with fail
  refine(zKP w3).mono ?_
  rintro e w4 ⟨rfl,rfl⟩
  go_wp2_with fail
  refine(zKL hx).mono ?_
  rintro e w9 ⟨rfl,b9⟩
  have hc9:w9.heap[W.heap.size]? = some (.cells #[.slice none 0 0,.int .i64 0] 38 (0,0)):=(b9.block _ (World.block_lt_of_heap hc)).trans hc;have hB9:Below W.heap.size W w9:=hB.trans (b9.mono (Nat.le_of_lt (World.block_lt_of_heap hc)));have c90:w9.cell? ⟨W.heap.size,0,none⟩=some (.slice none 0 0):=Lib.cell_of_heap hc9 0;have c91:w9.cell? ⟨W.heap.size,1,none⟩=some (.int .i64 0):=Lib.cell_of_heap hc9 1;have f9:∀i,w9.frozen? ⟨W.heap.size,i,none⟩=false:=fun i=>Lib.frozen_of_heap hc9 i
  have A9:Aside (Below W.heap.size W w9):=hB9;clear hc hB b9 hc9 hB9 hnx
  go_wp2
  have d0:((w9.setCell ⟨W.heap.size,0,none⟩ (.slice none 0 0)).setCell ⟨W.heap.size,1,none⟩ (.int .i64 0)).cell? ⟨W.heap.size,0,none⟩=some (.slice none 0 0):=by
   go_simp
  have d1:((w9.setCell ⟨W.heap.size,0,none⟩ (.slice none 0 0)).setCell ⟨W.heap.size,1,none⟩ (.int .i64 0)).cell? ⟨W.heap.size,1,none⟩=some (.int .i64 0):=by
   go_simp
  clear f9 c90 c91;refine bodyPost_ret (v:=.tuple #[.agg #[.slice none 0 0,.int .i64 0],.int .i64 0]) (by rw [results_cell_tmp rfl];go_simp) rfl ?_
  exact⟨rfl,(A9.out.setCell (p:=⟨W.heap.size,0,none⟩) (Nat.le_refl _) _).setCell (p:=⟨W.heap.size,1,none⟩) (Nat.le_refl _) _⟩
end
end Go.Proofs
namespace Go.Grp
end Go.Grp
namespace Go.Proofs
open Go.RowKit Go.Ab Go.Lie Go.Grp
theorem zGU {B:Nat} {w0 w w':World} {j:Inj} {h:AHeap} (m:MR B w0 j h w) (hb:Below w.heap.size w w'):MR B w0 j h w':=by
 refine⟨m.below.trans (hb.mono m.bnd),Nat.le_trans m.bnd hb.size,m.fresh,fun o ob l ho hl=>?_,m.apart⟩
 have q:=m.obj o ob l ho hl;obtain⟨cur,ty,fz,r1,r2,r3,r4⟩:=q.row;have hlt:l.blk<w.heap.size:=(Array.getElem?_eq_some_iff.1 r1).1;exact⟨q.one,cur,ty,fz,by rw [hb.block _ hlt];exact r1,r2,r3,r4⟩
theorem setRow_self {w:World} {b:Nat} {cur:Array Value} {ty:TypeId} (h:w.heap[b]? = some (.cells cur ty (0,0))):w.setRow b cur=w:=by
 have:(w.setRow b cur).heap=w.heap:=by
  apply Array.ext_getElem?;intro k;simp only [World.setRow,Array.getElem?_modify]
  by_cases e:b=k
  ·subst e;rw [if_pos rfl,h];rfl
  ·rw [if_neg e]
 unfold World.setRow at *
 simp only at this
 rw [this]
theorem zF2 {x:List Int} {i:Nat}:(ints x)[i]? = x[i]?.map (AV.int .i64):=by simp [ints]
theorem FP_ok:FPok 32:=by
 intro P xs w a σ K hx hK ι Z h r va B w0 j wd cargs m vi;obtain⟨cv,vs2,rfl,v1,c2,vs3,rfl,rfl,rfl⟩:=vi;have f:FzAt Z h w a xs.length (ers idz (pis xs)):=va.1.1;rw [zAL]at f
 have v1':VI j a cv:=v1
 by_cases h0:0<xs.length
 ·obtain⟨blk,o,c,rfl,_,hc⟩:=zJ5 m v1' f h0 (by intro e;have:=congrArg List.length e;simp only [ints,List.length_map,List.length_nil]at this;omega)
  have hc':∀i v,xs[i]? = some v→wd.cell? ⟨blk,o+i,none⟩=some (.int .i64 v):=fun i v hi=>by
   obtain⟨cx,e1,e2⟩:=hc i (.int .i64 v) (by rw [zF2,hi];rfl)
   rw [e1,show cx=_ from e2]
  have hlt:=World.block_lt_of_cell? _ _ (hc' 0 xs[0] (List.getElem?_eq_getElem h0));refine(zFC blk o c xs.length P xs wd rfl h0 hx hc' hlt).mono ?_
  rintro e w' ⟨g,c',rfl,own,b⟩
  have m1:=zGU m b;rcases own.2 with ⟨e,_⟩|⟨g',cap',cur,e,hB,hrow,hnc,hcm,hcs,htake⟩
  ·cases e
  ·cases e
   have hlen:(ints xs).length=xs.length:=by simp [ints]
   obtain⟨m2,fr⟩:=m1.adopt (b:=g) (base:=0) (room:=cur.size) (cells:=ints xs) (new:=cur) hrow (Nat.le_trans m.bnd hB)
    (fun o ob l ho hl e=>by
     obtain⟨cur2,ty2,fz2,r1,_⟩:=(m.obj o ob l ho hl).row
     have:=(Array.getElem?_eq_some_iff.1 r1).1
     omega) rfl (by omega) (by simp [ints,AV.one]) (by
     rw [List.drop_zero,hlen,show cur.toList.take xs.length=vls xs by rw [←htake,Nat.mul_one]]
     refine VIs.of_get (by simp [vls,hlen]) fun i v hi=>?_
     rw [zF2,Option.map_eq_some_iff]at hi
     obtain⟨z,hz,rfl⟩:=hi;exact⟨.int .i64 z,by rw [zD2,hz];rfl,rfl⟩)
   rw [setRow_self hrow]at m2
   refine⟨.tup [.agg [.sl h.next 0 xs.length (.known c'),.int .i64 0],.int .i64 0],_,_,_,rfl,fr,m2,?_,?_⟩
   ·exact⟨[_,_],⟨_,_,rfl,⟨[_,_],⟨_,_,rfl,⟨⟨g,0,cur.size⟩,⟨g,0,none⟩,by simp [Inj.put],rfl,.inl rfl⟩,_,_,rfl,rfl,rfl⟩,rfl⟩,_,_,rfl,rfl,rfl⟩,rfl⟩
   ·have hzz:∀o,Z o→(Z o∨o=h.next)∧(h.new ⟨true,ints xs⟩).obj o=h.obj o:=fun o ho=>⟨.inl ho,by simp only [AHeap.new];rw [if_neg (by have:=r.zlt o ho;omega)]⟩
    refine⟨.tup [.agg [.fz true (.sl h.next 0 xs.length (.known c')) xs.length (pis xs),.int .i64 0],.int .i64 0],σ,ι,fun o=>Z o∨o=h.next,⟨r.hwf.new _,?_,Nat.le_trans r.top (Nat.le_succ _),r.wf,?_,r.inj⟩,⟨Nat.le_refl _,Nat.le_succ _,fun _ _=>rfl,hzz,fun _ _ q=>q,fun s cs hs ho=>absurd (r.none_lt ho) (by omega)⟩,⟨⟨⟨.inr ⟨h.next,0,.known c',rfl,.inr rfl,.inr ?_,fun c2 e=>by cases e;exact hnc,fun _=>⟨rfl,?_⟩⟩,zCo xs⟩,trivial,trivial⟩,trivial,trivial⟩,rfl,hK _ ⟨true,_,rfl⟩⟩
    ·rintro o (q | rfl)
     ·exact Nat.lt_succ_of_lt (r.zlt o q)
     ·exact Nat.lt_succ_self _
    ·intro s cs hs
     obtain⟨q1,q2,q3⟩:=r.obj s cs hs;have hl:=r.hwf.lt q1;refine⟨?_,q2.mono hzz (Nat.le_refl _),fun q=>?_⟩
     ·simp only [AHeap.new];rw [if_neg (by omega)];exact q1
     ·rcases q with q | q
      ·exact q3 q
      ·omega
    ·rw [zAL]
     exact zAG (ob:=⟨true,ints xs⟩) (by simp only [AHeap.new,if_true]) rfl
    ·rw [zAL];simp only [AHeap.new,if_true]
 ·have hn:xs=[]:=List.eq_nil_of_length_eq_zero (by omega)
  subst hn;obtain⟨p,c,rfl⟩:∃p c,cv=.slice p 0 c:=by
   rcases f with ⟨rfl,_,_⟩|⟨o,off,cap,rfl,_⟩
   ·exact⟨none,0,v1'⟩
   ·cases cap with
    | known c=>obtain⟨l,a,_,e,_⟩:=v1';exact⟨_,_,e⟩
    | grown e=>obtain⟨l,c,f,_,e,_⟩:=v1';exact⟨_,_,e⟩
  refine(zFD p c P wd hx).mono ?_
  rintro e w' ⟨rfl,b⟩
  have m1:=zGU m b;refine⟨.tup [.agg [.nils,.int .i64 0],.int .i64 0],h,j,_,rfl,FR.refl _ _,m1,?_,?_⟩
  ·exact⟨[_,_],⟨_,_,rfl,⟨[_,_],⟨_,_,rfl,rfl,_,_,rfl,rfl,rfl⟩,rfl⟩,_,_,rfl,rfl,rfl⟩,rfl⟩
  ·exact⟨.tup [.agg [.fz true .nils 0 [],.int .i64 0],.int .i64 0],σ,ι,Z,r,Aft.refl r,⟨⟨⟨.inl ⟨rfl,rfl,rfl⟩,trivial⟩,trivial,trivial⟩,trivial,trivial⟩,rfl,hK _ ⟨true,_,rfl⟩⟩
end Go.Proofs
namespace Go.Proofs.YtcbdjookdepkbaaGreat
open Go.ChangeShapes Go.WideShapes Go.ChangeAt Go.RowKit Go.Ab Go.Joins Go.Lie Go.Proofs
variable {H:Type} {enc:TypeId×Value→H} {W w0:World} {j:Inj} {h:AHeap}
theorem cell8:Tryz.prog.cellsOf 5=1:=by kernel_rfl
theorem lay8:Lay1 enc Tryz.prog W 5 (fun pv (n:Int)=>pv=.int .u8 n∧0≤n∧n≤255):=by
 intro w0 j h held fuel v x m hx;obtain⟨n,hn,_,hw⟩:=DataW.trod_int Tryz.underlying5 hx;simp only [List.cons.injEq,and_true]at hn
 subst hn;simp only [Lit.wf,Bool.and_eq_true,decide_eq_true_eq]at hw
 have h1:IntKind.u8.min=0:=by rfl
 have h2:IntKind.u8.max=255:=by rfl
 rw [h1,h2]at hw
 exact⟨j,h,.int .u8 n,n,m,Inj.le.refl _,Ext.refl m.wf,rfl,trivial,rfl,rfl,hw.1,hw.2⟩
theorem FL.bytes {v:PV} {xs:List Int} (h:FL (fun pv (n:Int)=>pv=.int .u8 n∧0≤n∧n≤255) v xs):FB v xs:=by
 obtain⟨w,a,rows,rfl,hr⟩:=h;refine⟨w,a,?_⟩
 congr 1
 apply List.ext_getElem?;intro k;rw [List.getElem?_map];rcases Nat.lt_or_ge k xs.length with x|x
 ·obtain⟨pv,h1,h2⟩:=hr.get x
  rw [h1,gi x,h2.1];rfl
 ·rw [List.getElem?_eq_none (by rw [hr.1];exact x),List.getElem?_eq_none x];rfl
theorem layB:Lay1 enc Tryz.prog W 22 (fun v (xs:List Int)=>FB v xs∧∀b∈xs,0≤b∧b≤255):=by
 intro w0 j h held fuel v x m hx;obtain⟨j',h',pv,a,g1,g2,g3,g4,g5,g6,g7,g8⟩:=zJu Tryz.underlying22 cell8 lay8 w0 j h held fuel v x m hx;exact⟨j',h',pv,a,g1,g2,g3,g4,g5,g6,FL.bytes g7,g7.all fun _ _ k=>k.2⟩
end Go.Proofs.YtcbdjookdepkbaaGreat
