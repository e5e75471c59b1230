/- . -/
import Derived.Test.YtgkbfiilhocioaaGreatHAbPn
import Derived.Test.YtgkbfiilhocioaaGreatHP6
import Derived.Test.YtgkbfiilhocioaaGreatRows
import Derived.Lib.SmallJoins
import Derived.WalkKit
import Derived.ProofKit
open Nat renaming le_refl→vM
open Nat renaming left_eq_add->dR,add_eq_left->dQ,succ_ne_self->dO,one_ne_zero->dN,add_left_cancel_iff->dM,add_assoc->dL,reduceLeDiff->dK,le_refl->dJ,lt_add_one->dI,reduceEqDiff->bA,reduceBEq->bu,reduceAdd->bt,mul_one->bp,zero_add->bn,add_zero->bm
open Int renaming reduceNatCast'->ae,toNat_natCast->eo,reduceEq->eh,reduceLT->eg,reduceLE->ef,reduceNeg->ee
open List renaming getElem?_cons_zero->ec,getElem?_cons_succ->dZ,take_succ_cons->dY,take_zero->dX,drop_succ_cons->dW,drop_zero->dV,take_nil->dU,drop_nil->dT,map_cons->dS,map_nil->bM,nil_append->bK,cons_append->bJ,all_cons->bH,all_nil->bG,length_cons->bF,length_nil->bE,contains_cons->bD,contains_nil->bB
open Bool renaming not_true->eP,not_false->eN,and_true->eM,true_and->eK,and_self->eJ,true_eq_false->eH,false_eq_true->eG,or_false->eF,or_true->eE,true_or->bV,false_or->bU
open Option renaming map_some->dH,map_none->dG
set_option maxRecDepth 100000
set_option linter.unusedVariables false
set_option linter.unusedSimpArgs false
namespace Go.Grp
open Go.Ab Go.Lie
variable{α:Type}{O:L3}{P:L4}{C:L5}{S:α->Prop}{m:α->α->α}{e:α}{h:Nat->α}{d i:Nat}
theorem zFi(s:Shp O P C)(M:Mon S m e)(r:Rel O P C S m e h 0)(hi:i<O.length){x:L3}(hx:TT O (i+1) x):
  TT O (i+1) (img O C (mu O P C (O.length-1-i)) i x)/\m (Ph O m e h (O.length-1-i) x) (h i)=m (h i) (Ph O m e h (O.length-1-i) (img O C (mu O P C (O.length-1-i)) i x)):=by
 have e1:O.length-(O.length-1-i)=i+1:=by omega
 have e3:O.length-(i+1)=O.length-1-i:=by omega
 have hS:=r.mem i (Nat.zero_le _) hi;have ih:∀{a b:L3},TT O (i+1) a->TT O (i+1) b->Ph O m e h (O.length-1-i) (mu O P C (O.length-1-i) a b)=m (Ph O m e h (O.length-1-i) a) (Ph O m e h (O.length-1-i) b):=λh1 h2=>dyck s M r (by omega) (by rw[e1];exact h1) (by rw[e1];exact h2);have cl:∀{a b:L3},TT O (i+1) a->TT O (i+1) b->TT O (i+1) (mu O P C (O.length-1-i) a b):=λh1 h2=>by have:=mu_tt s (d:=O.length-1-i) (by omega) (a:=_) (b:=_) (by rw[e1];exact h1) (by rw[e1];exact h2);rw[e1]at this;exact this
 have ck:∀x,S (Ph O m e h (O.length-1-i) x):=λx=>Ph_in M r (by omega) x;have hc:∀j,i+1<=j->j<i+1+(O.length-1-i)->TT O (i+1) (cvec C i j):=λj h1 h2=>s.cj i j (by omega) (by omega);have fF:TT O (i+1) (zv O):=s.zv _;obtain⟨f1,f2⟩:=Ph_fo M (T:=TT O (i+1)) (mm:=mu O P C (O.length-1-i)) (F:=Ph O m e h (O.length-1-i)) (λa b h1 h2=>⟨cl h1 h2,ih h1 h2⟩) (c:=cvec C i) (x:=nx x) hc fF;refine⟨f1,?_⟩;unfold img;rw[f2,Ph_zv M,M.fo_eq (λj _ _=>ck _) M.one,M.l1 (M.ph λj _ _=>ck _)];show m (ph m e h (nx x) (O.length-(O.length-1-i)) (O.length-1-i)) (h i)=_;rw[e1];refine M.past_ph hS λj h1 h2=>⟨r.mem j (by omega) (by omega),ck _,?_⟩
 have:=r.cj i j (Nat.zero_le _) (by omega) (by omega)
 rw[e3]at this;exact this
theorem zQ0(s:Shp O P C)(M:Mon S m e)(r:Rel O P C S m e h 0)(hi:i<O.length):∀(k:Nat) {x:L3},TT O (i+1) x->
  TT O (i+1) (iter (img O C (mu O P C (O.length-1-i)) i) k x)/\m (Ph O m e h (O.length-1-i) x) (pw m e (h i) k)=m (pw m e (h i) k) (Ph O m e h (O.length-1-i) (iter (img O C (mu O P C (O.length-1-i)) i) k x)):=by
 have hS:=r.mem i (Nat.zero_le _) hi;have ck:∀x,S (Ph O m e h (O.length-1-i) x):=λx=>Ph_in M r (by omega) x;intro k
 induction k with
 |zero=>exactλ{x} hx=>⟨hx,by show m _ e=m e _;rw[M.r1 (ck x)];exact(M.l1 (ck x)).symm⟩
 |succ k ik=>
  intro x hx;obtain⟨g1,g2⟩:=zFi s M r hi hx;obtain⟨g3,g4⟩:=ik g1;refine⟨g3,?_⟩;show m _ (m (pw m e (h i) k) (h i))=m (m (pw m e (h i) k) (h i)) (Ph O m e h _ (iter _ k (img O C _ i x)));rw[M.pw_comm hS,<-M.as (ck _) hS (M.pw hS k),g2,M.as hS (ck _) (M.pw hS k),g4,<-M.as hS (M.pw hS k) (ck _)]
theorem Cons.of_rel(s:Shp O P C)(G:Gp S m e)(r:Rel O P C S m e h 0)(inj:∀i,i<O.length->∀x y,TT O (i+1) x->TT O (i+1) y->Ph O m e h (O.length-1-i) x=Ph O m e h (O.length-1-i) y->x=y)(low:∀i j x,i<j->j<O.length->TT O (j+1) x->Ph O m e h (O.length-1-i) x=Ph O m e h (O.length-(j+1)) x)(un:∀i j,i<j->j<O.length->Ph O m e h (O.length-1-i) (unit O j)=h j):Cons O P C:=by
 have M:=G.toMon;intro i hi;have e1:O.length-(O.length-1-i)=i+1:=by omega
 have e3:O.length-(i+1)=O.length-1-i:=by omega
 have hS:=r.mem i (Nat.zero_le _) hi;have ck:∀x,S (Ph O m e h (O.length-1-i) x):=λx=>Ph_in M r (by omega) x;have ih:∀{a b:L3},TT O (i+1) a->TT O (i+1) b->Ph O m e h (O.length-1-i) (mu O P C (O.length-1-i) a b)=m (Ph O m e h (O.length-1-i) a) (Ph O m e h (O.length-1-i) b):=λh1 h2=>dyck s M r (by omega) (by rw[e1];exact h1) (by rw[e1];exact h2);have cl:∀{a b:L3},TT O (i+1) a->TT O (i+1) b->TT O (i+1) (mu O P C (O.length-1-i) a b):=λh1 h2=>by have:=mu_tt s (d:=O.length-1-i) (by omega) (a:=_) (b:=_) (by rw[e1];exact h1) (by rw[e1];exact h2);rw[e1]at this;exact this
 have sF:∀j,i<j->j<O.length->m (h j) (h i)=m (h i) (Ph O m e h (O.length-1-i) (cvec C i j)):=λj h1 h2=>by have:=r.cj i j (Nat.zero_le _) h1 h2;rw[e3]at this;exact this
 have tK:∀{a:L3},TT O (i+1) a->∀k,TT O (i+1) (pw (mu O P C (O.length-1-i)) (zv O) a k)/\Ph O m e h (O.length-1-i) (pw (mu O P C (O.length-1-i)) (zv O) a k)=pw m e (Ph O m e h (O.length-1-i) a) k:=λ{a} ha k=>by
  induction k with
  |zero=>exact⟨s.zv _,Ph_zv M _⟩
  |succ k ik=>exact⟨cl ik.1 ha,by show Ph O m e h _ (mu O P C _ (pw _ _ a k) a)=m _ _;rw[ih ik.1 ha,ik.2]⟩
 have xg:∀j,i<j->j<O.length->∀k,m (pw m e (h j) k) (h i)=m (h i) (pw m e (Ph O m e h (O.length-1-i) (cvec C i j)) k):=λj h1 h2 k=>by
  have hj:=r.mem j (Nat.zero_le _) h2
  induction k with
  |zero=>show m e (h i)=m (h i) e;rw[M.l1 hS,M.r1 hS]
  |succ k ik=>
   show m (m (pw m e (h j) k) (h j)) (h i)=m (h i) (m (pw m e _ k) _);rw[M.as (M.pw hj k) hj hS,sF j h1 h2,<-M.as (M.pw hj k) hS (ck _),ik,M.as hS (M.pw (ck _) k) (ck _)]
 have ti:∀j,i<j->j<O.length->TT O (i+1) (cvec C i j):=λj h1 h2=>s.cj i j h1 h2;have tp:∀j,i<=j->j<O.length->TT O (i+1) (pvec P j):=λj h1 h2=>(s.pw j h2).mono (by omega);refine⟨λj h1 h2=>?_,λj k h1 h2 h3=>?_,?_,λj h1 h2=>?_⟩
 .obtain⟨a1,a2⟩:=tK (ti j h1 h2) (nx O j);obtain⟨b1,b2⟩:=zFi s M r hi (tp j (by omega) h2);refine inj i hi _ _ a1 b1 (G.cancel hS (ck _) (ck _) ?_);rw[a2,<-xg j h1 h2,<-b2,low i j _ h1 h2 (s.pw j h2),r.pow j (Nat.zero_le _) h2]
 .have tc:TT O (i+1) (cvec C j k):=(s.cj j k h2 h3).mono (by omega);obtain⟨b1,b2⟩:=zFi s M r hi tc;have hj:=r.mem j (Nat.zero_le _) (by omega);have hk:=r.mem k (Nat.zero_le _) h3;refine inj i hi _ _ (cl (ti k (by omega) h3) (ti j h1 (by omega))) (cl (ti j h1 (by omega)) b1) (G.cancel hS (ck _) (ck _) ?_);rw[ih (ti k (by omega) h3) (ti j h1 (by omega)),ih (ti j h1 (by omega)) b1,<-M.as hS (ck _) (ck _),<-sF k (by omega) h3,M.as hk hS (ck _),<-sF j h1 (by omega),<-M.as hk hj hS,<-M.as hS (ck _) (ck _),<-sF j h1 (by omega),M.as hj hS (ck _),<-b2,<-M.as hj (ck _) hS,r.cj j k (Nat.zero_le _) h2 h3,low i j _ h1 (by omega) (s.cj j k h2 h3)]
 .obtain⟨b1,b2⟩:=zFi s M r hi (tp i (vM _) hi);have hp:=r.pow i (Nat.zero_le _) hi;rw[e3]at hp;refine inj i hi _ _ b1 (tp i (vM _) hi) (G.cancel hS (ck _) (ck _) ?_);rw[<-b2,<-hp,M.pw_comm hS]
 .obtain⟨b1,b2⟩:=zQ0 s M r hi (nx O i) (s.unit h2 (by omega):TT O (i+1) (unit O j));have hp:=r.pow i (Nat.zero_le _) hi;rw[e3]at hp;refine inj i hi _ _ (cl (tp i (vM _) hi) b1) (cl (s.unit h2 (by omega)) (tp i (vM _) hi)) ?_;rw[ih (tp i (vM _) hi) b1,ih (s.unit h2 (by omega)) (tp i (vM _) hi),<-hp,b2]
end Go.Grp
namespace Go.Lie
open Go.Ab
variable{p:Int}{n:Nat}{W:L4}
theorem Canon.els{L u:L4}(c:Canon p n W L u):∀v∈u,El p n v:=c.base.els
theorem Canon.len{L u:L4}(c:Canon p n W L u):u.length<=n:=QK (λv hv=>(c.base.led v hv).2.1) c.base.asc
end Go.Lie
namespace Go.Proofs
open Go.Ab
def if4:IFn:=⟨[0,1],[(.tmp 4)],(S0 (R0 [1,2] [eI 2 (.box (.t 0)),tI0 4 false])
 (S0 (R0 [1,2,5] [kI0 5 1048576])
 (S0 (R0 [1,2,5] [LI0 17 2,mI0 18 5,C2 19 11 17 18,mI0 5 19])
 (S0 (.seq (R0 [1,2,5,21] [mI0 20 5,cI0 21 .lss 20 0])
 (.cond (.t 21) (S0 (R0 [4] [tI0 4 true])
 .ret) .skip))
 (S0 (R0 [1,2,5] [mI0 22 1,mI0 23 5,C2 24 12 22 23,mI0 5 24])
 (S0 (.seq (R0 [1,2,26] [mI0 25 5,cI0 26 .lss 25 0])
 (.cond (.t 26) (S0 (R0 [4] [tI0 4 true])
 .ret) .skip))
 (S0 (R0 [1,2,6,7] [LI0 28 2,C1 29 14 28,mI0 30 1,C1 31 15 30,C2 32 22 29 31,mI0 27 32,eI0 33 27 0,eI0 34 27 1,mI0 6 33,mI0 7 34])
 (S0 (R0 [1,2,6,7,8] [LI0 35 2,C1 36 14 35,eI 8 (.alloc [(.int .i64 0),.nils,.nils]),vI0 3 8 36])
 (S0 (R0 [1,2,6,7,8,9] [mI0 37 1,C1 38 15 37,mI0 9 38])
 (S0 (R0 [1,2,6,7,8,9,10,11] [LI0 40 8,mI0 41 9,C2 42 23 40 41,mI0 39 42,eI0 43 39 0,eI0 44 39 1,mI0 10 43,mI0 11 44])
 (S0 (.seq (R0 [1,2,6,7,8,9,10,11,53] [mI0 45 10,mI0 46 6,C2 47 17 45 46,nI0 48 47,mI0 49 48,gm0 50 11 49 false,gm0 51 7 49 false,G0 52 (.bin .neq .other (.t 50) (.t 51)) true 49 false,oI0 53 49 52])
 (.cond (.t 53) (S0 (R0 [4] [tI0 4 false])
 .ret) .skip))
 (S0 (.seq (.draw [1,2,6,7,8,9,10,11,58] [] [qD 54 (.load true 3 (.t 8)) 0,qD 55 (.load true 3 (.t 2)) 1,eD 56 (.call 14 [(.t 55)]) 2 [0],eD 57 (.call 18 [(.t 54),(.t 56)]) 3 [],qD 58 (.un .not (.t 57)) 4])
 (.cond (.t 58) (S0 (R0 [4] [tI0 4 false])
 .ret) .skip))
 (S0 (.seq (R0 [1,2,6,7,8,9,10,11,63] [mI0 59 9,mI0 60 1,C1 61 15 60,C2 62 17 59 61,nI0 63 62])
 (.cond (.t 63) (S0 (R0 [4] [tI0 4 false])
 .ret) .skip))
 (S0 (R0 [1,2,6,7,8,9,10,11,12] [kI0 12 1])
 (S0 (R0 [1,2,6,7,9,10,11,12] [LI0 64 8,mI0 65 12,C2 66 19 64 65,mI0 12 66])
 (S0 (R0 [1,2,6,7,10,11,12] [mI0 67 9,mI0 68 12,C2 69 20 67 68,mI0 12 69])
 (S0 (.seq (R0 [1,2,6,7,10,82] [mI0 70 12,cI0 71 .lss 70 0,mI0 72 71,gm0 73 10 72 false,gm0 74 6 72 false,G0 75 (.call 17 [(.t 73),(.t 74)]) false 72 false,G0 76 (.un .not (.t 75)) true 72 false,oI0 77 72 76,mI0 78 77,gm0 79 11 78 false,gm0 80 7 78 false,G0 81 (.bin .neq .other (.t 79) (.t 80)) true 78 false,oI0 82 78 81])
 (.cond (.t 82) (S0 (R0 [4] [tI0 4 false])
 .ret) .skip))
 (S0 (R0 [1,2,6,7,10,13] [kI0 13 1])
 (S0 (R0 [1,2,6,7,10,13] [mI0 83 10,mI0 84 13,C2 85 20 83 84,mI0 13 85])
 (S0 (R0 [1,2,6,7,10,13,14] [kI0 14 1])
 (S0 (R0 [1,2,6,7,10,13,14] [mI0 86 10,mI0 87 14,C2 88 21 86 87,mI0 14 88])
 (S0 (.seq (R0 [1,2,6,7,10,13,14,90] [mI0 89 14,cI0 90 .lss 89 0])
 (.cond (.t 90) (S0 (R0 [4] [tI0 4 false])
 .ret) .skip))
 (S0 (.seq (R0 [1,2,6,7,10,13,93] [mI0 91 14,mI0 92 13,bI0 93 .neq 91 92])
 (.cond (.t 93) (S0 (R0 [4] [tI0 4 false])
 .ret) .skip))
 (S0 (R0 [6,7,10,13,15,16] [LI0 95 2,C1 96 14 95,mI0 97 1,C1 98 15 97,C2 99 23 96 98,mI0 94 99,eI0 100 94 0,eI0 101 94 1,mI0 15 100,mI0 16 101])
 (S0 (.seq (R0 [10,13,110] [mI0 102 15,mI0 103 6,C2 104 17 102 103,nI0 105 104,mI0 106 105,gm0 107 16 106 false,gm0 108 7 106 false,G0 109 (.bin .neq .other (.t 107) (.t 108)) true 106 false,oI0 110 106 109])
 (.cond (.t 110) (S0 (R0 [4] [tI0 4 false])
 .ret) .skip))
 (S0 (R0 [10,13,14] [kI0 14 1])
 (S0 (R0 [13,14] [mI0 111 10,mI0 112 14,C2 113 21 111 112,mI0 14 113])
 (S0 (.seq (R0 [13,14,115] [mI0 114 14,cI0 115 .lss 114 0])
 (.cond (.t 115) (S0 (R0 [4] [tI0 4 false])
 .ret) .skip))
 (S0 (.seq (R0 [118] [mI0 116 14,mI0 117 13,bI0 118 .neq 116 117])
 (.cond (.t 118) (S0 (R0 [4] [tI0 4 false])
 .ret) .skip))
 (S0 (R0 [4] [tI0 4 true])
 .ret))))))))))))))))))))))))))))))⟩
theorem cf4:cF Tryz.prog Tryz.f4=some if4:=by kernel_rfl
end Go.Proofs
namespace Go.Proofs.YtgkbfiilhocioaaGreat
open Go.ChangeShapes Go.WideShapes Go.ChangeAt Go.RowKit Go.Ab Go.Joins Go.Lie Go.Proofs
theorem own:ownKnob Tryz.prog.godebug=none:=by kernel_rfl
theorem laidOut:laidOutB Tryz.prog=true:=by kernel_rfl
theorem zSH:Tryz.prog.cellsOf 22=1:=by kernel_rfl
theorem cell2:Tryz.prog.cellsOf 2=1:=by kernel_rfl
theorem zSF:Tryz.prog.cellsOf 43=1:=by kernel_rfl
theorem zSG:Tryz.prog.cellsOf 25=3:=by kernel_rfl
variable{H:Type}{enc:TypeId×Value->H}{W w0:World}{j:Inj}{h:AHeap}
def LII(v:PV)(xs:L4):Prop:=FII v xs/\xs.length<=9223372036854775807/\∀x∈xs,x.length<=9223372036854775807
def LIII(v:PV)(xs:L5):Prop:=FIII v xs/\xs.length<=9223372036854775807/\∀q∈xs,q.length<=9223372036854775807/\∀x∈q,x.length<=9223372036854775807
theorem layI:Lay1 enc Tryz.prog W 43 (λv (xs:L3)=>FI v xs/\xs.length<=9223372036854775807):=zO6 (e:=2) Tryz.underlying43 cell2 Tryz.underlying2
theorem layII:Lay1 enc Tryz.prog W 22 LII:=by
 intro w0 j h held fuel v x m hx;obtain⟨j',h',pv,a,g1,g2,g3,g4,g5,g6,g7,g8⟩:=zDU Tryz.underlying22 zSF layI w0 j h held fuel v x m hx;exact⟨j',h',pv,a,g1,g2,g3,g4,g5,g6,g7.imp λ_ _ k=>k.1,g8,g7.all λ_ _ k=>k.2⟩
theorem zR3:Lay1 enc Tryz.prog W 23 LIII:=by
 intro w0 j h held fuel v x m hx;obtain⟨j',h',pv,a,g1,g2,g3,g4,g5,g6,g7,g8⟩:=zDU Tryz.underlying23 zSH layII w0 j h held fuel v x m hx;exact⟨j',h',pv,a,g1,g2,g3,g4,g5,g6,g7.imp λ_ _ k=>k.1,g8,g7.all λ_ _ k=>k.2⟩
set_option maxRecDepth 100000 in
theorem zR2{b0:Nat}{v:Value}{d:DataW H}{q:List MemPlace}(m:MR W.heap.size w0 j h W)(hv:Value.okWide Tryz.prog W .any b0 25 v)(ht:DataW.Trod enc Tryz.prog W 0 (λ_=>true) true 25 v d q):
  ∃(j':Inj) (h':AHeap) (p:Int) (vP vB:PV) (Ws:L4) (Bs:L5),MR W.heap.size w0 j' h' W/\j.le j'/\Ext h h'/\VI j' (er idz (.agg [.int .i64 p,vP,vB])) v/\VOK (zlt h') h' 0 (.agg [.int .i64 p,vP,vB])/\IsR vP vB Ws Bs/\MxR Ws Bs:=by
 obtain⟨v0,v1,v2,y0,y1,y2,n,rfl,rfl,rfl,t0,t1,t2⟩:=open_agg3 Tryz.underlying25 (by kernel_rfl) zSG hv ht;obtain⟨a,ha,_,_⟩:=DataW.trod_int Tryz.underlying2 t0;simp only[List.cons.injEq,and_true]at ha;subst ha;obtain⟨j1,h1,vP,Ws,m1,l1,e1,i1,o1,_,p1,p2,p3⟩:=layII w0 j h true n v1 _ m t1;obtain⟨j2,h2,vB,Bs,m2,l2,e2,i2,o2,_,q1,q2,q3⟩:=zR3 w0 j1 h1 true n v2 _ m1 t2;exact⟨j2,h2,a,vP,vB,Ws,Bs,m2,l1.trans l2,e1.trans e2,⟨_,⟨_,_,rfl,rfl,_,_,rfl,VI.mono l2 _ _ i1,_,_,rfl,i2,rfl⟩,rfl⟩,⟨trivial,e2.vok o1,o2,trivial⟩,⟨p1,q1⟩,⟨p2,p3,q2,q3⟩⟩
end Go.Proofs.YtgkbfiilhocioaaGreat
namespace Go.Proofs
open Go.Ab Go.Lie
section
variable{h:AHeap}{K:AV->AHeap->Prop}
theorem zH3{v:PV}{xs:L3}{k:Int}(hI:FI v xs)(hW:Wh v)(hw:HWF h)(hv:VOK (zlt h) h 0 v)(hb:xs.length<=4294967296)(df:0<=k)(e7:k<=4611686018427387904)
  (hk:∀h',Upd h (mkI k v xs) h'->K (.int .i64 (k+xs.length)) h'):ZK Tryz.prog 100 [er idz v,.int .i64 k] h K:=by
 refine QU mix Tryz.func100 cf100 rfl ?_;dsimp only[if100,mI0,kI0,xI0,bI0,cI0,sI0,vI0,R0,S0];by_cases ai:xs=[]
 .subst ai;have hlen:aLen (er idz v)=some (.int .i64 ((0:Nat):Int)):=by
   obtain⟨w,a,rfl⟩:=hI;obtain⟨rfl,_⟩|⟨o,off,cap,rfl,_⟩:=hv.1<;>rfl
  simp only[nm_eq,nm_eq,abQ,↓reduceIte,eo,qc,qz,qW,dR,dQ,dO,dN,dM,dL,ec,dZ,dY,dX,dW,dV,dU,dT,dK,dJ,qC,zf,zV,zW,zN,dI,eh,eg,ef,ee,qi,qj,qV,zn,qE,zg,zh,recOf,zi,zR,zT,zl,qK,dS,bM,bA,if_true,if_false,ite_true,ite_false,bK,bJ,dH,dG,reduceCtorEq,decide_true,decide_false,eP,eN,zw,ze,zo,zZ,zq,zY,qX,zb,z8,qA,bH,bG,qg,qU,qd,qQ,qf,qP,ZA,qR,qh,bF,bE,eM,eK,eJ,true_and,and_true,eH,eG,bD,bB,eF,eE,bV,bU,eq_self,bu,bt,bp,bn,bm];refine zBL (λm vs h'=>vs=[er idz v,.int .i64 k,.int .i64 0]/\h'=h) 0 ⟨rfl,rfl⟩ ?_
  rintro m vs h' ⟨rfl,rfl⟩
  simp only[nm_eq,nm_eq,abQ,↓reduceIte,eo,qc,qz,qW,dR,dQ,dO,dN,dM,dL,ec,dZ,dY,dX,dW,dV,dU,dT,dK,dJ,qC,zf,zV,zW,zN,dI,eh,eg,ef,ee,qi,qj,qV,zn,qE,zg,zh,recOf,zi,zR,zT,zl,qK,dS,bM,bA,if_true,if_false,ite_true,ite_false,bK,bJ,dH,dG,reduceCtorEq,decide_true,decide_false,eP,eN,zw,ze,zo,zZ,zq,zY,qX,zb,z8,qA,bH,bG,qg,qU,qd,qQ,qf,qP,ZA,qR,qh,bF,bE,eM,eK,eJ,true_and,and_true,eH,eG,bD,bB,eF,eE,bV,bU,eq_self,bu,bt,bp,bn,bm,hlen,Int.lt_irrefl]
  have:=hk h' (Upd.refl hw)
  simpa using this
 .obtain⟨w,a,rfl⟩:=hI;obtain⟨nJ,_,_⟩:=hW.resolve_left (zAr ai);obtain⟨o,cap,rfl,ho,hz⟩:=hv.whole nJ (zAr ai);have cn:h.obj o=some ⟨true,ints xs⟩:=by rw[ho,Ql];congr 2;simp only[pis,ints,List.map_map];rfl
  simp only[nm_eq,nm_eq,abQ,↓reduceIte,eo,qc,qz,qW,dR,dQ,dO,dN,dM,dL,ec,dZ,dY,dX,dW,dV,dU,dT,dK,dJ,qC,zf,zV,zW,zN,dI,eh,eg,ef,ee,qi,qj,qV,zn,qE,zg,zh,recOf,zi,zR,zT,zl,qK,dS,bM,bA,if_true,if_false,ite_true,ite_false,bK,bJ,dH,dG,reduceCtorEq,decide_true,decide_false,eP,eN,zw,ze,zo,zZ,zq,zY,qX,zb,z8,qA,bH,bG,qg,qU,qd,qQ,qf,qP,ZA,qR,qh,bF,bE,eM,eK,eJ,true_and,and_true,eH,eG,bD,bB,eF,eE,bV,bU,eq_self,bu,bt,bp,bn,bm,er];refine zBL (λm vs h'=>∃i:Nat,i<=xs.length/\m=xs.length-i/\vs=[.sl o 0 xs.length cap,.int .i64 (k+i),.int .i64 i]/\h'=h.set o (ints ((seqI k xs.length).take i++xs.drop i))) xs.length ?_ ?_
  .exact⟨0,by omega,by omega,(by(simp only[nm_eq,nm_eq,abQ,↓reduceIte,eo,qc,qz,qW,dR,dQ,dO,dN,dM,dL,ec,dZ,dY,dX,dW,dV,dU,dT,dK,dJ,qC,zf,zV,zW,zN,dI,eh,eg,ef,ee,qi,qj,qV,zn,qE,zg,zh,recOf,zi,zR,zT,zl,qK,dS,bM,bA,if_true,if_false,ite_true,ite_false,bK,bJ,dH,dG,reduceCtorEq,decide_true,decide_false,eP,eN,zw,ze,zo,zZ,zq,zY,qX,zb,z8,qA,bH,bG,qg,qU,qd,qQ,qf,qP,ZA,qR,qh,bF,bE,eM,eK,eJ,true_and,and_true,eH,eG,bD,bB,eF,eE,bV,bU,eq_self,bu,bt,bp,bn,bm,List.cons.injEq,AV.int.injEq,AV.sl.injEq,and_self])<;>omega),by simp[set_self cn]⟩
  .rintro m vs h' ⟨i,hi,rfl,rfl,rfl⟩
   simp only[nm_eq,nm_eq,abQ,↓reduceIte,eo,qc,qz,qW,dR,dQ,dO,dN,dM,dL,ec,dZ,dY,dX,dW,dV,dU,dT,dK,dJ,qC,zf,zV,zW,zN,dI,eh,eg,ef,ee,qi,qj,qV,zn,qE,zg,zh,recOf,zi,zR,zT,zl,qK,dS,bM,bA,if_true,if_false,ite_true,ite_false,bK,bJ,dH,dG,reduceCtorEq,decide_true,decide_false,eP,eN,zw,ze,zo,zZ,zq,zY,qX,zb,z8,qA,bH,bG,qg,qU,qd,qQ,qf,qP,ZA,qR,qh,bF,bE,eM,eK,eJ,true_and,and_true,eH,eG,bD,bB,eF,eE,bV,bU,eq_self,bu,bt,bp,bn,bm];split
   .have ag:i<xs.length:=by omega
    simp only[nm_eq,nm_eq,abQ,↓reduceIte,eo,qc,qz,qW,dR,dQ,dO,dN,dM,dL,ec,dZ,dY,dX,dW,dV,dU,dT,dK,dJ,qC,zf,zV,zW,zN,dI,eh,eg,ef,ee,qi,qj,qV,zn,qE,zg,zh,recOf,zi,zR,zT,zl,qK,dS,bM,bA,if_true,if_false,ite_true,ite_false,bK,bJ,dH,dG,reduceCtorEq,decide_true,decide_false,eP,eN,zw,ze,zo,zZ,zq,zY,qX,zb,z8,qA,bH,bG,qg,qU,qd,qQ,qf,qP,ZA,qR,qh,bF,bE,eM,eK,eJ,true_and,and_true,eH,eG,bD,bB,eF,eE,bV,bU,eq_self,bu,bt,bp,bn,bm,zC0 ag,wrapS ag (by omega:xs.length<=4611686018427387904),wrap64 (n:=k+(i:Int)+1) (by omega) (by omega)];have AT:i<(seqI k xs.length).length:=by rw[QN];exact ag
    rw[zE9 (zCg _ _) (by rw[zEU];simp[QN];omega) rfl,zR];refine⟨_,by omega,i+1,by omega,rfl,(by(simp only[nm_eq,nm_eq,abQ,↓reduceIte,eo,qc,qz,qW,dR,dQ,dO,dN,dM,dL,ec,dZ,dY,dX,dW,dV,dU,dT,dK,dJ,qC,zf,zV,zW,zN,dI,eh,eg,ef,ee,qi,qj,qV,zn,qE,zg,zh,recOf,zi,zR,zT,zl,qK,dS,bM,bA,if_true,if_false,ite_true,ite_false,bK,bJ,dH,dG,reduceCtorEq,decide_true,decide_false,eP,eN,zw,ze,zo,zZ,zq,zY,qX,zb,z8,qA,bH,bG,qg,qU,qd,qQ,qf,qP,ZA,qR,qh,bF,bE,eM,eK,eJ,true_and,and_true,eH,eG,bD,bB,eF,eE,bV,bU,eq_self,bu,bt,bp,bn,bm,List.cons.injEq,AV.int.injEq,AV.sl.injEq,and_self])<;>omega),?_⟩;rw[set_set,ints_set,<-zQs _ _ ag AT,zHT]
   .have aJ:i=xs.length:=by omega
    subst aJ;rw[List.take_of_length_le (by rw[QN];exact vM _),List.drop_length,List.append_nil];have ag:=hw.lt ho;refine hk _ ⟨vM _,hw.set ag _,λx hx hn=>zCf (λe=>?_) _,λx ms hx=>?_⟩
    .subst e;rw[mkI,if_neg ai]at hn;simp[aof]at hn
    .rw[mkI,if_neg ai]at hx;simp only[List.lookup_cons,List.lookup_nil,aof]at hx;split at hx
     .rename_i ui;cases hx;have ui:x=o:=by simpa using ui
      subst ui;refine⟨?_,zOi _,zAr λe=>?_,_,cn,by rw[zEU,zJ,QN]⟩
      .rw[zCg,Ql];congr 2;simp only[pis,ints,List.map_map];rfl
      .have:=QN xs.length k
       rw[e]at this;exact ai (List.eq_nil_of_length_eq_zero this.symm)
     .cases hx
theorem zA8{v:PV}{xs:L4}{k:Int}(hI:FII v xs)(hW:Wh v)(c7:(ead v).Nodup)(hw:HWF h)(hv:VOK (zlt h) h 0 v)(hb:xs.length<=4294967296)(dw:∀x∈xs,x.length<=4294967296)(df:0<=k)(e7:k+totL List.length xs<=4611686018427387904)
  (hk:∀h',Upd h (mkF mkI List.length k v xs) h'->K (.int .i64 (k+totL List.length xs)) h'):ZK Tryz.prog 20 [er idz v,.int .i64 k] h K:=by
 refine QU mix Tryz.func20 cf20 rfl ?_;dsimp only[if20,mI0,kI0,lI0,xI0,bI0,cI0,sI0,C2,R0,S0];obtain⟨w,a,rows,rfl,hr⟩:=hI;by_cases ai:rows=[]
 .have hx:=hr.nil_iff.1 ai;subst ai;subst hx;have hlen:aLen a=some (.int .i64 ((0:Nat):Int)):=by
   obtain⟨rfl,_⟩|⟨o,off,cap,rfl,_⟩:=hv.1<;>rfl
  simp only[nm_eq,nm_eq,abQ,↓reduceIte,eo,qc,qz,qW,dR,dQ,dO,dN,dM,dL,ec,dZ,dY,dX,dW,dV,dU,dT,dK,dJ,qC,zf,zV,zW,zN,dI,eh,eg,ef,ee,qi,qj,qV,zn,qE,zg,zh,recOf,zi,zR,zT,zl,qK,dS,bM,bA,if_true,if_false,ite_true,ite_false,bK,bJ,dH,dG,reduceCtorEq,decide_true,decide_false,eP,eN,zw,ze,zo,zZ,zq,zY,qX,zb,z8,qA,bH,bG,qg,qU,qd,qQ,qf,qP,ZA,qR,qh,bF,bE,eM,eK,eJ,true_and,and_true,eH,eG,bD,bB,eF,eE,bV,bU,eq_self,bu,bt,bp,bn,bm,er];refine zBL (λm vs h'=>vs=[a,.int .i64 k,.int .i64 0]/\h'=h) 0 ⟨rfl,rfl⟩ ?_
  rintro m vs h' ⟨rfl,rfl⟩
  simp only[nm_eq,nm_eq,abQ,↓reduceIte,eo,qc,qz,qW,dR,dQ,dO,dN,dM,dL,ec,dZ,dY,dX,dW,dV,dU,dT,dK,dJ,qC,zf,zV,zW,zN,dI,eh,eg,ef,ee,qi,qj,qV,zn,qE,zg,zh,recOf,zi,zR,zT,zl,qK,dS,bM,bA,if_true,if_false,ite_true,ite_false,bK,bJ,dH,dG,reduceCtorEq,decide_true,decide_false,eP,eN,zw,ze,zo,zZ,zq,zY,qX,zb,z8,qA,bH,bG,qg,qU,qd,qQ,qf,qP,ZA,qR,qh,bF,bE,eM,eK,eJ,true_and,and_true,eH,eG,bD,bB,eF,eE,bV,bU,eq_self,bu,bt,bp,bn,bm,hlen,Int.lt_irrefl]
  have:=hk h' (Upd.refl hw)
  simpa [totL]using this
 .obtain⟨nJ,_,kJ⟩:=hW.resolve_left ai;obtain⟨o,cap,rfl,ho,hz⟩:=hv.whole nJ ai;rw[zBn ai]at c7;obtain⟨n1,n2⟩:=List.nodup_cons.1 c7;simp only[nm_eq,nm_eq,abQ,↓reduceIte,eo,qc,qz,qW,dR,dQ,dO,dN,dM,dL,ec,dZ,dY,dX,dW,dV,dU,dT,dK,dJ,qC,zf,zV,zW,zN,dI,eh,eg,ef,ee,qi,qj,qV,zn,qE,zg,zh,recOf,zi,zR,zT,zl,qK,dS,bM,bA,if_true,if_false,ite_true,ite_false,bK,bJ,dH,dG,reduceCtorEq,decide_true,decide_false,eP,eN,zw,ze,zo,zZ,zq,zY,qX,zb,z8,qA,bH,bG,qg,qU,qd,qQ,qf,qP,ZA,qR,qh,bF,bE,eM,eK,eJ,true_and,and_true,eH,eG,bD,bB,eF,eE,bV,bU,eq_self,bu,bt,bp,bn,bm,er];refine zBL (λm vs h'=>∃i:Nat,i<=xs.length/\m=xs.length-i/\vs=[.sl o 0 xs.length cap,.int .i64 (k+totL List.length (xs.take i)),.int .i64 i]/\Upd h (mkS mkI List.length k (rows.take i) (xs.take i)) h') xs.length ?_ ?_
  .exact⟨0,by omega,by omega,by rw[List.take_zero,zEa];exact(by(simp only[nm_eq,nm_eq,abQ,↓reduceIte,eo,qc,qz,qW,dR,dQ,dO,dN,dM,dL,ec,dZ,dY,dX,dW,dV,dU,dT,dK,dJ,qC,zf,zV,zW,zN,dI,eh,eg,ef,ee,qi,qj,qV,zn,qE,zg,zh,recOf,zi,zR,zT,zl,qK,dS,bM,bA,if_true,if_false,ite_true,ite_false,bK,bJ,dH,dG,reduceCtorEq,decide_true,decide_false,eP,eN,zw,ze,zo,zZ,zq,zY,qX,zb,z8,qA,bH,bG,qg,qU,qd,qQ,qf,qP,ZA,qR,qh,bF,bE,eM,eK,eJ,true_and,and_true,eH,eG,bD,bB,eF,eE,bV,bU,eq_self,bu,bt,bp,bn,bm,List.cons.injEq,AV.int.injEq,AV.sl.injEq,and_self])<;>omega),by simp only[List.take_zero,zKV];exact Upd.refl hw⟩
  .rintro m vs h' ⟨i,hi,rfl,rfl,u⟩
   simp only[nm_eq,nm_eq,abQ,↓reduceIte,eo,qc,qz,qW,dR,dQ,dO,dN,dM,dL,ec,dZ,dY,dX,dW,dV,dU,dT,dK,dJ,qC,zf,zV,zW,zN,dI,eh,eg,ef,ee,qi,qj,qV,zn,qE,zg,zh,recOf,zi,zR,zT,zl,qK,dS,bM,bA,if_true,if_false,ite_true,ite_false,bK,bJ,dH,dG,reduceCtorEq,decide_true,decide_false,eP,eN,zw,ze,zo,zZ,zq,zY,qX,zb,z8,qA,bH,bG,qg,qU,qd,qQ,qf,qP,ZA,qR,qh,bF,bE,eM,eK,eJ,true_and,and_true,eH,eG,bD,bB,eF,eE,bV,bU,eq_self,bu,bt,bp,bn,bm];split
   .have ag:i<xs.length:=by omega
    obtain⟨v,fB,bX,kz,o6,uu,oZ⟩:=mkT_I.step hr kJ n2 hv.2 ag u;have iN:h'.rd1 o i=some (er idz v):=by
     rw[Qz (by rw[u.same o hz (ZW.2 λhm=>n1 (zGt (mkT_I.keysS (hr.take i) (Qp.2 λc hc=>Qp.1 kJ c (List.mem_of_mem_take hc)) o hm)))];exact ho)];rw[zAh,fB];rfl
    have ht:=zDD (len:=List.length) ag;have gE:=zF9 List.length xs (i+1);have iS:=dw _ (List.getElem_mem ag);simp only[nm_eq,nm_eq,abQ,↓reduceIte,eo,qc,qz,qW,dR,dQ,dO,dN,dM,dL,ec,dZ,dY,dX,dW,dV,dU,dT,dK,dJ,qC,zf,zV,zW,zN,dI,eh,eg,ef,ee,qi,qj,qV,zn,qE,zg,zh,recOf,zi,zR,zT,zl,qK,dS,bM,bA,if_true,if_false,ite_true,ite_false,bK,bJ,dH,dG,reduceCtorEq,decide_true,decide_false,eP,eN,zw,ze,zo,zZ,zq,zY,qX,zb,z8,qA,bH,bG,qg,qU,qd,qQ,qf,qP,ZA,qR,qh,bF,bE,eM,eK,eJ,true_and,and_true,eH,eG,bD,bB,eF,eE,bV,bU,eq_self,bu,bt,bp,bn,bm,zC0 ag,iN,wrapS ag (by omega:xs.length<=4611686018427387904)];refine zH3 bX kz u.wf uu iS (by omega) (by omega) λcN u'=>?_;simp only[nm_eq,nm_eq,abQ,↓reduceIte,eo,qc,qz,qW,dR,dQ,dO,dN,dM,dL,ec,dZ,dY,dX,dW,dV,dU,dT,dK,dJ,qC,zf,zV,zW,zN,dI,eh,eg,ef,ee,qi,qj,qV,zn,qE,zg,zh,recOf,zi,zR,zT,zl,qK,dS,bM,bA,if_true,if_false,ite_true,ite_false,bK,bJ,dH,dG,reduceCtorEq,decide_true,decide_false,eP,eN,zw,ze,zo,zZ,zq,zY,qX,zb,z8,qA,bH,bG,qg,qU,qd,qQ,qf,qP,ZA,qR,qh,bF,bE,eM,eK,eJ,true_and,and_true,eH,eG,bD,bB,eF,eE,bV,bU,eq_self,bu,bt,bp,bn,bm,wrapS ag (by omega:xs.length<=4611686018427387904)];exact⟨_,by omega,i+1,by omega,rfl,(by(simp only[nm_eq,nm_eq,abQ,↓reduceIte,eo,qc,qz,qW,dR,dQ,dO,dN,dM,dL,ec,dZ,dY,dX,dW,dV,dU,dT,dK,dJ,qC,zf,zV,zW,zN,dI,eh,eg,ef,ee,qi,qj,qV,zn,qE,zg,zh,recOf,zi,zR,zT,zl,qK,dS,bM,bA,if_true,if_false,ite_true,ite_false,bK,bJ,dH,dG,reduceCtorEq,decide_true,decide_false,eP,eN,zw,ze,zo,zZ,zq,zY,qX,zb,z8,qA,bH,bG,qg,qU,qd,qQ,qf,qP,ZA,qR,qh,bF,bE,eM,eK,eJ,true_and,and_true,eH,eG,bD,bB,eF,eE,bV,bU,eq_self,bu,bt,bp,bn,bm,List.cons.injEq,AV.int.injEq,AV.sl.injEq,and_self])<;>omega),oZ _ u'⟩
   .have aJ:i=xs.length:=by omega
    subst aJ;rw[List.take_length,List.take_of_length_le (by rw[hr.1];exact vM _)]at u;rw[List.take_length];exact hk _ u
theorem zGO{v:PV}{xs:L5}{k:Int}(hI:FIII v xs)(hW:Wh v)(c7:(ead v).Nodup)(hw:HWF h)(hv:VOK (zlt h) h 0 v)(hb:xs.length<=4294967296)(dw:∀x∈xs,x.length<=4294967296/\∀y∈x,y.length<=4294967296)(df:0<=k)(e7:k+totL (totL List.length) xs<=4611686018427387904)
  (hk:∀h',Upd h (mkF (mkF mkI List.length) (totL List.length) k v xs) h'->K (.int .i64 (k+totL (totL List.length) xs)) h'):ZK Tryz.prog 99 [er idz v,.int .i64 k] h K:=by
 refine QU mix Tryz.func99 cf99 rfl ?_;dsimp only[if99,mI0,kI0,lI0,xI0,bI0,cI0,sI0,C2,R0,S0];obtain⟨w,a,rows,rfl,hr⟩:=hI;by_cases ai:rows=[]
 .have hx:=hr.nil_iff.1 ai;subst ai;subst hx;have hlen:aLen a=some (.int .i64 ((0:Nat):Int)):=by
   obtain⟨rfl,_⟩|⟨o,off,cap,rfl,_⟩:=hv.1<;>rfl
  simp only[nm_eq,nm_eq,abQ,↓reduceIte,eo,qc,qz,qW,dR,dQ,dO,dN,dM,dL,ec,dZ,dY,dX,dW,dV,dU,dT,dK,dJ,qC,zf,zV,zW,zN,dI,eh,eg,ef,ee,qi,qj,qV,zn,qE,zg,zh,recOf,zi,zR,zT,zl,qK,dS,bM,bA,if_true,if_false,ite_true,ite_false,bK,bJ,dH,dG,reduceCtorEq,decide_true,decide_false,eP,eN,zw,ze,zo,zZ,zq,zY,qX,zb,z8,qA,bH,bG,qg,qU,qd,qQ,qf,qP,ZA,qR,qh,bF,bE,eM,eK,eJ,true_and,and_true,eH,eG,bD,bB,eF,eE,bV,bU,eq_self,bu,bt,bp,bn,bm,er];refine zBL (λm vs h'=>vs=[a,.int .i64 k,.int .i64 0]/\h'=h) 0 ⟨rfl,rfl⟩ ?_
  rintro m vs h' ⟨rfl,rfl⟩
  simp only[nm_eq,nm_eq,abQ,↓reduceIte,eo,qc,qz,qW,dR,dQ,dO,dN,dM,dL,ec,dZ,dY,dX,dW,dV,dU,dT,dK,dJ,qC,zf,zV,zW,zN,dI,eh,eg,ef,ee,qi,qj,qV,zn,qE,zg,zh,recOf,zi,zR,zT,zl,qK,dS,bM,bA,if_true,if_false,ite_true,ite_false,bK,bJ,dH,dG,reduceCtorEq,decide_true,decide_false,eP,eN,zw,ze,zo,zZ,zq,zY,qX,zb,z8,qA,bH,bG,qg,qU,qd,qQ,qf,qP,ZA,qR,qh,bF,bE,eM,eK,eJ,true_and,and_true,eH,eG,bD,bB,eF,eE,bV,bU,eq_self,bu,bt,bp,bn,bm,hlen,Int.lt_irrefl]
  have:=hk h' (Upd.refl hw)
  simpa [totL]using this
 .obtain⟨nJ,_,kJ⟩:=hW.resolve_left ai;obtain⟨o,cap,rfl,ho,hz⟩:=hv.whole nJ ai;rw[zBn ai]at c7;obtain⟨n1,n2⟩:=List.nodup_cons.1 c7;simp only[nm_eq,nm_eq,abQ,↓reduceIte,eo,qc,qz,qW,dR,dQ,dO,dN,dM,dL,ec,dZ,dY,dX,dW,dV,dU,dT,dK,dJ,qC,zf,zV,zW,zN,dI,eh,eg,ef,ee,qi,qj,qV,zn,qE,zg,zh,recOf,zi,zR,zT,zl,qK,dS,bM,bA,if_true,if_false,ite_true,ite_false,bK,bJ,dH,dG,reduceCtorEq,decide_true,decide_false,eP,eN,zw,ze,zo,zZ,zq,zY,qX,zb,z8,qA,bH,bG,qg,qU,qd,qQ,qf,qP,ZA,qR,qh,bF,bE,eM,eK,eJ,true_and,and_true,eH,eG,bD,bB,eF,eE,bV,bU,eq_self,bu,bt,bp,bn,bm,er];refine zBL (λm vs h'=>∃i:Nat,i<=xs.length/\m=xs.length-i/\vs=[.sl o 0 xs.length cap,.int .i64 (k+totL (totL List.length) (xs.take i)),.int .i64 i]/\Upd h (mkS (mkF mkI List.length) (totL List.length) k (rows.take i) (xs.take i)) h') xs.length ?_ ?_
  .exact⟨0,by omega,by omega,by rw[List.take_zero,zEa];exact(by(simp only[nm_eq,nm_eq,abQ,↓reduceIte,eo,qc,qz,qW,dR,dQ,dO,dN,dM,dL,ec,dZ,dY,dX,dW,dV,dU,dT,dK,dJ,qC,zf,zV,zW,zN,dI,eh,eg,ef,ee,qi,qj,qV,zn,qE,zg,zh,recOf,zi,zR,zT,zl,qK,dS,bM,bA,if_true,if_false,ite_true,ite_false,bK,bJ,dH,dG,reduceCtorEq,decide_true,decide_false,eP,eN,zw,ze,zo,zZ,zq,zY,qX,zb,z8,qA,bH,bG,qg,qU,qd,qQ,qf,qP,ZA,qR,qh,bF,bE,eM,eK,eJ,true_and,and_true,eH,eG,bD,bB,eF,eE,bV,bU,eq_self,bu,bt,bp,bn,bm,List.cons.injEq,AV.int.injEq,AV.sl.injEq,and_self])<;>omega),by simp only[List.take_zero,zKV];exact Upd.refl hw⟩
  .rintro m vs h' ⟨i,hi,rfl,rfl,u⟩
   simp only[nm_eq,nm_eq,abQ,↓reduceIte,eo,qc,qz,qW,dR,dQ,dO,dN,dM,dL,ec,dZ,dY,dX,dW,dV,dU,dT,dK,dJ,qC,zf,zV,zW,zN,dI,eh,eg,ef,ee,qi,qj,qV,zn,qE,zg,zh,recOf,zi,zR,zT,zl,qK,dS,bM,bA,if_true,if_false,ite_true,ite_false,bK,bJ,dH,dG,reduceCtorEq,decide_true,decide_false,eP,eN,zw,ze,zo,zZ,zq,zY,qX,zb,z8,qA,bH,bG,qg,qU,qd,qQ,qf,qP,ZA,qR,qh,bF,bE,eM,eK,eJ,true_and,and_true,eH,eG,bD,bB,eF,eE,bV,bU,eq_self,bu,bt,bp,bn,bm];split
   .have ag:i<xs.length:=by omega
    obtain⟨v,fB,bX,kz,o6,uu,oZ⟩:=mkT_I.F.step hr kJ n2 hv.2 ag u;have iN:h'.rd1 o i=some (er idz v):=by
     rw[Qz (by rw[u.same o hz (ZW.2 λhm=>n1 (zGt (mkT_I.F.keysS (hr.take i) (Qp.2 λc hc=>Qp.1 kJ c (List.mem_of_mem_take hc)) o hm)))];exact ho)];rw[zAh,fB];rfl
    have ht:=zDD (len:=totL List.length) ag;have gE:=zF9 (totL List.length) xs (i+1);have iS:=dw _ (List.getElem_mem ag);simp only[nm_eq,nm_eq,abQ,↓reduceIte,eo,qc,qz,qW,dR,dQ,dO,dN,dM,dL,ec,dZ,dY,dX,dW,dV,dU,dT,dK,dJ,qC,zf,zV,zW,zN,dI,eh,eg,ef,ee,qi,qj,qV,zn,qE,zg,zh,recOf,zi,zR,zT,zl,qK,dS,bM,bA,if_true,if_false,ite_true,ite_false,bK,bJ,dH,dG,reduceCtorEq,decide_true,decide_false,eP,eN,zw,ze,zo,zZ,zq,zY,qX,zb,z8,qA,bH,bG,qg,qU,qd,qQ,qf,qP,ZA,qR,qh,bF,bE,eM,eK,eJ,true_and,and_true,eH,eG,bD,bB,eF,eE,bV,bU,eq_self,bu,bt,bp,bn,bm,zC0 ag,iN,wrapS ag (by omega:xs.length<=4611686018427387904)];refine zA8 bX kz o6 u.wf uu iS.1 iS.2 (by omega) (by omega) λcN u'=>?_;simp only[nm_eq,nm_eq,abQ,↓reduceIte,eo,qc,qz,qW,dR,dQ,dO,dN,dM,dL,ec,dZ,dY,dX,dW,dV,dU,dT,dK,dJ,qC,zf,zV,zW,zN,dI,eh,eg,ef,ee,qi,qj,qV,zn,qE,zg,zh,recOf,zi,zR,zT,zl,qK,dS,bM,bA,if_true,if_false,ite_true,ite_false,bK,bJ,dH,dG,reduceCtorEq,decide_true,decide_false,eP,eN,zw,ze,zo,zZ,zq,zY,qX,zb,z8,qA,bH,bG,qg,qU,qd,qQ,qf,qP,ZA,qR,qh,bF,bE,eM,eK,eJ,true_and,and_true,eH,eG,bD,bB,eF,eE,bV,bU,eq_self,bu,bt,bp,bn,bm,wrapS ag (by omega:xs.length<=4611686018427387904)];exact⟨_,by omega,i+1,by omega,rfl,(by(simp only[nm_eq,nm_eq,abQ,↓reduceIte,eo,qc,qz,qW,dR,dQ,dO,dN,dM,dL,ec,dZ,dY,dX,dW,dV,dU,dT,dK,dJ,qC,zf,zV,zW,zN,dI,eh,eg,ef,ee,qi,qj,qV,zn,qE,zg,zh,recOf,zi,zR,zT,zl,qK,dS,bM,bA,if_true,if_false,ite_true,ite_false,bK,bJ,dH,dG,reduceCtorEq,decide_true,decide_false,eP,eN,zw,ze,zo,zZ,zq,zY,qX,zb,z8,qA,bH,bG,qg,qU,qd,qQ,qf,qP,ZA,qR,qh,bF,bE,eM,eK,eJ,true_and,and_true,eH,eG,bD,bB,eF,eE,bV,bU,eq_self,bu,bt,bp,bn,bm,List.cons.injEq,AV.int.injEq,AV.sl.injEq,and_self])<;>omega),oZ _ u'⟩
   .have aJ:i=xs.length:=by omega
    subst aJ;rw[List.take_length,List.take_of_length_le (by rw[hr.1];exact vM _)]at u;rw[List.take_length];exact hk _ u
def mkR(k:Int)(vP vB:PV)(W:L4)(B:L5):List (Nat×List PV):=
 mkF mkI List.length k vP W++mkF (mkF mkI List.length) (totL List.length) (k+totL List.length W) vB B
def totR(W:L4)(B:L5):Nat:=totL List.length W+totL (totL List.length) B
theorem zG7{p k:Int}{vP vB:PV}{W:L4}{B:L5}(hR:IsR vP vB W B)(hW:Wh (.agg [.int .i64 p,vP,vB]))(c7:(ead (.agg [.int .i64 p,vP,vB])).Nodup)(hw:HWF h)(hv:VOK (zlt h) h 0 (.agg [.int .i64 p,vP,vB]))(sz:SzR W B)(df:0<=k)(e7:k+totR W B<=4611686018427387904)
  (hk:∀h',Upd h (mkR k vP vB W B) h'->K (.int .i64 (k+totR W B)) h'):ZK Tryz.prog 19 [er idz (.agg [.int .i64 p,vP,vB]),.int .i64 k] h K:=by
 refine QU mix Tryz.func19 cf19 rfl ?_;dsimp only[if19,mI0,kI0,lI0,fI0,C2,R0,S0];simp only[er,ers];unfold totR at hk e7;obtain⟨_,sK,sL,_⟩:=hv;obtain⟨_,wP,wB,_⟩:=hW;have oP:(er idz vP).one=true:=by rw[zIR sK];exact hR.P.one
 have oB:(er idz vB).one=true:=by rw[zIR sL];exact hR.B.one
 have cP:=zBq oP;have cB:=zBq oB;simp only[ead,eads,List.nil_append,List.append_nil,List.nodup_append]at c7;obtain⟨dP,dB,dd⟩:=c7;obtain⟨hh,he,eX,hn,qq⟩:=box1 hw [.int .i64 p,er idz vP,er idz vB];have fF:∀o,zlt h o->zlt hh o/\hh.obj o=h.obj o:=λo ho=>⟨Nat.lt_of_lt_of_le ho eX.next,eX.obj o ho⟩
 have q:=qq _ (Ext.refl eX.wf);have kP:=(mkT_I.F).keys (k:=k) hR.P wP;have kB:=(mkT_I.F.F).keys (k:=k+totL List.length W) hR.B wB;simp only[nm_eq,nm_eq,abQ,↓reduceIte,eo,qc,qz,qW,dR,dQ,dO,dN,dM,dL,ec,dZ,dY,dX,dW,dV,dU,dT,dK,dJ,qC,zf,zV,zW,zN,dI,eh,eg,ef,ee,qi,qj,qV,zn,qE,zg,zh,recOf,zi,zR,zT,zl,qK,dS,bM,bA,if_true,if_false,ite_true,ite_false,bK,bJ,dH,dG,reduceCtorEq,decide_true,decide_false,eP,eN,zw,ze,zo,zZ,zq,zY,qX,zb,z8,qA,bH,bG,qg,qU,qd,qQ,qf,qP,ZA,qR,qh,bF,bE,eM,eK,eJ,true_and,and_true,eH,eG,bD,bB,eF,eE,bV,bU,eq_self,bu,bt,bp,bn,bm,he,oP,oB,cP,cB,Qz q];refine zA8 hR.P wP dP eX.wf (sK.mono fF (vM _)) (by have:=sz.Wl;omega) (λx hx=>by have:=sz.w x hx;omega) df (by omega) λh1 u1=>?_;have qB:h1.obj h.next=some ⟨true,[.int .i64 p,er idz vP,er idz vB]⟩:=by
  rw[u1.same _ (by omega) (ZW.2 λhm=>by have:h.next<h.next:=ead_z sK _ (kP _ hm);omega)];exact q
 have uq:VOK (zlt h1) h1 0 vB:=by
  have h2:=zFH u1 (λo ho=>ho) (sL.mono fF (vM _));rw[zHU λo ho hm=>dd o (kP o ho) o hm rfl]at h2;exact h2.mono (λo ho=>⟨Nat.lt_of_lt_of_le ho u1.next,rfl⟩) (vM _)
 have bN:¬(k+(totL List.length W:Int)<0):=by omega
 simp only[nm_eq,nm_eq,abQ,↓reduceIte,eo,qc,qz,qW,dR,dQ,dO,dN,dM,dL,ec,dZ,dY,dX,dW,dV,dU,dT,dK,dJ,qC,zf,zV,zW,zN,dI,eh,eg,ef,ee,qi,qj,qV,zn,qE,zg,zh,recOf,zi,zR,zT,zl,qK,dS,bM,bA,if_true,if_false,ite_true,ite_false,bK,bJ,dH,dG,reduceCtorEq,decide_true,decide_false,eP,eN,zw,ze,zo,zZ,zq,zY,qX,zb,z8,qA,bH,bG,qg,qU,qd,qQ,qf,qP,ZA,qR,qh,bF,bE,eM,eK,eJ,true_and,and_true,eH,eG,bD,bB,eF,eE,bV,bU,eq_self,bu,bt,bp,bn,bm,Qz qB,bN];refine zGO hR.B wB dB u1.wf uq (by have:=sz.Bl;omega) (λx hx=>⟨by have:=sz.b x hx;omega,λy hy=>by have:=sz.c x hx y hy;omega⟩) (by omega) (by omega) λh2 u2=>?_;have u3:Upd hh (mkR k vP vB W B) h2:=u1.trans u2 (λo ho hm=>dd o (kP o ho) o (kB o hm) rfl) λo ho=>by have:o<h.next:=ead_z sL o (kB o ho);omega
 have u4:=eX.upd.trans u3 (λo ho=>by cases ho) λo ho=>by
  unfold mkR at ho;rw[List.map_append,List.mem_append]at ho;exact ho.elim (λhm=>ead_z sK o (kP o hm)) λhm=>ead_z sL o (kB o hm)
 have e:k+(totL List.length W:Int)+(totL (totL List.length) B:Int)=k+((totL List.length W+totL (totL List.length) B:Nat):Int):=by omega
 rw[e];simp only[nm_eq,nm_eq,abQ,↓reduceIte,eo,qc,qz,qW,dR,dQ,dO,dN,dM,dL,ec,dZ,dY,dX,dW,dV,dU,dT,dK,dJ,qC,zf,zV,zW,zN,dI,eh,eg,ef,ee,qi,qj,qV,zn,qE,zg,zh,recOf,zi,zR,zT,zl,qK,dS,bM,bA,if_true,if_false,ite_true,ite_false,bK,bJ,dH,dG,reduceCtorEq,decide_true,decide_false,eP,eN,zw,ze,zo,zZ,zq,zY,qX,zb,z8,qA,bH,bG,qg,qU,qd,qQ,qf,qP,ZA,qR,qh,bF,bE,eM,eK,eJ,true_and,and_true,eH,eG,bD,bB,eF,eE,bV,bU,eq_self,bu,bt,bp,bn,bm];exact hk _ (by simpa using u4)
end
section
variable{U:PHeap}{K:PV->PHeap->Prop}{p:Int}{W:L4}{B:L5}{vP vB:PV}{lo hi:Nat}
theorem zNX{v:PV}{xs:L4}{k:Int}(hI:FII v xs)(ho:Own lo hi v):∀o∈(mkF mkI List.length k v xs).map Prod.fst,lo<=o/\o<hi:=λo hm=>ho.lt o (mkT_I.F.keys hI ho.wh o hm)
theorem zC4{v:PV}{xs:L4}{k:Int}(hI:FII v xs)(ho:Own lo hi v)(hb:xs.length<=4294967296)(dw:∀x∈xs,x.length<=4294967296)(df:0<=k)(e7:k+totL List.length xs<=4611686018427387904):
  zA4 Tryz.prog 20 [v,.int .i64 k] U (mkF mkI List.length k v xs) .i64 (k+totL List.length xs):=
 zA4.of (hI.bel 0) (mkT_I.F.keys hI ho.wh) λh hw hv=>zA8 hI ho.wh ho.nd hw hv hb dw df e7 λh' u=>⟨rfl,u⟩
theorem zH2{k:Int}(hR:IsR vP vB W B)(hW:Wh (.agg [.int .i64 p,vP,vB])):∀o∈(mkR k vP vB W B).map Prod.fst,o∈ead (.agg [.int .i64 p,vP,vB]):=by
 obtain⟨_,wP,wB,_⟩:=hW;intro o ho;unfold mkR at ho;rw[List.map_append,List.mem_append]at ho;simp only[ead,eads,List.nil_append,List.append_nil,List.mem_append];exact ho.imp (mkT_I.F.keys hR.P wP o) (mkT_I.F.F.keys hR.B wB o)
theorem keysR{k:Int}(hR:IsR vP vB W B)(ho:Own lo hi (.agg [.int .i64 p,vP,vB])):∀o∈(mkR k vP vB W B).map Prod.fst,lo<=o/\o<hi:=λo hm=>ho.lt o (zH2 hR ho.wh o hm)
theorem zG6{k:Int}(hR:IsR vP vB W B)(ho:Own lo hi (.agg [.int .i64 p,vP,vB]))(sz:SzR W B)(df:0<=k)(e7:k+totR W B<=4611686018427387904):
  zA4 Tryz.prog 19 [.agg [.int .i64 p,vP,vB],.int .i64 k] U (mkR k vP vB W B) .i64 (k+totR W B):=
 zA4.of ⟨trivial,hR.P.bel 0,hR.B.bel 0,trivial⟩ (zH2 hR ho.wh) λh hw hv=>zG7 hR ho.wh ho.nd hw hv sz df e7 λh' u=>⟨rfl,u⟩
theorem zHB{v:PV}{xs:L3}{k:Int}(hI:FI v (seqI k xs.length))(hb:xs.length<=4294967296)(df:0<=k)(e7:k<=4611686018427387904)(hk:K (.int .i64 (k+xs.length)) U):zA Tryz.prog 101 [v,.int .i64 k] U K:=by
 obtain⟨w,a,rfl⟩:=hI;have hl:=QN xs.length k;have hg:=zHT xs.length k;generalize seqI k xs.length=ys at *
 refine zB mix Tryz.func101 ?_
 conv=>arg 2;cbv
 refine zC rfl ?_;simp only[Z3,seval,-ae];refine zF (λm vs h'=>∃i:Nat,i<=ys.length/\m=ys.length-i/\vs=[.fz w a ys.length (pis ys),.int .i64 (k+(i:Int)),.int .i64 i]/\U=h') ys.length ?_ ?_
 .exact⟨0,by omega,by omega,by rw[show k+((0:Nat):Int)=k by omega];rfl,rfl⟩
 rintro m vs h' ⟨i,hi,rfl,rfl,rfl⟩
 simp only[Z3,seval,-ae];refine iteI (λag=>?_) λaF=>?_
 .simp only[Z3,seval,-ae,ag,gi ag,hg i ag,zL,wrapS ag (by omega:ys.length<=4611686018427387904),wrap64 (n:=k+(i:Int)+1) (by omega) (by omega)];refine⟨_,by omega,i+1,by omega,rfl,?_⟩
  have:k+(i:Int)+1=k+((i+1:Nat):Int):=by omega
  rw[this]
 .have aJ:i=xs.length:=by omega
  subst aJ;exact hk
theorem zCU{v:PV}{xs:L4}{k:Int}(hI:FII v (sqL sqI List.length k xs))(hb:xs.length<=4294967296)(dw:∀x∈xs,x.length<=4294967296)(df:0<=k)(e7:k+totL List.length xs<=4611686018427387904)(hk:K (.int .i64 (k+totL List.length xs)) U):zA Tryz.prog 21 [v,.int .i64 k] U K:=by
 obtain⟨w,a,rows,rfl,hr⟩:=hI;have hl:=zBB sqI List.length xs k;have hg:∀(i:Nat) (hi:i<xs.length) (h2:i<(sqL sqI List.length k xs).length),(sqL sqI List.length k xs)[i]=sqI (k+totL List.length (xs.take i)) xs[i]:=λi hi _=>zKP sqI List.length xs k i hi;generalize sqL sqI List.length k xs=ys at *
 refine zB mix Tryz.func21 ?_
 conv=>arg 2;cbv
 refine zC rfl ?_;simp only[Z3,seval,-ae];refine zF (λm vs h'=>∃i:Nat,i<=ys.length/\m=ys.length-i/\vs=[.fz w a ys.length rows,.int .i64 (k+totL List.length (xs.take i)),.int .i64 i]/\U=h') ys.length ?_ ?_
 .exact⟨0,by omega,by omega,by rw[List.take_zero,zEa,show k+((0:Nat):Int)=k by omega];rfl,rfl⟩
 rintro m vs h' ⟨i,hi,rfl,rfl,rfl⟩
 simp only[Z3,seval,-ae];refine iteI (λag=>?_) λaF=>?_
 .have ga:i<xs.length:=by omega
  obtain⟨w4,a4,cb⟩:=hr.rowI ag;have ht:=zDD (len:=List.length) ga;have gE:=zF9 List.length xs (i+1);have ll:=hg i ga ag;simp only[Z3,seval,-ae,ag,cb];have iS:=dw _ (List.getElem_mem ga);refine zHB (xs:=xs[i]) ⟨w4,a4,by rw[ll,sqI]⟩ iS (by omega) (by omega) ?_;have hn:¬(k+(totL List.length (xs.take i):Int)+(xs[i].length:Int)<0):=by omega
  simp only[Z3,seval,-ae,hn,wrapS ag (by omega:ys.length<=4611686018427387904)];refine⟨_,by omega,i+1,by omega,rfl,?_⟩
  have:k+(totL List.length (xs.take i):Int)+(xs[i].length:Int)=k+(totL List.length (xs.take (i+1)):Int):=by omega
  rw[this]
 .have aJ:i=xs.length:=by omega
  subst aJ;rw[List.take_length];exact hk
theorem zKr{v:PV}{xs:L3}(hI:FI v xs)(hb:xs.length<=1048576)(hk:∀v t,FI v xs->Own U.top t v->U.top<=t->K v (U.up t)):zA Tryz.prog 90 [v] U K:=
 zA.fzT (λK'=>zEE hI hb) (zO _ _) (Owns.pis _ _ _) λo cap t h1 h2=>hk _ t ⟨_,_,rfl⟩ h1 h2
theorem zCA{v:PV}{xs:L4}(hI:FII v xs)(sz:SzL xs)(hk:∀v t,FII v xs->Own U.top t v->U.top<=t->K v (U.up t)):zA Tryz.prog 15 [v] U K:=by
 obtain⟨w,a,rs,rfl,hr⟩:=hI;have hb:=sz.l;refine zA.gh ?_;refine zB mix Tryz.func15 ?_
 conv=>arg 2;cbv
 refine zC rfl ?_;simp only[Z3,seval,-ae,mk24 (n:=xs.length) (by omega),mkL (n:=xs.length) (by omega)];refine zF (λm vs h'=>∃i:Nat,i<=xs.length/\m=xs.length-i/\vs=[.fz w a xs.length rs,.sl U.next 0 xs.length (.known xs.length),.int .i64 i]/\∃rows t,rows.length=i/\All2 FI rows (xs.take i)/\Owns U.top t rows/\U.top<=t/\h'=(U.new (rows++List.replicate (xs.length-i) (.fz true .nils 0 []))).up t) xs.length ?_ ?_
 .exact⟨0,by omega,by omega,rfl,[],U.top,rfl,by simpa using All2.nil _,Owns.nil _ _,vM _,by simp[PHeap.up,PHeap.new]⟩
 rintro m vs h' ⟨i,hi,rfl,rfl,rows,t,aR,fY,iZ,iH,rfl⟩
 simp only[Z3,seval,-ae];refine iteI (λag=>?_) λaF=>?_
 .obtain⟨w4,a4,cb⟩:=hr.rowI ag;simp only[Z3,seval,-ae,ag,cb];refine zKr ⟨_,_,rfl⟩ (sz.r _ (List.getElem_mem ag)) λr t2 cI cn cZ=>?_;have hlen:i+1<=(rows++List.replicate (xs.length-i) (PV.fz true .nils 0 [])).length:=by simp;omega
  simp only[Z3,seval,-ae,ag,hlen,cI.cells,cI.one,wrapS ag (by omega:xs.length<=4611686018427387904)];refine⟨_,by omega,i+1,by omega,rfl,rfl,rows++[r],t2,by simp[aR],?_,iZ.snoc cn iH cZ,Nat.le_trans iH cZ,?_⟩
  .rw[List.take_succ_eq_append_getElem ag];exact fY.snoc cI
  .rw[zCh aR ag];rfl
 .have aJ:i=xs.length:=by omega
  subst aJ;rw[List.take_length]at fY;rw[Nat.sub_self,List.replicate_zero,List.append_nil];exact Gh.own ((zD U _).up iH) (by simp only[Z3,seval,-ae]) (vM _) (fY.bI 0) (by simp[capOK]) iZ λo t h1 h2=>hk _ t ⟨_,_,_,rfl,fY⟩ h1 h2
theorem zHO{v:PV}{xs:L5}(hI:FIII v xs)(sz:SzM xs)(hk:∀v t,FIII v xs->Own U.top t v->U.top<=t->K v (U.up t)):zA Tryz.prog 89 [v] U K:=by
 obtain⟨w,a,rs,rfl,hr⟩:=hI;have hb:=sz.l;refine zA.gh ?_;refine zB mix Tryz.func89 ?_
 conv=>arg 2;cbv
 refine zC rfl ?_;simp only[Z3,seval,-ae,mk24 (n:=xs.length) (by omega),mkL (n:=xs.length) (by omega)];refine zF (λm vs h'=>∃i:Nat,i<=xs.length/\m=xs.length-i/\vs=[.fz w a xs.length rs,.sl U.next 0 xs.length (.known xs.length),.int .i64 i]/\∃rows t,rows.length=i/\All2 FII rows (xs.take i)/\Owns U.top t rows/\U.top<=t/\h'=(U.new (rows++List.replicate (xs.length-i) (.fz true .nils 0 []))).up t) xs.length ?_ ?_
 .exact⟨0,by omega,by omega,rfl,[],U.top,rfl,by simpa using All2.nil _,Owns.nil _ _,vM _,by simp[PHeap.up,PHeap.new]⟩
 rintro m vs h' ⟨i,hi,rfl,rfl,rows,t,aR,fY,iZ,iH,rfl⟩
 simp only[Z3,seval,-ae];refine iteI (λag=>?_) λaF=>?_
 .obtain⟨w4,a4,rk,cb,dp⟩:=hr.rowL ag;simp only[Z3,seval,-ae,ag,cb];refine zCA ⟨_,_,_,rfl,dp⟩ (sz.r _ (List.getElem_mem ag)) λr t2 cI cn cZ=>?_;have hlen:i+1<=(rows++List.replicate (xs.length-i) (PV.fz true .nils 0 [])).length:=by simp;omega
  simp only[Z3,seval,-ae,ag,hlen,cI.cells,cI.one,wrapS ag (by omega:xs.length<=4611686018427387904)];refine⟨_,by omega,i+1,by omega,rfl,rfl,rows++[r],t2,by simp[aR],?_,iZ.snoc cn iH cZ,Nat.le_trans iH cZ,?_⟩
  .rw[List.take_succ_eq_append_getElem ag];exact fY.snoc cI
  .rw[zCh aR ag];rfl
 .have aJ:i=xs.length:=by omega
  subst aJ;rw[List.take_length]at fY;rw[Nat.sub_self,List.replicate_zero,List.append_nil];exact Gh.own ((zD U _).up iH) (by simp only[Z3,seval,-ae]) (vM _) (fY.bL 0) (by simp[capOK]) iZ λo t h1 h2=>hk _ t ⟨_,_,_,rfl,fY⟩ h1 h2
theorem zIz(hR:IsR vP vB W B)(sz:SzR W B)(hk:∀vP vB t,IsR vP vB W B->Own U.top t (.agg [.int .i64 p,vP,vB])->U.top<=t->K (.agg [.int .i64 p,vP,vB]) (U.up t)):zA Tryz.prog 14 [.agg [.int .i64 p,vP,vB]] U K:=by
 have h1:=hR.P.one;have h2:=hR.B.one;refine zA.gh ?_;refine zB mix Tryz.func14 ?_
 conv=>arg 2;cbv
 refine zC rfl ?_;simp only[Z3,seval,-ae,h1,h2];refine zCA hR.P sz.L λv1 t1 fB xU iI=>?_;simp only[Z3,seval,-ae,fB.cells,fB.one];refine zHO hR.B sz.M λv2 t2 bX pP kA=>?_;simp only[Z3,seval,-ae,bX.cells,bX.one,fB.one];have uM:=(((Owns.nil U.top U.top).snoc (Own.int _ _ .i64 p) (vM _) (vM _)).snoc xU (vM _) iI).snoc pP iI kA;exact Gh.fin0T (t:=t2) (v:=.agg [.int .i64 p,v1,v2]) (Keep.up (((zD U _).new _).new _) (Nat.le_trans iI kA)) (vM _) ⟨trivial,fB.bel _,bX.bel _,trivial⟩ λ_=>hk v1 v2 t2 ⟨fB,bX⟩ uM.agg (Nat.le_trans iI kA)
end
end Go.Proofs
namespace Go.Proofs
open Go.Ab Go.Lie
variable{U:PHeap}{K:PV->PHeap->Prop}{p:Int}{n:Nat}{W:L4}{B:L5}{vP vB:PV}{s:Nat}
theorem zA.fzITx{P:Program}{f:FuncId}{args:List PV}{D:L3->Prop}(c:∀K':PV->PHeap->Prop,(∀z,D z->ResI U K' z)->zA P f args U K')(k:∀z v t,D z->FI v z->Own U.top t v->U.top<=t->K v (U.up t)):zA P f args U K:=
 zA.gh (c _ λz hz=>⟨λh0=>by subst h0;exact Gh.ret (k _ _ U.top hz ⟨true,.nils,rfl⟩ (Own.empty _ _ _ _ _) (vM _)),λcap hc=>Gh.own (zD U _) (by simp[PHeap.new]) (vM _) (zO _ _) hc.ok (Owns.pis _ _ _) λo t h1 h2=>k _ _ t hz ⟨true,_,rfl⟩ h1 h2⟩)
theorem zC7{l:Nat}{w:Bool}{av:AV}{k:Int}{x:L3}(hs:PtrR U s p vP vB)(hP:FII vP W)(o:OkW p n W)(jH:ipow p n<=729)(hx:El p n x)(hl:l=x.length)
  (hk:∀z,DivL p n W k x z->ResI U K z):zA Tryz.prog 292 [.ptr s 0,.fz w av l (pis x),.int .i64 k] U K:=by
 have aW:=o.le;have cQ:=o.pr;have aV:=hx.1;have gr:U.rd1 s 0=some (.int .i64 p):=by rw[zG hs.obj];rfl
 subst hl;refine zB mix Tryz.func292 ?_
 conv=>arg 2;cbv
 refine zC rfl ?_;simp only[Z3,seval,-ae];refine zAv rfl (by omega) ?_;by_cases hz:isZ x
 .simp only[Z3,seval,-ae,hz,decide_true];have hd:DivL p n W k x x:=⟨hx,λ_=>rfl,λ_=>by
   refine Eqv.of_eq λj=>?_;rw[QG hz,Int.mul_zero]⟩
  refine QO rfl (by omega) ⟨λh0=>?_,λcap hc=>?_⟩
  .simp only[Z3,seval,-ae];exact(hk x hd).1 h0
  .simp only[Z3,seval,-ae];exact(hk x hd).2 cap hc
 .have hn:0<n:=by
   rcases Nat.eq_zero_or_pos n with h|h
   .exact absurd (by rw[List.eq_nil_of_length_eq_zero (aV.trans h)];intro y hy;cases hy) hz
   .exact h
  have x5:2<=ipow p n:=by
   obtain⟨n',rfl⟩:∃n',n=n'+1:=⟨n-1,by omega⟩
   have h1:∀k:Nat,1<=ipow p k:=λk=>by
    induction k with
    |zero=>simp[ipow]
    |succ k ih=>
     have:=Int.mul_le_mul_of_nonneg_left (show(1:Int)<=p by have:=cQ.1;omega) (show 0<=ipow p k by omega)
     rw[ipow];omega
   have:=Int.mul_le_mul_of_nonneg_left (show(2:Int)<=p from cQ.1) (show 0<=ipow p n' by have:=h1 n';omega)
   have:=h1 n'
   rw[ipow];omega
  simp only[Z3,seval,-ae,hz,decide_false,gr,aV];refine zB4 cQ aW ?_;simp only[Z3,seval,-ae];refine zCk (by omega) (by omega) ?_;simp only[Z3,seval,-ae];refine zJ0 (Int.emod_nonneg _ (by omega)) (Int.emod_lt_of_pos _ (by omega)) (by omega) λy yb h1 h2 h3=>?_;simp only[Z3,seval,-ae];have hd:DivL p n W k x (lmul p W y x):=DivL.mk' o hx hz (m:=ipow p n) (by
   rw[zCT];exact zAf o λj hj=>hx.beyond hj) λhc=>by
    obtain⟨z,w',ue⟩:=zBS hc hn;rw[<-zCT]at ue;have em:=Int.mul_ediv_add_emod k (ipow p n);obtain⟨t,ht⟩:=h3 ⟨z,w'-k / ipow p n*z,by grind⟩;exact⟨t+k / ipow p n*y,by grind⟩
  refine zCB hs hP o hx aV.symm (by omega) ⟨λh0=>?_,λcap hc=>?_⟩
  .simp only[Z3,seval,-ae];exact(hk _ hd).1 h0
  .simp only[Z3,seval,-ae];exact(hk _ hd).2 cap hc
theorem CodeL.zero{xs:L4}(h:CodeL p W B xs 0):(isLie p W B/\Els p W.length xs)/\isLz p W.length W B:=by
 rcases h with ⟨_,h⟩|⟨_,_,h⟩|⟨h1,h2,_⟩
 .omega
 .omega
 .exact⟨h1,h2⟩
variable{vU:PV}
theorem zEJ{l:Nat}{w:Bool}{a:AV}{u:L4}{x:L3}(hs:PtrR U s p vP vB)(hP:FII vP W)(o:OkW p n W)(hL:FII vU u)(hu:∀v∈u,El p n v/\dep v<n)(c6:u.length<=1048576)(hx:El p n x)(hl:l=x.length)
  (hk:∀v t,FI v (redL p W u x)->Own U.top t v->U.top<=t->K v (U.up t)):zA Tryz.prog 118 [.ptr s 0,vU,.fz w a l (pis x)] U K:=by
 have aW:=o.le;have hp:=o.pr;unfold okp at hp;refine zB mix Tryz.func118 ?_
 conv=>arg 2;cbv
 refine zC rfl ?_;simp only[Z3,seval,-ae];refine zA.fzIT (λK'=>QO hl (by rw[hx.1];omega)) λv0 t0 iX xV nL=>?_;obtain⟨w0,a0,rfl⟩:=iX;rw[hx.1]at xV ⊢;simp only[Z3,seval,-ae];refine zDO hL (λv hv=>⟨by rw[(hu v hv).1.1];exact(hu v hv).2,by rw[(hu v hv).1.1];omega⟩) c6 λvp=>?_;obtain⟨wl,al,rl,rfl,aR⟩:=hL;simp only[Z3,seval,-ae];refine zF (λm vs h'=>∃i:Nat,i<=u.length/\m=u.length-i/\∃wv av t,vs=[.ptr s 0,.fz wl al u.length rl,.fz wv av n (pis (redL p W (u.take i) x)),.fz true vp u.length (pis (deps u)),.int .i64 u.length,.int .i64 i]/\h'=U.up t/\Own U.top t (.fz wv av n (pis (redL p W (u.take i) x)))/\U.top<=t) u.length ?_ ?_
 .exact⟨0,by omega,by omega,w0,a0,t0,by rw[List.take_zero,redL];rfl,rfl,by rw[List.take_zero,redL];exact xV,nL⟩
 rintro m vs h' ⟨i,hi,rfl,wv,av,t,rfl,rfl,pJ,iH⟩
 have bZ:PtrR (U.up t) s p vP vB:=hs.keep ((Keep.refl U).up iH);simp only[Z3,seval,-ae];have bh:El p n (redL p W (u.take i) x):=Z4 o (λv hv=>(hu v (List.mem_of_mem_take hv)).1) hx;refine iteI (λag=>?_) λaF=>?_
 .obtain⟨w4,a4,hr⟩:=aR.rowI ag;have cY:=hu _ (List.getElem_mem ag);have dk:redL p W (u.take (i+1)) x=red1 p W (redL p W (u.take i) x) u[i]:=by rw[List.take_succ_eq_append_getElem ag,zDI]
  generalize hy:redL p W (u.take i) x=y at *
  have gb:dep u[i] < y.length:=by rw[bh.1];exact cY.2
  have mC:=bh.at o.pr (dep u[i]);rw[at_eq gb]at mC;have bN:IntKind.i64.wrap (0-y[dep u[i]])=-y[dep u[i]]:=by rw[wrap64 (by omega) (by omega)];omega
  have pI:(deps u)[i]? = some (dep u[i]:Int):=by simp[deps,ag]
  simp only[Z3,seval,-ae,ag,hr,cY.2,zL,pI,gi gb,bN];refine Zn bZ hP o cY.1 rfl (by omega) λv1=>?_;simp only[Z3,seval,-ae];refine zA.fzIT (λK'=>zB8 bZ hP o bh (zH o cY.1 cY.1) bh.1.symm (zH o cY.1 cY.1).1.symm) λv2 t2 bX pP kA=>?_;have vv:ladd p W y (lmul p W (-y[dep u[i]]) u[i])=redL p W (u.take (i+1)) x:=by rw[dk,red1,at_eq gb,<-zD5 o bh cY.1]
  have kz:FI v2 (ladd p W y (lmul p W (-y[dep u[i]]) u[i])):=bX;rw[vv]at kz;have uT:(redL p W (u.take (i+1)) x).length=n:=(Z4 o (λv hv=>(hu v (List.mem_of_mem_take hv)).1) hx).1;obtain⟨w2,a2,rfl⟩:=kz;simp only[zBM]at pP kA;rw[uT]at pP ⊢;simp only[Z3,seval,-ae,wrapS ag (by omega:u.length<=4611686018427387904),up_up];exact⟨_,by omega,i+1,by omega,rfl,w2,a2,t2,rfl,rfl,pP.mono iH (vM _),Nat.le_trans iH kA⟩
 .have aJ:i=u.length:=by omega
  subst aJ;rw[List.take_length]at pJ ⊢;exact hk _ t ⟨wv,av,by rw[(Z4 o (λv hv=>(hu v hv).1) hx).1]⟩ pJ iH
end Go.Proofs
namespace Go.Ab
theorem zKK{Z:Nat->Prop}{h:AHeap}{n:Nat}:∀xs:L3,VOKs Z h n (pis xs)
 |[]=>trivial
 |x::xs=>⟨trivial,zKK xs⟩
theorem zA.lendT{P:Program}{f:FuncId}{args:List PV}{U:PHeap}{K:PV->PHeap->Prop}{s:Nat}{cs:List PV}(hs:U.obj s=some cs)(hb:Bels 0 cs)
  (c:∀o t,U.top<=t->zA P f (sbs s o cs args) ((U.kill s).up t) λv σ'=>∃t' w a l xs,σ'=(U.kill s).up t'/\t<=t'/\v=.fz w a l (pis xs)/\xs≠[]/\(∀x∈ead v,t<=x)/\K v (U.up t')):zA P f args U K:=by
 intro ι Z h r va;obtain⟨r',eC,ho,hz⟩:=r.freeze hs hb;have r2:Rel ι (λo=>Z o\/o=ι s) ((U.kill s).up h.next) h:=⟨r'.hwf,r'.zlt,vM _,r'.wf,r'.obj,r'.inj⟩
 have dz:∀o,Z o->(Z o\/o=ι s)/\h.obj o=h.obj o:=λo ho=>⟨.inl ho,rfl⟩
 have:=c (ι s) h.next r.top ι _ h r2 (VOKs.sbs (.inr rfl) ho (eC.mono dz (vM _)) (va.mono dz (vM _)))
 rw[Qk rfl]at this;refine this.mono ?_
 rintro v h' ⟨pv,σ',ι',Z',q1,q2,q3,q4,t',w,a,l,xs,rfl,ht,rfl,ai,hx,hk⟩
 have fF:∀o,Z o->(Z o\/Z' o/\h.next<=o)/\h'.obj o=h.obj o:=λo ho=>⟨.inl ho,(q2.z o (.inl ho)).2⟩
 have ag:∀t ds,U.obj t=some ds->ι t<h.next:=λt ds ht=>r.hwf.lt (r.obj _ _ ht).1;have ob:∀t ds,U.obj t=some ds->h'.obj (ι t)=h.obj (ι t):=by
  intro t ds ht;by_cases e:t=s
  .subst e;exact(q2.z _ (.inr rfl)).2
  .have gE:=r.none_lt ht;have cL:(U.kill s).obj t=some ds:=by simp only[PHeap.kill];rw[if_neg e];exact ht
   obtain⟨p1,_,_⟩:=q1.obj t ds cL;obtain⟨g1,g2,_⟩:=r2.obj t ds cL;rw[q2.inj t gE,q2.ers g2]at p1;rw[p1,g1]
 refine⟨.fz w a l (pis xs),U.up t',ι,λo=>Z o\/Z' o/\h.next<=o,⟨q1.hwf,?_,q1.top,r.wf,λt ds ht=>⟨by rw[ob t ds ht];exact(r.obj t ds ht).1,(r.obj t ds ht).2.1.mono fF (vM _),?_⟩,r.inj⟩,⟨vM _,q2.hnext,λ_ _=>rfl,fF,λ_ _ h=>h,λt ds ht hd=>absurd (r.none_lt hd) (by omega)⟩,⟨?_,zKK xs⟩,q4,hk⟩
 .rintro o (ho|⟨ho,_⟩)
  .exact Nat.lt_of_lt_of_le (r.zlt o ho) q2.hnext
  .exact q1.zlt o ho
 .rintro(hz|⟨_,hz⟩)
  .exact(r.obj t ds ht).2.2 hz
  .have:=ag t ds ht;omega
 .rcases q3.1 with e|⟨o,off,cap,rfl,g1,g2,g3,g4⟩
  .exact .inl e
  .refine .inr ⟨o,off,cap,rfl,.inr ⟨g1,hx o ?_⟩,g2,g3,g4⟩;rw[zBn (zAr ai)];exact List.mem_cons_self ..
theorem PAcc.first{b e n:Nat}{h:PHeap}{v:PV}{cs:List PV}(a:PAcc b e h v n cs)(h0:n≠0):QF e h v n=some cs:=by
 rcases a with ⟨rfl,rfl,rfl⟩|⟨s,cap,rfl,h1,h2,h3,h4,h5⟩
 .exact absurd rfl h0
 .rw[Qs,if_neg h0,if_pos (vM _),ZN h2,if_pos (by omega),List.drop_zero,List.take_of_length_le (by omega)]
theorem PAcc.lenc{b e n:Nat}{h:PHeap}{v:PV}{cs:List PV}(a:PAcc b e h v n cs):cs.length=n*e:=by
 rcases a with ⟨rfl,rfl,rfl⟩|⟨s,cap,rfl,h1,h2,h3,h4,h5⟩
 .simp
 .exact h3
theorem Own.ge{lo hi:Nat}{v:PV}(h:Own lo hi v):∀x∈ead v,lo<=x:=λx hx=>(h.lt x hx).1
theorem Owns.cons{lo t hi:Nat}{cs:List PV}{c:PV}(h:Owns lo t cs)(g:Own t hi c)(hl:lo<=t)(ht:t<=hi):Owns lo hi (c::cs):=by
 refine⟨⟨g.wh,h.wh⟩,?_,λo ho=>?_⟩
 .show(ead c++eads cs).Nodup
  rw[List.nodup_append];refine⟨g.nd,h.nd,λa ha b hb e=>?_⟩
  have:=g.lt a ha
  have:=h.lt b hb
  omega
 .rcases List.mem_append.1 (show o∈ead c++eads cs from ho)with ho|ho
  .have:=g.lt o ho;omega
  .have:=h.lt o ho;omega
end Go.Ab
namespace Go.Proofs
open Go.Ab Go.Lie
variable{U:PHeap}{K:PV->PHeap->Prop}{p:Int}{n:Nat}{W:L4}{vP vB vL vU:PV}{s:Nat}
theorem zI8{l m b:Nat}{w:Bool}{a:AV}{u:L4}{x:L3}{rows:List PV}(hs:PtrR U s p vP vB)(hP:FII vP W)(o:OkW p n W)(hn:0<n)(ha:PAcc b 1 U vU m rows)(xQ:s<b)(hr:All2 FI rows u)(hm:m=u.length)(hu:∀v∈u,El p n v/\dep v<n)(c6:u.length<=1048576)(hx:El p n x)(hl:l=x.length)
  (hk:∀v t,FI v (redL p W u x)->Own U.top t v->U.top<=t->K v (U.up t)):zA Tryz.prog 118 [.ptr s 0,vU,.fz w a l (pis x)] U K:=by
 subst hm;rcases ha with ⟨rfl,h1,h2⟩|⟨t0,cap,rfl,nk,q2,q3,q4,q5⟩
 .obtain rfl:u=[]:=List.eq_nil_of_length_eq_zero h1;exact zEJ hs hP o ⟨true,.nils,[],rfl,All2.nil _⟩ hu c6 hx hl hk
 .refine zA.lendT q2 (hr.bI 0) λo1 t1 iI=>?_;have ai:s≠t0:=by omega
  have gn:PtrR ((U.kill t0).up t1) s p vP vB:=⟨by show(if s=t0 then none else U.obj s)=_;rw[if_neg ai];exact hs.obj,hs.lt⟩
  simp only[sbs,sb,nk.ok,and_self,if_true];refine zEJ gn hP o ⟨true,_,rows,rfl,hr⟩ hu c6 hx hl λv t hv ho ht=>?_;have iX:=hv;have hz:=(Z4 o (u:=u) (λv hv=>(hu v hv).1) hx).1;obtain⟨w1,a1,rfl⟩:=hv;exact⟨t,w1,a1,_,_,rfl,ht,rfl,λe=>by rw[e]at hz;simp at hz;omega,ho.ge,hk _ t iX (ho.mono iI (vM _)) (Nat.le_trans iI ht)⟩
theorem zNL{aj:L4}(hs:PtrR U s p vP vB)(hP:FII vP W)(o:OkW p n W)(hp:isP p)(hL:FII vL aj)(he:Els p n aj)(nW:aj.length<=1048576)(hk:∀v out t,Canon p n W aj out->FII v out->Own U.top t v->U.top<=t->K v (U.up t)):
  zA Tryz.prog 109 [.ptr s 0,vL] U K:=by
 have aW:=o.le;have jb:=hp.bd;have mU:-1000000000<=p/\p<=1000000000:=by omega
 have lH:=o.len;obtain⟨wl,al,rl,rfl,aR⟩:=hL;have ki:=hP;obtain⟨wp,ap,rp,rfl,lR⟩:=hP;have gF:=hs.lt;have rT:U.rd1 s 1=some (.fz wp ap W.length rp):=by rw[zG hs.obj];rfl
 refine zA.gh ?_;refine zP mix Tryz.func109 cf109 rfl ?_;dsimp only[if109,qI,eI,qD,eD,mI0,lI0,fI0,xI0,bI0,cI0,sI0,pI0,C1,C3,mD0,lD0,fD0,xD0,pD0,I0,G0,gm0,aI0,zI0,yI0,vI0,R0,S0];simp only[Z3,seval,-ae,rT,lH,mk24 (n:=n) (by omega),mkL (n:=n) (by omega)];have fS:∀{u Q:L4},Grow p n W aj u Q->(∀v∈u,El p n v/\dep v<n)/\u.length<=n:=λg=>⟨λv hv=>⟨(g.led v hv).1,(g.led v hv).2.1⟩,QK (λv hv=>(g.led v hv).2.1) g.asc⟩
 refine zE7 aR.1 (aR.bI 0) nW λvQ h1 k1 q1=>?_;simp only[Z3,seval,-ae];refine zF (λm vs h'=>∃u Q vQ rb rq,m=2*(n-u.length)+Q.length/\vs=[.ptr s 0,.sl U.next 0 n (.known n),vQ]/\Keep (U.new rb) h'/\PQ (U.next+1) h' vQ Q.length rq/\All2 FI rq Q/\Grow p n W aj u Q/\BRows n u rb/\Q.length<=aj.length) (2*n+aj.length) ?_ ?_
 .refine⟨[],aj,vQ,_,rl,rfl,rfl,k1,q1,aR,Grow.start he,⟨by simp,λd hd=>.inl ⟨by simp,λy hy=>by cases hy⟩⟩,vM _⟩
 rintro m vs h' ⟨u,Q,vQ,rb,rq,rfl,rfl,aq,hq,fW,hg,hb,BX⟩
 have df:Keep U h':=aq.of;have bZ:=hs.keep df;have gr:h'.rd1 s 0=some (.int .i64 p):=by rw[zG bZ.obj];rfl
 have cX:h'.obj U.next=some rb:=by rw[aq.obj _ (by simp[PHeap.new])];simp[PHeap.new]
 cases Q with
 |nil=>
  have hlen:pLen vQ=some (.int .i64 0):=hq.pLen;have hw:IntKind.i64.wrap ((n:Int)-1)=(n:Int)-1:=wrap64 (by omega) (by omega);have du:=hg.base;have th:Fp u n=[]:=List.filter_eq_nil_iff.2 λv hv=>by have:=((fS hg).1 v hv).2;simp;omega
  simp only[Z3,seval,-ae,hlen,hw];refine zF (λm vs h2=>∃(k:Nat) (vO:PV) (rows:List PV),k<=n/\m=k/\vs=[.ptr s 0,.sl U.next 0 n (.known n),vO,.int .i64 ((k:Int)-1)]/\Keep (U.new rb) h2/\PAcc (U.next+1) 1 h2 vO (finI p W (Fp u k)).length rows/\All2 FI rows (finI p W (Fp u k))/\Owns U.top h2.top rows) n ⟨n,_,[],vM _,rfl,rfl,aq,by rw[th];exact PAcc.nil _ _ _,by rw[th];exact All2.nil _,Owns.nil _ _⟩ ?_
  rintro m vs h2 ⟨k,vO,rows,cw,rfl,rfl,cf,ha,ar,uK⟩
  have jc:Keep U h2:=cf.of;have gn:=hs.keep jc;have jJ:h2.obj U.next=some rb:=by rw[cf.obj _ (by simp[PHeap.new])];simp[PHeap.new]
  rcases Nat.eq_zero_or_pos m with rfl|lY
  .have wT:Fp u 0=u:=zCb λv hv=>Nat.zero_le _;rw[wT]at ar ha;have ta:=ha.one;simp only[Z3,seval,-ae,show ¬((0:Int)<=((0:Nat):Int)-1) by omega];have lG:PAcc U.next 1 h2 vO (finI p W u).length rows:=by
    rcases ha with x|⟨s9,c9,e1,e2,e3,e4,e5,e6⟩
    .exact .inl x
    .exact .inr ⟨s9,c9,e1,e2,e3,e4,by omega,e6⟩
   exact lG.own jc (ar.bI 0) uK λa t ho ht=>hk _ _ t (hg.done (zCX o du).1) ⟨true,a,rows,rfl,ar⟩ ho ht
  .obtain⟨k,rfl⟩:∃k,m=k+1:=⟨m-1,by omega⟩
   have e:((k+1:Nat):Int)-1=(k:Int):=by omega
   have cH:k<n:=cw;have dE:k<rb.length:=by rw[hb.1];exact cH
   have bg:=zG jJ k;rw[List.getElem?_eq_getElem dE]at bg;have iA:=du.fp' (k:=k+1);rw[e];have gl:IntKind.i64.wrap ((k:Int)-1)=(k:Int)-1:=wrap64 (by omega) (by omega);rcases hb.2 k dE with ⟨e1,e2⟩|⟨oo,cap,y,e1,e2,e3⟩
   .rw[e1]at bg;simp only[Z3,seval,-ae,cH,bg,gl];refine⟨_,Nat.lt_succ_self k,k,vO,rows,by omega,rfl,rfl,cf,?_,?_,uK⟩
    .rw[zGb e2];exact ha
    .rw[zGb e2];exact ar
   .rw[e1]at bg;obtain⟨y',y1,y2,y3⟩:=Fp_le hg.asc ⟨y,e2,e3⟩;obtain rfl:y'=y:=by
     rcases zAM hg.asc y1 e2 with x|x|x
     .exact x
     .omega
     .omega
    have ta:=ha.one;have wF:=ha.cells;simp only[Z3,seval,-ae,cH,bg,gl,ta,wF];have hF:=(zCX o iA).1;have rX:(finI p W (Fp u (k+1))).length<=n:=QK (λv hv=>(hF.base.led v hv).2.1) hF.base.asc;have hy:=((fS hg).1 y' e2).1;have eZ:=cf.next;simp only[PHeap.new]at eZ;refine zI8 gn ki o (by omega) ha (by omega) ar rfl (λv hv=>⟨(hF.base.led v hv).1,(hF.base.led v hv).2.1⟩) (by omega) hy hy.1.symm λv1 t1 f1 o1 iI=>?_;have aR:=(Z4 o (u:=finI p W (Fp u (k+1))) (λv hv=>(hF.base.led v hv).1) hy).1;have mi:finI p W (Fp u k)=redL p W (finI p W (Fp u (k+1))) y'::finI p W (Fp u (k+1)):=by rw[y3];rfl
    generalize finI p W (Fp u (k+1))=L at *
    generalize redL p W L y'=z at *
    have fH:=Keep.up (Keep.refl h2) iI;have BL:=ha.keep fH;have g1:=f1.one;have g2:=f1.cells;simp only[Z3,seval,-ae,g1,g2];refine PSl.app (bytes:=24) (b:=U.next+1) (σb:=h2.up t1) (n:=1) (m:=L.length) (cs:=[v1]) (news:=rows) (zD _ _) eZ (PSl.new _ 1 rfl (vM _)) ha.len (λh0=>(BL.keep (zD _ _)).first h0) ha.lenc (by omega) (by omega) λv3 h3 k3 a3=>?_;have D4:=a3;have ah:All2 FI ([v1]++rows) (z::L):=(All2.nil FI |>.snoc f1).append ar;simp only[Z3,seval,-ae,gl];refine⟨k,Nat.lt_succ_self k,k,v3,[v1]++rows,by omega,rfl,rfl,cf.trans (fH.trans k3),?_,by rw[mi];exact ah,?_⟩
    .rw[mi,List.length_cons,Nat.add_comm L.length 1];obtain⟨s3,iF,rfl,lD,pN,pY,jU,be⟩:=a3;exact .inr ⟨s3,iF,rfl,lD,pN,pY,by simp only[PHeap.up]at jU;omega,be⟩
    .exact(uK.cons o1 jc.top iI).mono (vM _) k3.top
 |cons x Q=>
  have hlen:=hq.pLen;obtain⟨c,dx,rfl,hc,fj⟩:∃c dx,rq=c::dx/\FI c x/\All2 FI dx Q:=by
   cases rq with
   |nil=>exact absurd fW.1 (by simp)
   |cons c dx=>exact⟨c,dx,rfl,fW.2 0 c x rfl rfl,⟨by simpa using fW.1,λk a b ha hb=>fW.2 (k+1) a b (by simpa using ha) (by simpa using hb)⟩⟩
  obtain⟨sq,off,cap,kM,rfl,bg,aD,gV,cJ⟩:=hq.uncons;obtain⟨w4,a4,rfl⟩:=hc;generalize dE:(x::Q).length=k at *
  have rQ:Q.length=k-1:=by rw[<-dE];simp
  have fO:(0:Int)<(k:Int):=by omega
  have hx:=hg.els x (by simp);simp only[Z3,seval,-ae,hlen,fO,aD,bg,gV];refine Qe rfl (by rw[hx.1];omega) ?_;simp only[Z3,seval,-ae];refine zF (λm vs h2=>∃x wX vX,m=n-dep x/\vs=[.ptr s 0,.sl U.next 0 n (.known n),kM,.fz wX vX n (pis x),.int .i64 (dep x)]/\h'=h2/\Grow p n W aj u (x::Q)) (n-dep x) ?_ ?_
  .exact⟨x,_,_,rfl,by rw[hx.1];rfl,rfl,hg⟩
  clear hg hx hlen dE
  rintro m vs h2 ⟨x,wX,vX,rfl,rfl,rfl,hg⟩
  have hx:=hg.els x (by simp);have aV:=hx.1;have nj:=QR x;by_cases hd:dep x<n
  .have c8:dep x<x.length:=by omega
   have oU:=hx.at0 o (dep x);have ai:=Zg c8;rw[at_eq c8]at oU ai;have iu:dep x<rb.length:=by rw[hb.1];exact hd
   have dD:=zG cX (dep x);rw[List.getElem?_eq_getElem iu]at dD;rcases hb.2 _ iu with ⟨e1,e2⟩|⟨oo,gP,y,e1,e2,e3⟩
   .rw[e1]at dD;have dh:((dep x:Int)=(n:Int))=False:=by simp;omega
    simp only[Z3,seval,-ae,hd,dD,dh,gr,zL,gi c8];refine zA9 hp (by omega) λq qb pF nP jk=>?_;simp only[Z3,seval,-ae,hd,dD,gr,zL,gi c8];refine zEF bZ ki o hx aV.symm (by omega) (by omega) λoz aU=>?_;have hT:Grow p n W aj (insD u (lmul p W q x)) (lmul p W p (lmul p W q x)::Q):=hg.take o hd e2 (k:=q) (by rw[at_eq c8];exact jk);obtain⟨y1,y2⟩:Led p n (lmul p W q x)/\dep (lmul p W q x)=dep x:=⟨(zAB o hx hd (k:=q) (by rw[at_eq c8];exact jk)).1,(zAB o hx hd (k:=q) (by rw[at_eq c8];exact jk)).2.1⟩
    have dw:=hb.take (o:=oz) (cap:=aU) hd y2;generalize lmul p W q x=y at *
    have hy:=y1.1;have iW:h'.wr U.next (dep x) [.fz true (.sl oz 0 n aU) n (pis y)]=some (h'.set U.next (rb.set (dep x) (.fz true (.sl oz 0 n aU) n (pis y)))):=by
     rw[Z9 cX,if_pos ⟨by rw[List.length_singleton];omega,rfl⟩];rw[List.append_assoc,List.singleton_append,List.length_singleton,take_set _ iu]
    have nT:Keep (U.new (rb.set (dep x) (.fz true (.sl oz 0 n aU) n (pis y)))) (h'.set U.next (rb.set (dep x) (.fz true (.sl oz 0 n aU) n (pis y)))):=aq.setN _;have mS:=cJ.set (Nat.lt_succ_self _) (rb.set (dep x) (.fz true (.sl oz 0 n aU) n (pis y)));have dC:(h'.set U.next (rb.set (dep x) (.fz true (.sl oz 0 n aU) n (pis y)))).rd1 U.next (dep x)=some (.fz true (.sl oz 0 n aU) n (pis y)):=by
     rw[zG (by rw[zI,if_pos rfl]),List.getElem?_set_self iu]
    have po:=bZ.set (by omega) (rb.set (dep x) (.fz true (.sl oz 0 n aU) n (pis y))) (t:=U.next);have lV:(h'.set U.next (rb.set (dep x) (.fz true (.sl oz 0 n aU) n (pis y)))).rd1 s 0=some (.int .i64 p):=by rw[zG po.obj];rfl
    have dA:(rb.set (dep x) (.fz true (.sl oz 0 n aU) n (pis y)))[dep x]? = some (.fz true (.sl oz 0 n aU) n (pis y)):=List.getElem?_set_self iu;simp only[Z3,seval,-ae,hd,iW,Nat.ne_of_lt gF,gr,dA];generalize h'.set U.next (rb.set (dep x) (.fz true (.sl oz 0 n aU) n (pis y)))=h3 at *
    generalize rb.set (dep x) (.fz true (.sl oz 0 n aU) n (pis y))=rb' at *
    refine Zn po ki o hy hy.1.symm (by omega) λv2=>?_;have hz:El p n (lmul p W p y):=(QD o hy p).1;generalize lmul p W p y=z at *
    simp only[Z3,seval,-ae];refine PQ.push (bytes:=24) (σb:=U.new rb') nT mS (by omega) (by omega) λv4 h4 k4 q4=>?_;simp only[Z3,seval,-ae];have c6:=(fS hT).2;rw[Zz]at c6;refine⟨_,?_,insD u y,Q++[z],v4,rb',dx++[.fz true v2 n (pis z)],rfl,rfl,k4,?_,fj.append (All2.nil FI |>.snoc ⟨true,v2,by rw[hz.1]⟩),hT.perm λv=>by simp[or_comm],dw,by rw[List.length_append,List.length_singleton];omega⟩
    .rw[Zz,List.length_append,List.length_singleton];omega
    .rw[List.length_append,List.length_singleton,rQ];exact q4
   .rw[e1]at dD;have hy:=((fS hg).1 y e2).1;have bN:IntKind.i64.wrap (0-x[dep x])=-x[dep x]:=by rw[wrap64 (by omega) (by omega)];omega
    simp only[Z3,seval,-ae,hd,dD,zL,gi c8,bN];refine Zn bZ ki o hy hy.1.symm (by omega) λv1=>?_;simp only[Z3,seval,-ae];refine Qv bZ ki o hx (zH o hy hy) aV.symm (zH o hy hy).1.symm λv2=>?_;obtain⟨g2,g3⟩:=hg.reduce1 o e2 e3;have nN:ladd p W x (lmul p W (-x[dep x]) y)=red1 p W x y:=by rw[zD5 o hx hy,red1,e3,at_eq c8]
    have hz:=g2.els _ (List.mem_cons_self ..);rw[nN];simp only[Z3,seval,-ae];refine Qe hz.1.symm (by rw[hz.1];omega) ?_;simp only[Z3,seval,-ae];exact⟨_,by omega,_,_,_,rfl,rfl,g2⟩
  .have dh:dep x=n:=by omega
   simp only[Z3,seval,-ae,dh,Nat.lt_irrefl];refine⟨_,?_,u,Q,kM,rb,dx,rfl,rfl,aq,by rw[rQ];exact cJ,fj,hg.drop λj=>?_,hb,by omega⟩
   .omega
   .rcases Nat.lt_or_ge j n with h|h
    .exact qF (by omega)
    .exact hx.beyond h
variable{B:L5}{c k:Nat}{f g:Vec}
def Lw(p:Int)(n:Nat)(W:L4)(B:L5)(k:Nat)(f:Vec):Prop:=∃u,Low p n W B k u/\Gen p n W u f
structure Rg(p:Int)(n:Nat)(W:L4)(B:L5)(c:Nat):Prop where
 o:OkW p n W
 q:OkB p n B
 nf:Zm p W B n
 cls:Cls p n W B c
theorem zH5:∀{m:Nat} {u:L4},Low p n W B m u->∀k,k<=m->∃v,Low p n W B k v
 |0,u,h,k,hk=>by
  have:k=0:=by omega
  subst this;exact⟨u,h⟩
 |m+1,u,h,k,hk=>by
  by_cases e:k=m+1
  .subst e;exact⟨u,h⟩
  .cases h with
   |succ h hc=>exact zH5 h k (by omega)
theorem Rg.low(r:Rg p n W B c)(k:Nat):∃u,Low p n W B k u:=by
 rcases Nat.le_total k c with x|x
 .exact zH5 r.cls.1 k x
 .obtain⟨u,⟨h,_⟩|h⟩:=zKi r.o r.q r.cls k
  .exact⟨u,h⟩
  .exact⟨[],by omega⟩
theorem Rg.sub(r:Rg p n W B c)(k:Nat):IsSub p n W (Lw p n W B k):=by
 obtain⟨u,hu⟩:=r.low k;have hs:=zQ (p:=p) (n:=n) (W:=W) u;have e:∀{f:Vec},Lw p n W B k f->Gen p n W u f:=λ{f} ⟨v,hv,hg⟩=>by rw[hu.unique r.o hv];exact hg
 exact⟨⟨u,hu,hs.zero⟩,λf g a b=>⟨u,hu,hs.add _ _ (e a) (e b)⟩,λk f a=>⟨u,hu,hs.mul _ _ (e a)⟩,λf g a b=>⟨u,hu,hs.eqv _ _ a (e b)⟩⟩
theorem Rg.all(r:Rg p n W B c){x:L3}(hx:El p n x):Lw p n W B 0 (at_ x):=⟨_,.zero,zGp r.o hx⟩
theorem Rg.brk(r:Rg p n W B c)(hf:Lw p n W B k f)(g:Vec):Lw p n W B (k+1) (brv B n f g):=by
 obtain⟨u,hu,hg⟩:=hf;obtain⟨v,hv⟩:=r.low (k+1);cases hv with
 |succ h hc=>
  rw[h.unique r.o hu]at hc;exact⟨v,.succ hu hc,zQu r.o r.q r.nf hc hg g⟩
theorem Rg.brk2(r:Rg p n W B c)(hg:Lw p n W B k g)(f:Vec):Lw p n W B (k+1) (brv B n f g):=
 (r.sub _).eqv _ _ (Eqv.of_eq λt=>zm f g t) ((r.sub _).mul (-1) _ (r.brk hg f))
theorem Rg.top(r:Rg p n W B c)(hk:c<=k)(hf:Lw p n W B k f):Eqv p n W f λ_=>0:=by
 obtain⟨u,hu,hg⟩:=hf;obtain⟨v,⟨hv,h0⟩|h⟩:=zKi r.o r.q r.cls k
 .rw[hu.unique r.o hv,h0 hk]at hg;exact zQ5 hg
 .omega
theorem Rg.down(r:Rg p n W B c):∀{k:Nat} {f:Vec},Lw p n W B (k+1) f->Lw p n W B k f
 |0,f,⟨u,hu,hg⟩=>⟨_,.zero,Qa (λv hv=>zGp r.o ((hu.els r.o).1 v hv)) hg⟩
 |k+1,f,⟨u,hu,hg⟩=>by
  cases hu with
  |succ h hc=>
   rename_i w;refine zIO (r.sub (k+1)) (λv hv=>?_) ((hc.gen f).2 hg);obtain⟨x,hx,hv⟩:=List.mem_flatMap.1 hv;obtain⟨e,he,rfl⟩:=List.mem_map.1 hv;exact(r.sub _).eqv _ _ (QT r.o r.q x e) (r.brk (r.down ⟨w,h,qO hx⟩) (at_ e))
theorem Rg.le(r:Rg p n W B c){j k:Nat}(h:j<=k){f:Vec}(hf:Lw p n W B k f):Lw p n W B j f:=by
 induction k with
 |zero=>
   have:j=0:=by omega
   subst this;exact hf
 |succ k ih=>
  by_cases e:j=k+1
  .subst e;exact hf
  .exact ih (by omega) (r.down hf)
theorem Rg.zero(r:Rg p n W B c)(hk:c<=k){z:L3}(hz:El p n z)(hf:Lw p n W B k (at_ z)):isZ z:=QL r.o hz (r.top hk hf)
theorem Rg.bL(r:Rg p n W B c){x y:L3}(hf:Lw p n W B k (at_ x)):Lw p n W B (k+1) (at_ (br p W B n x y)):=(r.sub _).eqv _ _ (QT r.o r.q x y) (r.brk hf _)
theorem Rg.bR(r:Rg p n W B c){x y:L3}(hf:Lw p n W B k (at_ y)):Lw p n W B (k+1) (at_ (br p W B n x y)):=(r.sub _).eqv _ _ (QT r.o r.q x y) (r.brk2 hf _)
theorem Rg.addL(r:Rg p n W B c){x y:L3}(hx:El p n x)(hy:El p n y)(h1:Lw p n W B k (at_ x))(h2:Lw p n W B k (at_ y)):Lw p n W B k (at_ (ladd p W x y)):=(r.sub _).eqv _ _ (Ze r.o hx hy) ((r.sub _).add _ _ h1 h2)
theorem Rg.mulL(r:Rg p n W B c){x:L3}(hx:El p n x)(m:Int)(h1:Lw p n W B k (at_ x)):Lw p n W B k (at_ (lmul p W m x)):=(r.sub _).eqv _ _ (Zk r.o hx m) ((r.sub _).mul m _ h1)
def Zp(p:Int)(W:L4)(B:L5)(n:Nat)(x y:L3):L3:=ladd p W (br p W B n x (br p W B n x y)) (br p W B n y (lmul p W (-1) (br p W B n x y)))
theorem QM(o:OkW p n W)(q:OkB p n B){x y:L3}:El p n (Zp p W B n x y):=zH o (br_el o q) (br_el o q)
theorem Rg.thd(r:Rg p n W B c){x y:L3}(hf:Lw p n W B k (at_ (br p W B n x y))):Lw p n W B (k+1) (at_ (Zp p W B n x y)):=
 r.addL (br_el r.o r.q) (br_el r.o r.q) (r.bR hf) (r.bR (r.mulL (br_el r.o r.q) (-1) hf))
theorem zGX{p:Int}(hp:isP p)(h:p≠2):Cop p 2/\Cop p (-2):=by
 rcases hp with rfl|rfl|rfl|rfl
 .exact absurd rfl h
 .exact⟨⟨2,1,by decide⟩,⟨1,-1,by decide⟩⟩
 .exact⟨⟨3,1,by decide⟩,⟨2,-1,by decide⟩⟩
 .exact⟨⟨4,1,by decide⟩,⟨3,-1,by decide⟩⟩
theorem zFr{p:Int}(hp:isP p)(h:p≠2)(h3:p≠3):Cop p 12/\Cop p (-12):=by
 rcases hp with rfl|rfl|rfl|rfl
 .exact absurd rfl h
 .exact absurd rfl h3
 .exact⟨⟨3,7,by decide⟩,⟨2,-5,by decide⟩⟩
 .exact⟨⟨3,5,by decide⟩,⟨4,-7,by decide⟩⟩
theorem Rg.two(r:Rg p n W B c)(hp:isP p)(hc:(c:Int)<p){z:L3}(hz:El p n z)(h:Lw p n W B 1 (at_ z)):isZ z\/(Cop p 2/\Cop p (-2)):=by
 by_cases h2:p=2
 .exact .inl (r.zero (by omega) hz h)
 .exact .inr (zGX hp h2)
theorem Rg.twelve(r:Rg p n W B c)(hp:isP p)(hc:(c:Int)<p){z:L3}(hz:El p n z)(h:Lw p n W B 2 (at_ z)):isZ z\/(Cop p 12/\Cop p (-12)):=by
 by_cases h2:p=2
 .exact .inl (r.zero (by omega) hz h)
 .by_cases h3:p=3
  .exact .inl (r.zero (by omega) hz h)
  .exact .inr (zFr hp h2 h3)
noncomputable def dv(p:Int)(n:Nat)(W:L4)(k:Int)(x:L3):L3:=Classical.epsilon (DivL p n W k x)
theorem dv_eq(o:OkW p n W){k:Int}{x z:L3}(hx:El p n x)(h:DivL p n W k x z)(hk:isZ x\/Cop p k):z=dv p n W k x:=
 h.unique o hx (Classical.epsilon_spec ⟨z,h⟩) hk
theorem zSE(o:OkW p n W){k:Int}{x:L3}(hx:El p n x):∃z,DivL p n W k x z:=by
 by_cases hz:isZ x
 .exact⟨x,hx,λ_=>rfl,λ_=>Eqv.of_eq λj=>by rw[QG hz,Int.mul_zero]⟩
 .by_cases hc:Cop p k
  .have hn:0<n:=by
    rcases Nat.eq_zero_or_pos n with h|h
    .exact absurd (by rw[List.eq_nil_of_length_eq_zero (hx.1.trans h)];intro y hy;cases hy) hz
    .exact h
   obtain⟨y,w,hy⟩:=zBS hc hn;exact⟨_,DivL.mk' o hx hz (y:=y) (zAf o λj hj=>hx.beyond hj) λ_=>⟨w,hy⟩⟩
  .exact⟨x,hx,λh=>absurd h hz,λh=>absurd h hc⟩
theorem Qm(o:OkW p n W){k:Int}{x:L3}(hx:El p n x):DivL p n W k x (dv p n W k x):=Classical.epsilon_spec (zSE o hx)
theorem dv_el(o:OkW p n W){k:Int}{x:L3}(hx:El p n x):El p n (dv p n W k x):=(Qm o hx).el
theorem zFq(o:OkW p n W){S:Vec->Prop}(hs:IsSub p n W S){k:Int}{x z:L3}(h:DivL p n W k x z)(hk:isZ x\/Cop p k)(hx:S (at_ x)):S (at_ z):=by
 rcases hk with hz|hc
 .rw[h.nil hz];exact hx
 .rcases Nat.eq_zero_or_pos n with hn|hn
  .refine hs.eqv _ _ (Eqv.of_eq λj=>?_) hs.zero;exact h.el.beyond (by omega)
  .obtain⟨a,w,ha⟩:=zBS (p:=p) hc hn;have k1:=(zAf o (f:=at_ z) (λj hj=>h.el.beyond hj)).mul w;have k2:=(Eqv.refl (p:=p) (n:=n) (W:=W) (at_ z)).add k1;refine hs.eqv _ _ ?_ (hs.mul a _ hx);refine(((Eqv.of_eq λj=>?_).trans k2.symm).trans (Eqv.of_eq λj=>?_)).trans ((h.eqv hc).mul a)
   .omega
   .grind
noncomputable def bch(p:Int)(n:Nat)(W:L4)(B:L5)(x y:L3):L3:=
 ladd p W (ladd p W (ladd p W x y) (dv p n W 2 (br p W B n x y))) (dv p n W 12 (Zp p W B n x y))
theorem Q8(o:OkW p n W)(q:OkB p n B){x y:L3}(hx:El p n x)(hy:El p n y):El p n (bch p n W B x y):=
 zH o (zH o (zH o hx hy) (dv_el o (br_el o q))) (dv_el o (QM o q))
noncomputable def fold(p:Int)(n:Nat)(W:L4)(B:L5)(xs:L4):L3:=xs.foldl (bch p n W B) (List.replicate n 0)
theorem zGr(xs:L4){i:Nat}(hi:i<xs.length):fold p n W B (xs.take (i+1))=bch p n W B (fold p n W B (xs.take i)) xs[i]:=by
 unfold fold;rw[List.take_succ_eq_append_getElem hi,List.foldl_append];rfl
theorem zBQ(o:OkW p n W)(q:OkB p n B):∀{xs:L4},Els p n xs->El p n (fold p n W B xs):=by
 have:∀(xs:L4) (a:L3),Els p n xs->El p n a->El p n (xs.foldl (bch p n W B) a):=by
  intro xs
  induction xs with
  |nil=>exactλa _ ha=>ha
  |cons x xs ih=>exactλa hx ha=>ih _ (λy hy=>hx y (by simp[hy])) (Q8 o q ha (hx x (by simp)))
 exactλ{xs} h=>this xs _ h (zAJ o.pr)
theorem Rg.brD(r:Rg p n W B c){x y:L3}(hx:El p n x):Lw p n W B 1 (at_ (br p W B n x y)):=r.bL (r.all hx)
theorem Rg.of_lie(hl:isLie p W B)(hz:isLz p W.length W B):∃c,Rg p W.length W B c/\(c:Int)<p:=by
 obtain⟨c,hc,hp⟩:=hz;exact⟨c,⟨hl.1.w,hl.1.b,hl.2,hc⟩,hp⟩
variable{x y:L3}{vx vy:PV}
structure Lz(p:Int)(n:Nat)(W:L4)(B:L5)(c:Nat):Prop where
 r:Rg p n W B c
 hp:isP p
 hc:(c:Int)<p
 pow:ipow p n<=729
theorem Lz.of(hl:isLie p W B)(hz:isLz p W.length W B):∃c,Lz p W.length W B c:=by
 obtain⟨c,r,hc⟩:=Rg.of_lie hl hz;exact⟨c,r,hl.1.1,hc,hl.1.2.2.2.1⟩
theorem Lz.d2(z:Lz p n W B c)(hx:El p n x):isZ (br p W B n x y)\/Cop p 2:=(z.r.two z.hp z.hc (br_el z.r.o z.r.q) (z.r.brD hx)).imp id (·.1)
theorem Lz.d12(z:Lz p n W B c)(hx:El p n x):isZ (Zp p W B n x y)\/Cop p 12:=(z.r.twelve z.hp z.hc (QM z.r.o z.r.q) (z.r.thd (z.r.brD hx))).imp id (·.1)
theorem zLv(z:Lz p n W B c)(hs:PtrR U s p vP vB)(hR:IsR vP vB W B)(hx:El p n x)(hy:El p n y)(aY:FI vx x)(fN:FI vy y)
  (hk:∀a v1 v2 v3 t,FI v1 (ladd p W x y)->FI v2 (dv p n W 2 (br p W B n x y))->FI v3 (dv p n W 12 (Zp p W B n x y))->Own U.top t (.fz true a 3 [v1,v2,v3])->U.top<=t->K (.fz true a 3 [v1,v2,v3]) (U.up t)):
  zA Tryz.prog 220 [.ptr s 0,vx,vy] U K:=by
 have o:=z.r.o;have q:=z.r.q;have aV:=hx.1;have gk:=hy.1;obtain⟨wx,ax,rfl⟩:=aY;obtain⟨wy,ay,rfl⟩:=fN;refine zA.gh ?_;have bel:=br_el o q (a:=x) (b:=y);refine zB mix Tryz.func220 ?_
 conv=>arg 2;cbv
 refine zC rfl ?_;simp only[Z3,seval,-ae];refine Za hs hR o q hx hy rfl rfl λv1=>?_;simp only[Z3,seval,-ae];refine Za hs hR o q hx bel rfl bel.1.symm λv2=>?_;simp only[Z3,seval,-ae];refine Zn hs hR.P o bel bel.1.symm (by decide) λv3=>?_;have m1:El p n (lmul p W (-1) (br p W B n x y)):=zH o bel bel;simp only[Z3,seval,-ae];refine Za hs hR o q hy m1 rfl m1.1.symm λv4=>?_;simp only[Z3,seval,-ae];have e2:El p n (br p W B n x (br p W B n x y)):=br_el o q;have e4:El p n (br p W B n y (lmul p W (-1) (br p W B n x y))):=br_el o q;refine Qv hs hR.P o e2 e4 e2.1.symm e4.1.symm λv5=>?_;simp only[Z3,seval,-ae];refine zA.fzIT (λK'=>zB8 hs hR.P o hx hy rfl rfl) λw1 t1 f1 o1 iI=>?_;have fD:PtrR (U.up t1) s p vP vB:=⟨hs.obj,hs.lt⟩;simp only[Z3,seval,-ae];refine zA.fzITx (λK'=>zC7 fD hR.P o z.pow bel bel.1.symm) λz2 w2 t2 d2 f2 o2 kA=>?_;have gn:PtrR (U.up t2) s p vP vB:=⟨hs.obj,hs.lt⟩;simp only[Z3,seval,-ae];have te:=QM o q (x:=x) (y:=y);refine zA.fzITx (λK'=>zC7 gn hR.P o z.pow (x:=Zp p W B n x y) te te.1.symm) λz3 w3 t3 d3 f3 o3 xO=>?_;rw[dv_eq o bel d2 (z.d2 hx)]at f2;rw[dv_eq o te d3 (z.d12 hx)]at f3;simp only[zBM]at o2 kA o3 xO;simp only[Z3,seval,-ae,f1.cells,f1.one,f2.cells,f2.one,f3.cells,f3.one];have uM:=(((Owns.nil U.top U.top).snoc o1 (vM _) iI).snoc o2 iI kA).snoc o3 (Nat.le_trans iI kA) xO;exact Gh.own (cs:=[w1,w2,w3]) ((Keep.refl U).new _ |>.up (by simp only[zEg];omega)) (by simp only[Z3,seval,-ae]) (vM _) ⟨f1.bel 0,f2.bel 0,f3.bel 0,trivial⟩ (by simp[capOK]) (uM.mono (vM _) (vM _)) λo4 t4 h1 h2=>hk _ w1 w2 w3 t4 f1 f2 f3 h1 h2
theorem zKE(z:Lz p n W B c)(hs:PtrR U s p vP vB)(hR:IsR vP vB W B)(hx:El p n x)(hy:El p n y)(aY:FI vx x)(fN:FI vy y)
  (hk:∀a v1 v2 v3,FI v1 (ladd p W x y)->FI v2 (dv p n W 2 (br p W B n x y))->FI v3 (dv p n W 12 (Zp p W B n x y))->K (.fz true a 3 [v1,v2,v3]) U):
  zA Tryz.prog 220 [.ptr s 0,vx,vy] U K:=
 zA.gh (zLv z hs hR hx hy aY fN λa v1 v2 v3 t f1 f2 f3 _ ht=>Gh.fin0 ((Keep.refl U).up ht) trivial (hk a v1 v2 v3 f1 f2 f3))
theorem zFv(z:Lz p n W B c)(hs:PtrR U s p vP vB)(hR:IsR vP vB W B)(hx:El p n x)(hy:El p n y)(aY:FI vx x)(fN:FI vy y)(hk:ResI U K (bch p n W B x y)):
  zA Tryz.prog 131 [.ptr s 0,vx,vy] U K:=by
 have o:=z.r.o;have q:=z.r.q;refine zB mix Tryz.func131 ?_
 conv=>arg 2;cbv
 refine zC rfl ?_;simp only[Z3,seval,-ae];refine zKE z hs hR hx hy aY fN λa v1 v2 v3 f1 f2 f3=>?_;obtain⟨w1,a1,rfl⟩:=f1;obtain⟨w2,a2,rfl⟩:=f2;obtain⟨w3,a3,rfl⟩:=f3;have e1:El p n (ladd p W x y):=zH o hx hy;have e2:=dv_el o (k:=2) (br_el o q (a:=x) (b:=y));have e3:=dv_el o (k:=12) (QM o q (x:=x) (y:=y));have e4:El p n (ladd p W (ladd p W x y) (dv p n W 2 (br p W B n x y))):=zH o e1 e2;have c0:(0:Int)<((3:Nat):Int):=by decide
 have c1:(1:Int)<((3:Nat):Int):=by decide
 have c2:(2:Int)<((3:Nat):Int):=by decide
 simp only[Z3,seval,-ae,c0,c1,c2];refine Qv hs hR.P o e1 e2 rfl rfl λv4=>?_;simp only[Z3,seval,-ae];refine zB8 hs hR.P o e4 e3 e4.1.symm rfl ⟨λh0=>?_,λcap hc=>?_⟩
 .simp only[Z3,seval,-ae];exact hk.1 h0
 .simp only[Z3,seval,-ae];exact hk.2 cap hc
theorem zJk(z:Lz p n W B c)(hR:IsR vP vB W B)(hx:El p n x)(hy:El p n y)(aY:FI vx x)(fN:FI vy y)
  (hk:∀a v1 v2 v3,FI v1 (ladd p W x y)->FI v2 (dv p n W 2 (br p W B n x y))->FI v3 (dv p n W 12 (Zp p W B n x y))->K (.fz true a 3 [v1,v2,v3]) U):
  zA Tryz.prog 221 [.agg [.int .i64 p,vP,vB],vx,vy] U K:=by
 have o:=z.r.o;have q:=z.r.q;have aV:=hx.1;have gk:=hy.1;have h1:=hR.P.one;have h2:=hR.B.one;obtain⟨wx,ax,rfl⟩:=aY;obtain⟨wy,ay,rfl⟩:=fN;refine zA.gh ?_;have bel:=br_el o q (a:=x) (b:=y);refine zB mix Tryz.func221 ?_
 conv=>arg 2;cbv
 refine zC rfl ?_;simp only[Z3,seval,-ae,h1,h2];refine qx hR o q hx hy rfl rfl λv1=>?_;simp only[Z3,seval,-ae];refine qx hR o q hx bel rfl bel.1.symm λv2=>?_;simp only[Z3,seval,-ae];refine qx hR o q hy bel rfl bel.1.symm λv3=>?_;simp only[Z3,seval,-ae];have e2:El p n (br p W B n x (br p W B n x y)):=br_el o q;have e3:El p n (br p W B n y (br p W B n x y)):=br_el o q;refine ZB hR o e2 e3 e2.1.symm e3.1.symm (by decide) (by decide) λv4=>?_;have te:=QM o q (x:=x) (y:=y);have Av:=third o q z.r.nf (x:=x) (y:=y) bel;rw[<-Av];simp only[Z3,seval,-ae];refine ZB hR o hx hy rfl rfl (by decide) (by decide) λv5=>?_;simp only[Z3,seval,-ae];refine zFZ hR o z.pow bel bel.1.symm λw6 v6 z2 d2=>?_;simp only[Z3,seval,-ae];refine zFZ hR o z.pow (x:=Zp p W B n x y) te te.1.symm λw7 v7 z3 d3=>?_;have cK:=dv_eq o bel d2 (z.d2 hx);have Al:=dv_eq o te d3 (z.d12 hx);subst cK;subst Al;simp only[Z3,seval,-ae];exact Gh.finF (s:=U.next+1) (cs:=[.fz true v5 n (pis (ladd p W x y)),.fz w6 v6 n (pis (dv p n W 2 (br p W B n x y))),.fz w7 v7 n (pis (dv p n W 12 (Zp p W B n x y)))]) (((zD U _).new _)) (by simp only[Z3,seval,-ae]) (by omega) ⟨trivial,trivial,trivial,trivial⟩ (by simp[capOK]) λo4=>hk _ _ _ _ ⟨true,v5,by rw[show(ladd p W x y).length=n from(zH o hx hy).1]⟩ ⟨w6,v6,by rw[d2.el.1]⟩ ⟨w7,v7,by rw[d3.el.1]⟩
theorem zDW(z:Lz p n W B c)(hR:IsR vP vB W B)(hx:El p n x)(hy:El p n y)(aY:FI vx x)(fN:FI vy y)(hk:∀v,FI v (bch p n W B x y)->K v U):
  zA Tryz.prog 132 [.agg [.int .i64 p,vP,vB],vx,vy] U K:=by
 have o:=z.r.o;have q:=z.r.q;have h1:=hR.P.one;have h2:=hR.B.one;refine zA.gh ?_;refine zB mix Tryz.func132 ?_
 conv=>arg 2;cbv
 refine zC rfl ?_;simp only[Z3,seval,-ae,h1,h2];refine zJk z hR hx hy aY fN λa v1 v2 v3 f1 f2 f3=>?_;obtain⟨w1,a1,rfl⟩:=f1;obtain⟨w2,a2,rfl⟩:=f2;obtain⟨w3,a3,rfl⟩:=f3;have e1:El p n (ladd p W x y):=zH o hx hy;have e2:=dv_el o (k:=2) (br_el o q (a:=x) (b:=y));have e3:=dv_el o (k:=12) (QM o q (x:=x) (y:=y));have e4:El p n (ladd p W (ladd p W x y) (dv p n W 2 (br p W B n x y))):=zH o e1 e2;have c0:(0:Int)<((3:Nat):Int):=by decide
 have c1:(1:Int)<((3:Nat):Int):=by decide
 have c2:(2:Int)<((3:Nat):Int):=by decide
 simp only[Z3,seval,-ae,c0,c1,c2];refine ZB hR o e1 e2 rfl rfl (by decide) (by decide) λv4=>?_;simp only[Z3,seval,-ae];refine ZB hR o (a:=ladd p W (ladd p W x y) (dv p n W 2 (br p W B n x y))) e4 e3 e4.1.symm rfl (by decide) (by decide) λv5=>?_;simp only[Z3,seval,-ae];exact Gh.fin0 (zD U _) trivial (hk _ ⟨true,v5,by rw[(Q8 o q hx hy).1];rfl⟩)
theorem zNS(o:OkW p n W)(hR:IsR vP vB W B)(hx:El p n x)(aY:FI vx x)(hk:∀v,FI v (lmul p W (-1) x)->K v U):
  zA Tryz.prog 275 [.agg [.int .i64 p,vP,vB],vx] U K:=by
 have h1:=hR.P.one;have h2:=hR.B.one;have aV:=hx.1;obtain⟨wx,ax,rfl⟩:=aY;refine zA.gh ?_;refine zB mix Tryz.func275 ?_
 conv=>arg 2;cbv
 refine zC rfl ?_;simp only[Z3,seval,-ae,h1,h2];refine ZB hR o hx hx rfl rfl (by decide) (by decide) λv5=>?_;simp only[Z3,seval,-ae];exact Gh.fin0 (zD U _) trivial (hk _ ⟨true,v5,by rw[show(lmul p W (-1) x).length=n from(zH o hx hx).1]⟩)
variable{xs:L4}
theorem zLw(z:Lz p n W B c)(hs:PtrR U s p vP vB)(hR:IsR vP vB W B)(hL:FII vL xs)(hx:Els p n xs)(hb:xs.length<=1048576)(hk:ResI U K (fold p n W B xs)):zA Tryz.prog 192 [.ptr s 0,vL] U K:=by
 have o:=z.r.o;have q:=z.r.q;have aW:=o.le;have eV:=o.len;have aH:=hR;obtain⟨wl,al,rl,rfl,aR⟩:=hL;obtain⟨⟨w1,a1,rP,rfl,hP⟩,hB⟩:=hR;refine zA.gh ?_;have ai:¬s=U.next:=Nat.ne_of_lt hs.lt;refine zB mix Tryz.func192 ?_
 conv=>arg 2;cbv
 refine zC rfl ?_;simp only[Z3,seval,-ae,zG hs.obj,ai,List.length_replicate,ZV,mk8 (n:=W.length) (by omega),mkL (n:=W.length) (by omega)];refine zF (λm vs h'=>∃i v,i<=xs.length/\m=xs.length-i/\vs=[.ptr s 0,v,.fz wl al xs.length rl,.int .i64 xs.length,.int .i64 (i:Nat)]/\Keep U h'/\PAcc U.next 1 h' v n (pis (fold p n W B (xs.take i)))) xs.length ?_ ?_
 .refine⟨0,_,by omega,by omega,rfl,zD U _,.inr ?_⟩;rw[eV];exact PSl.new U.next 1 (h:=U) (n:=n) (cs:=pis (List.replicate n 0)) (by rw[zJ];simp) (vM _)
 .rintro m vs h' ⟨i,v,hi,rfl,rfl,aq,ha⟩
  simp only[Z3,seval,-ae];refine iteI (λag=>?_) λaF=>?_
  .obtain⟨w4,a4,cb⟩:=aR.rowI ag;have bh:=zBQ o q (xs:=xs.take i) λy hy=>hx y (List.mem_of_mem_take hy);have kQ:=hx _ (List.getElem_mem ag);have e:∀{v':PV} {H:PHeap},Keep U H->PAcc U.next 1 H v' n (pis (bch p n W B (fold p n W B (xs.take i)) xs[i]))->∃n',n'<xs.length-i/\∃i' v,i'<=xs.length/\n'=xs.length-i'/\[PV.ptr s 0,v',.fz wl al xs.length rl,.int .i64 xs.length,.int .i64 ((i+1:Nat):Int)]=[.ptr s 0,v,.fz wl al xs.length rl,.int .i64 xs.length,.int .i64 (i':Nat)]/\Keep U H/\PAcc U.next 1 H v n (pis (fold p n W B (xs.take i'))):=λ{v' H} k1 k2=>by
    refine⟨_,by omega,i+1,v',by omega,rfl,rfl,k1,?_⟩;rw[zGr xs ag];exact k2
   have bl:=(Q8 o q bh kQ).1;simp only[Z3,seval,-ae,ag,cb];rcases ha with ⟨rfl,h0,h1⟩|⟨s',cap,rfl,hc,q2,q3,q4,q5⟩
   .refine zFv z (hs.keep aq) aH bh kQ ⟨true,.nils,by rw[h1,show(fold p n W B (xs.take i)).length=0 by rw[bh.1];exact h0]⟩ ⟨_,_,rfl⟩ ⟨λh2=>?_,λcap hc=>?_⟩
    .simp only[Z3,seval,-ae,wrapS ag (by omega:xs.length<=4611686018427387904)];exact e aq (.inl ⟨rfl,h0,by rw[h2];rfl⟩)
    .simp only[Z3,seval,-ae,wrapS ag (by omega:xs.length<=4611686018427387904)];refine e (aq.new _) (.inr ⟨_,cap,by rw[bl],by rw[<-bl];exact hc,by simp only[Z3,seval,-ae],by rw[zJ,bl,Nat.mul_one],aq.next,by simp[PHeap.new]⟩)
   .refine zA.frz (s:=s') (cs:=pis (fold p n W B (xs.take i))) q2 (zO _ _) λo1=>?_;have j3:=hc.ok;simp only[sbs,sb,j3,and_self,if_true];have cf:Keep U (h'.kill s'):=aq.kill q4;refine zFv z (hs.keep cf) aH bh kQ ⟨true,_,by rw[bh.1]⟩ ⟨_,_,rfl⟩ ⟨λh2=>?_,λcap hc=>?_⟩
    .simp only[Z3,seval,-ae,wrapS ag (by omega:xs.length<=4611686018427387904)];exact e cf (.inl ⟨rfl,by rw[<-bl,h2];rfl,by rw[h2];rfl⟩)
    .simp only[Z3,seval,-ae,wrapS ag (by omega:xs.length<=4611686018427387904)];refine e (cf.new _) (.inr ⟨_,cap,by rw[bl];rfl,by rw[<-bl];exact hc,by simp only[Z3,seval,-ae],by rw[zJ,bl,Nat.mul_one],cf.next,by simp[PHeap.new]⟩)
  .have aJ:i=xs.length:=by omega
   subst aJ;rw[List.take_length]at ha;exact ha.res aq (zBQ o q hx).1.symm hk
theorem zLV(z:Lz p n W B c)(hR:IsR vP vB W B)(hL:FII vL xs)(hx:Els p n xs)(hb:xs.length<=1048576)(hk:∀v,FI v (fold p n W B xs)->K v U):zA Tryz.prog 274 [.agg [.int .i64 p,vP,vB],vL] U K:=by
 have o:=z.r.o;have q:=z.r.q;have aW:=o.le;have eV:=o.len;have h1:=hR.P.one;have h2:=hR.B.one;obtain⟨wl,al,rl,rfl,aR⟩:=hL;refine zA.gh ?_;refine zB mix Tryz.func274 ?_
 conv=>arg 2;cbv
 refine zC rfl ?_;simp only[Z3,seval,-ae,h1,h2];refine zBE hR eV (by omega) λv0=>?_;simp only[Z3,seval,-ae];refine zF (λm vs h'=>∃i v,i<=xs.length/\m=xs.length-i/\vs=[.fz wl al xs.length rl,.ptr U.next 0,v,.int .i64 (i:Nat)]/\h'=U.new [.int .i64 p,vP,vB]/\FI v (fold p n W B (xs.take i))) xs.length ?_ ?_
 .exact⟨0,_,by omega,by omega,rfl,rfl,⟨true,v0,by rw[List.take_zero,show fold p n W B []=List.replicate n 0 from rfl,List.length_replicate];rfl⟩⟩
 .rintro m vs h' ⟨i,v,hi,rfl,rfl,rfl,hv⟩
  simp only[Z3,seval,-ae];refine iteI (λag=>?_) λaF=>?_
  .obtain⟨w4,a4,cb⟩:=aR.rowI ag;have bh:=zBQ o q (xs:=xs.take i) λy hy=>hx y (List.mem_of_mem_take hy);have kQ:=hx _ (List.getElem_mem ag);simp only[Z3,seval,-ae,ag,cb];refine zDW z hR bh kQ hv ⟨_,_,rfl⟩ λv' fC=>?_;simp only[Z3,seval,-ae,wrapS ag (by omega:xs.length<=4611686018427387904)];exact⟨_,by omega,i+1,v',by omega,rfl,rfl,by rw[zGr xs ag];exact fC⟩
  .have aJ:i=xs.length:=by omega
   subst aJ;rw[List.take_length]at hv;exact Gh.fin0 (zD U _) (hv.bel _) (hk v hv)
theorem rows3{v1 v2 v3:PV}{x1 x2 x3:L3}{w:Bool}{a:AV}(h1:FI v1 x1)(h2:FI v2 x2)(h3:FI v3 x3):FII (.fz w a 3 [v1,v2,v3]) [x1,x2,x3]:=⟨w,a,_,rfl,by simpa using (((All2.nil _).snoc h1).snoc h2).snoc h3⟩
theorem zFV(o:OkW p n W)(hx:El p n x):El p n (lmul p W (-1) x):=zH o hx hx
theorem els3{x1 x2 x3:L3}(h1:El p n x1)(h2:El p n x2)(h3:El p n x3):Els p n [x1,x2,x3]:=λy hy=>by simp at hy;rcases hy with rfl|rfl|rfl<;>assumption
theorem zAk(o:OkW p n W)(hs:PtrR U s p vP vB)(hP:FII vP W)(hx:El p n x)(aY:FI vx x){k:Int}(jR:-1000000000<=k/\k<=1000000000)(hk:∀v,FI v (lmul p W k x)->K v U):zA Tryz.prog 191 [.ptr s 0,.int .i64 k,vx] U K:=by
 obtain⟨wx,ax,rfl⟩:=aY;exact Zn hs hP o hx rfl jR λv=>hk _ ⟨_,_,by rw[show(lmul p W k x).length=n from(zH o hx hx).1]⟩
noncomputable def conj(p:Int)(n:Nat)(W:L4)(B:L5)(x y:L3):L3:=fold p n W B [lmul p W (-1) y,x,y]
theorem zLW(z:Lz p n W B c)(hR:IsR vP vB W B)(hx:El p n x)(hy:El p n y)(aY:FI vx x)(fN:FI vy y)(hk:∀v,FI v (conj p n W B x y)->K v U):
  zA Tryz.prog 186 [.agg [.int .i64 p,vP,vB],vx,vy] U K:=by
 have o:=z.r.o;have q:=z.r.q;have h1:=hR.P.one;have h2:=hR.B.one;refine zA.gh ?_;refine zB mix Tryz.func186 ?_
 conv=>arg 2;cbv
 refine zC rfl ?_;simp only[Z3,seval,-ae,h1,h2];refine zNS o hR hy fN λv1 f1=>?_;simp only[Z3,seval,-ae,f1.one,f1.cells,aY.one,aY.cells,fN.one,fN.cells];refine zA.frz (s:=U.next+1) (cs:=[v1,vx,vy]) (by simp only[Z3,seval,-ae]) ⟨f1.bel 0,aY.bel 0,fN.bel 0,trivial⟩ λo1=>?_;simp only[sbs,sb,capOK,and_self,if_true,decide_true,vM,hR.P.sb,hR.B.sb];refine zLV z hR (rows3 f1 aY fN) (els3 (zFV o hy) hx hy) (by simp) λv hv=>?_;simp only[Z3,seval,-ae];exact Gh.fin0 (((zD U _).new _).kill (by omega)) (hv.bel _) (hk v hv)
theorem zIj(f:Vec)(t:Nat):brv B n f f t=0:=by
 have:=zm (B:=B) (n:=n) f f t
 omega
variable{m:Nat}
theorem zQA(sz:SzR W B):totR W B<=1153000000000000000:=by
 have h1:=zCM (m:=1048576) (len:=List.length) sz.w;have h2:∀q∈B,totL List.length q<=1099511627776:=λq hq=>by
  have h3:=zCM (m:=1048576) (len:=List.length) (sz.c q hq);have h4:=sz.b q hq;omega
 have h3:=zCM (m:=1099511627776) (len:=totL List.length) h2;have h4:=sz.Wl;have h5:=sz.Bl;unfold totR;omega
theorem zHN(sz:SzL xs):totL List.length xs<=1099511627776:=by
 have h3:=zCM (m:=1048576) (len:=List.length) sz.r;have h4:=sz.l;omega
def adj(p:Int)(n:Nat)(W:L4)(B:L5)(y x:L3):Nat->L3
 |0=>x
 |j+1=>br p W B n (adj p n W B y x j) y
def fact:Nat->Int
 |0=>1
 |j+1=>fact j*(j+1:Nat)
noncomputable def cterm(p:Int)(n:Nat)(W:L4)(B:L5)(y x:L3)(j:Nat):L3:=dv p n W (fact j) (adj p n W B y x j)
theorem zSN(o:OkW p n W)(q:OkB p n B)(hx:El p n x):∀j,El p n (adj p n W B y x j)
 |0=>hx
 |j+1=>br_el o q
end Go.Proofs
namespace Go.Grp
end Go.Grp
namespace Go.Proofs
open Go.Ab Go.Lie Go.Grp
variable{U h h':PHeap}{K:PV->PHeap->Prop}{O:L3}{P:L4}{C:L5}{vO vP vC vx vL v c x:PV}{xs:L4}{b m t:Nat}{cs ds:List PV}
theorem _root_.Go.Ab.Keep.keepOf2{U T h:PHeap}{rr:List PV}(k:Keep (T.new rr) h)(kp:Keep U T):Keep U h:=(kp.new rr).trans k
def PT(b:Nat)(h:PHeap)(v:PV)(m:Nat)(cs:List PV):Prop:=
 (v=.fz true .nils 0 []/\m=0/\cs=[])\/∃s off cap row,v=.sl s off m cap/\(cap=.grown 1\/∃c,cap=.known c/\m<=c/\off+c<=row.length)/\h.obj s=some row/\(row.drop off).take m=cs/\off+m<=row.length/\b<=s/\s<h.next
theorem PT.len(a:PT b h v m cs):cs.length=m:=by
 rcases a with ⟨_,rfl,rfl⟩|⟨s,off,cap,row,rfl,h1,h2,h3,h4,h5,h6⟩
 .rfl
 .rw[<-h3,List.length_take,List.length_drop];omega
theorem PT.of(a:PSl b 1 h v m cs):PT b h v m cs:=by
 obtain⟨s,cap,rfl,h1,h2,h3,h4,h5⟩:=a;refine .inr ⟨s,0,cap,cs,rfl,?_,h2,by rw[List.drop_zero,List.take_of_length_le (by omega)],by omega,h4,h5⟩;rcases h1 with rfl|rfl
 .exact .inl rfl
 .exact .inr ⟨m,rfl,vM _,by omega⟩
theorem PT.set(a:PT b h v m cs)(ht:t<b)(ds:List PV):PT b (h.set t ds) v m cs:=by
 rcases a with a|⟨s,off,cap,row,rfl,h1,h2,h3,h4,h5,h6⟩
 .exact .inl a
 .exact .inr ⟨s,off,cap,row,rfl,h1,by rw[zI,if_neg (by omega)];exact h2,h3,h4,h5,h6⟩
theorem PT.pLen(a:PT b h v m cs):pLen v=some (.int .i64 m):=by
 rcases a with ⟨rfl,rfl,_⟩|⟨s,off,cap,row,rfl,_⟩<;>rfl
theorem PT.unsnoc(a:PT b h v (m+1) (cs++[c])):∃s off cap v',v=.sl s off (m+1) cap/\h.rd1 s (off+m)=some c/\QE 1 v none (some (.int .i64 m)) none=some v'/\PT b h v' m cs:=by
 have hl:=a.len;rcases a with ⟨_,e,_⟩|⟨s,off,cap,row,rfl,h1,h2,h3,h4,h5,h6⟩
 .cases e
 have hlen:cs.length=m:=by simpa using hl
 have e4:row[off+m]? = some c:=by
  have e:((row.drop off).take (m+1))[m]? = some c:=by
   rw[h3,List.getElem?_append_right (by omega),hlen,Nat.sub_self];rfl
  rw[List.getElem?_take_of_lt (by omega),List.getElem?_drop]at e;exact e
 have e3:(row.drop off).take m=cs:=by
  have e:((row.drop off).take (m+1)).take m=cs:=by rw[h3,List.take_append_of_le_length (by omega),List.take_of_length_le (by omega)]
  rw[List.take_take,Nat.min_eq_left (by omega)]at e;exact e
 have hz:(m:Int)<=((m+1:Nat):Int):=by omega
 rcases h1 with rfl|⟨k,rfl,e7,cf⟩
 .refine⟨s,off,_,.sl s off m (.grown 1),rfl,by rw[zG h2];exact e4,?_,.inr ⟨s,off,_,row,rfl,.inl rfl,h2,e3,by omega,h5,h6⟩⟩;simp only[Z3,seval,-ae,hz];rfl
 .have AN:(m:Int)<=(k:Int):=by omega
  refine⟨s,off,_,.sl s off m (.known k),rfl,by rw[zG h2];exact e4,?_,.inr ⟨s,off,_,row,rfl,.inr ⟨k,rfl,by omega,cf⟩,h2,e3,by omega,h5,h6⟩⟩;simp only[Z3,seval,-ae,hz,AN];rw[if_pos (show m<=k by omega)];simp
theorem PT.push{σb:PHeap}{bytes:Nat}{K:PV×PHeap->Prop}(eX:x.one=true)(hk:Keep σb h)(a:PT σb.next h v m cs)
  (h1:(m+1)*bytes<=140737488355328) (h2:m+1<=4611686018427387904) (k:∀v' h',Keep σb h'->PT σb.next h' v' (m+1) (cs++[x])->K (v',h')):optK (Zb 1 bytes (h.new [x]) v (.sl h.next 0 1 (.known 1))) K:=by
 have hl:=a.len;rcases a with ⟨rfl,rfl,rfl⟩|⟨s,off,cap,row,rfl,q1,q2,q3,q4,q5,q6⟩
 .exact PAcc.push hk (PAcc.nil _ _ _) h1 h2 λv' h' k1 k2=>k v' h' k1 (.of k2)
 rw[zAL];have hp:QF 1 (h.new [x]) (.sl h.next 0 1 (.known 1)) 1=some [x]:=by simp[Qs,zAd]
 have cX:(h.new [x]).obj s=some row:=by simp only[PHeap.new];rw[if_neg (by omega)];exact q2
 have hn:=hk.next;simp only[plen,Option.bind_some];rw[if_neg (by omega),hp];simp only[Option.bind_some];rcases q1 with rfl|⟨c,rfl,c1,c2⟩
 .rw[zAm,if_pos ⟨h1,h2,rfl⟩,cX];simp only[Option.bind_some];rw[if_pos (by omega),Nat.mul_one,q3];refine Zq rfl (k _ _ (((hk.new _).kill (by omega)).new _) (.inr ⟨(h.new [x]).next,0,_,cs++[x],rfl,.inl rfl,by simp[PHeap.new,PHeap.kill],?_,by simp[hl],by simp[PHeap.new];omega,by simp[PHeap.new,PHeap.kill]⟩));rw[List.drop_zero,List.take_of_length_le (by simp[hl])]
 .rw[zAl];by_cases hc:m+1<=c
  .rw[if_pos hc,Nat.mul_one,Z9 cX,if_pos ⟨by simp;omega,by simp[eX]⟩];simp only[Option.map_some,List.length_singleton];refine Zq rfl (k _ _ ((hk.new _).set q5 _) (.inr ⟨s,off,_,_,rfl,.inr ⟨c,rfl,hc,?_⟩,by rw[zI,if_pos rfl],?_,?_,q5,Nat.lt_succ_of_lt q6⟩))
   .simp;omega
   .have e1:(row.take (off+m)).length=off+m:=by simp;omega
    rw[List.append_assoc,List.drop_append_of_le_length (by omega),List.take_append,show((row.take (off+m)).drop off).length=m by simp;omega];have e2:(row.take (off+m)).drop off=cs:=by
     rw[<-q3,List.drop_take];congr 1;omega
    rw[e2,List.take_of_length_le (by omega),show m+1-m=1 by omega];simp
   .simp;omega
  .rw[if_neg hc,if_pos ⟨h1,h2⟩,ZN cX,if_pos (by omega),Nat.mul_one,q3];simp only[Option.map_some];refine Zq rfl (k _ _ ((hk.new _).new _) (.inr ⟨(h.new [x]).next,0,_,cs++[x],rfl,.inl rfl,by simp[PHeap.new],?_,by simp[hl],by simp[PHeap.new];omega,by simp[PHeap.new]⟩));rw[List.drop_zero,List.take_of_length_le (by simp[hl])]
theorem zNW(hL:FII vL xs)(sz:SzL xs)(hk:∀v h' rows,Keep U h'->PT U.next h' v xs.length rows->All2 FI rows xs->K v h'):zA Tryz.prog 180 [vL] U K:=by
 have hb:=sz.l;obtain⟨wl,al,rl,rfl,aR⟩:=hL;refine zB mix Tryz.func180 ?_
 conv=>arg 2;cbv
 refine zC rfl ?_;simp only[Z3,seval,-ae];refine zF (λm vs h'=>∃i v rows,i<=xs.length/\m=xs.length-i/\vs=[.fz wl al xs.length rl,v,.int .i64 (i:Nat)]/\Keep U h'/\PSl U.next 1 h' v i rows/\All2 FI rows (xs.take i)) xs.length ?_ ?_
 .exact⟨0,_,[],by omega,by omega,rfl,zD U _,PSl.new U.next 1 rfl (vM _),by simpa using All2.nil _⟩
 .rintro m vs h' ⟨i,v,rows,hi,rfl,rfl,aq,ha,ah⟩
  simp only[Z3,seval,-ae];refine iteI (λag=>?_) λaF=>?_
  .obtain⟨w4,a4,cb⟩:=aR.rowI ag;simp only[Z3,seval,-ae,ag,cb];refine zA.fz (e:=1) (λK'=>QW rfl (by have:=sz.r _ (List.getElem_mem ag);omega)) (zO _ _) λo cap=>?_;simp only[Z3,seval,-ae];refine PSl.push (bytes:=24) (σb:=U) aq ha (by omega) (by omega) λv2 h2 k2 a2=>?_;simp only[Z3,seval,-ae,wrapS ag (by omega:xs.length<=4611686018427387904)];refine⟨_,by omega,i+1,v2,_,by omega,rfl,rfl,k2,a2,?_⟩;rw[List.take_succ_eq_append_getElem ag];exact ah.snoc ⟨_,_,rfl⟩
  .have aJ:i=xs.length:=by omega
   subst aJ;rw[List.take_length]at ah;exact hk _ _ rows aq (.of ha) ah
theorem zFb{x:L3}{vx:PV}(g:LG O P C)(hR:IsPr vO vP vC O P C)(hx:gS O x)(aY:FI vx x){k:Int}(df:-1000<=k/\k<0)(hk:∀v,FI v (Grp.pw (gm O P C) (zv O) (ginv (gS O) (gm O P C) (zv O) x) (-k).toNat)->K v U):
  zA Tryz.prog 182 [.agg [vO,vP,vC],vx,.int .i64 k] U K:=by
 have h0:=hR.O.one;have h1:=hR.P.one;have h2:=hR.C.one;have M:=g.F.g.toMon;have e7:k<0:=df.2;have nQ:IntKind.i64.wrap (0-k)=-k:=by rw[wrap64 (by omega) (by omega)];omega
 refine zA.gh ?_;refine zB mix Tryz.func182 ?_
 conv=>arg 2;cbv
 refine zC rfl ?_;simp only[Z3,seval,-ae,h0,h1,h2,e7];refine zGh g.s g.co hR hx aY λv hv=>?_;simp only[Z3,seval,-ae,h0,h1,h2,nQ];refine zDX g.s (d:=O.length) (i:=0) (by omega) (zBj g.s (by omega)) M hR (g.F.g.inv_in hx).1 hv (by omega) λv hv=>?_;simp only[Z3,seval,-ae];exact Gh.fin0 (zD U _) (hv.bel _) (hk v hv)
end Go.Proofs
namespace Go.Proofs
open Go.Ab Go.Lie
variable{U:PHeap}{K:PV->PHeap->Prop}{n:Nat}{p:Int}
theorem u64_and{n:Nat}(hn:n<=6):pbin .and .other (.int .u64 n) (.int .u64 4294967295)=some (.int .u64 n):=by
 have hc:n=0\/n=1\/n=2\/n=3\/n=4\/n=5\/n=6:=by omega
 rcases hc with rfl|rfl|rfl|rfl|rfl|rfl|rfl<;>rfl
theorem zP9{n:Nat}(hn:n<=6):pbin .shr .other (.int .u64 n) (.int .u64 32)=some (.int .u64 0):=by
 have hc:n=0\/n=1\/n=2\/n=3\/n=4\/n=5\/n=6:=by omega
 rcases hc with rfl|rfl|rfl|rfl|rfl|rfl|rfl<;>rfl
theorem zHM{n:Nat}(hn:n<=6):IntKind.u64.wrap (n:Int)=n:=by
 have hc:n=0\/n=1\/n=2\/n=3\/n=4\/n=5\/n=6:=by omega
 rcases hc with rfl|rfl|rfl|rfl|rfl|rfl|rfl<;>rfl
theorem zPv(hn:n<=6)(hk:K (.tup [.int .u64 0,.int .u64 n]) U):zA Tryz.prog 318 [.int .u64 1,.int .u64 n] U K:=by
 have a1:pbin .and .other (.int .u64 1) (.int .u64 4294967295)=some (.int .u64 1):=rfl;have a0:pbin .and .other (.int .u64 0) (.int .u64 4294967295)=some (.int .u64 0):=rfl;have s1:pbin .shr .other (.int .u64 1) (.int .u64 32)=some (.int .u64 0):=rfl;have s0:pbin .shr .other (.int .u64 0) (.int .u64 32)=some (.int .u64 0):=rfl;have w0:IntKind.u64.wrap 0=0:=rfl;refine zB mix Tryz.func318 ?_
 conv=>arg 2;cbv
 refine zC rfl ?_;simp only[Z3,seval,-ae,a1,a0,s1,s0,u64_and hn,zP9 hn,zHM hn,w0,Int.one_mul,Int.zero_mul,Int.mul_zero,Int.add_zero];exact hk
theorem zSQ(hn:n<=6)(hk:K (.tup [.int .u64 0,.int .u64 n]) U):zA Tryz.prog 278 [.int .u64 1,.int .u64 n] U K:=by
 refine zB mix Tryz.func278 ?_
 conv=>arg 2;cbv
 refine zC rfl ?_;simp only[Z3,seval,-ae];refine zPv hn ?_;simp only[Z3,seval,-ae];exact hk
def fillR(p:Int)(n d:Nat):L3:=List.replicate d p++List.replicate (n-d) 0
theorem zDb{d:Nat}(hd:d<=n):(fillR p n d).length=n:=by simp[fillR];omega
theorem zHs{h:PHeap}{o d m len:Nat}{c1:Cap}{x:PV}{cs:List PV}(hx:plen x=some m)(hm:min m len≠0)(hf:QF 1 h x (min m len)=some cs){h':PHeap}(hw:h.wr o d cs=some h'):pcopy 1 h (.sl o d len c1) x=some (.int .i64 (min m len:Nat),h'):=by
 unfold pcopy;rw[show plen (.sl o d len c1)=some len from rfl,hx];simp only[Option.bind_some];rw[if_neg hm];simp only[hf,Option.bind_some,hw,Option.map_some]
theorem zNg{d m:Nat}(hd:d+m<=n)(hm:m<=d):(pis (fillR p n d)).take d++(pis (fillR p n d)).take m++(pis (fillR p n d)).drop (d+m)=pis (fillR p n (d+m)):=by
 unfold fillR pis;simp only[<-List.map_take,<-List.map_drop,<-List.map_append];congr 1;refine List.ext_getElem (by simp;omega) λi h1 h2=>?_;simp only[List.getElem_append,List.getElem_take,List.getElem_drop,List.getElem_replicate,List.length_append,List.length_take,List.length_replicate]
 repeat' split
 all_goals first|rfl|(exfalso;simp at *;omega)|omega
theorem zN3{w:Bool}{a:AV}{l:Nat}(hl:l=1)(hn:n<=6)(hk:∀v,FI v (List.replicate n p)->K v U):zA Tryz.prog 190 [.fz w a l (pis [p]),.int .i64 n] U K:=by
 subst hl;have c1:IntKind.u64.wrap ((1:Nat):Int)=1:=rfl;have bN:¬(n:Int)<0:=by omega
 have wq:¬(n:Int) > 9223372036854775807:=by omega
 refine zA.gh ?_;refine zB mix Tryz.func190 ?_
 conv=>arg 2;cbv
 refine zC rfl ?_;simp only[Z3,seval,-ae,bN,c1,zHM hn];refine zSQ hn ?_;have yJ:IntKind.i64.wrap (n:Int)=n:=wrap64 (by omega) (by omega);simp only[Z3,seval,-ae,wq,yJ,mk8 (n:=n) (by omega),mkL (n:=n) (by omega)];have fin:∀{h:PHeap},h=U.new (pis (List.replicate n p))->Gh U K (.sl U.next 0 n (.known n)) h:=λ{h} e=>by
  subst e;exact Gh.finF (cs:=pis (List.replicate n p)) (zD U _) (by simp only[Z3,seval,-ae]) (vM _) (zO _ _) (by simp[capOK]) λo=>hk _ ⟨true,.sl o 0 n (.known n),by simp⟩
 rcases Nat.eq_zero_or_pos n with rfl|aD
 .have hc:pcopy 1 (U.new []) (PV.sl U.next 0 0 (Cap.known 0)) (PV.fz w a 1 (pis [p]))=some (.int .i64 0,U.new []):=rfl;simp only[Z3,seval,-ae,hc];refine zF (λm us h'=>m=0/\us=[.sl U.next 0 0 (.known 0),.int .i64 0]/\h'=U.new []) 0 ⟨rfl,rfl,rfl⟩ ?_
  rintro m us h' ⟨rfl,rfl,rfl⟩
  simp only[Z3,seval,-ae];exact fin rfl
 have hc:pcopy 1 (U.new (List.replicate n (PV.int IntKind.i64 0))) (PV.sl U.next 0 n (Cap.known n)) (PV.fz w a 1 (pis [p]))=some (.int .i64 1,U.new (pis (fillR p n 1))):=by
  refine(zHs (m:=1) (len:=n) rfl (by rw[Nat.min_eq_left aD];decide) (cs:=pis [p]) (by rw[Nat.min_eq_left aD];rfl) (h':=U.new (pis (fillR p n 1))) ?_).trans (by rw[Nat.min_eq_left aD];rfl);have ho:(U.new (List.replicate n (PV.int IntKind.i64 0))).obj U.next=some (List.replicate n (PV.int IntKind.i64 0)):=by simp only[Z3,seval,-ae]
  rw[Z9 ho,if_pos ⟨by rw[List.length_replicate];show 0+1<=n;omega,rfl⟩];congr 1;simp only[PHeap.set,PHeap.new,PHeap.mk.injEq,true_and];funext t;split
  .simp[fillR,pis,aD]
  .rfl
 simp only[Z3,seval,-ae,hc];refine zF (λm us h'=>∃d:Nat,m=n-d/\us=[.sl U.next 0 n (.known n),.int .i64 d]/\1<=d/\d<=n/\h'=U.new (pis (fillR p n d))) (n-1) ⟨1,rfl,rfl,by omega,aD,rfl⟩ ?_
 rintro m us h' ⟨d,rfl,rfl,vY,dh,rfl⟩
 simp only[Z3,seval,-ae];refine iteI (λag=>?_) λaF=>?_;rotate_left
 .refine fin ?_;rw[show d=n by omega];simp[fillR]
 have aG:d<n:=by omega
 have CR:QE 1 (.sl U.next 0 n (.known n)) (some (.int .i64 d)) none none=some (.sl U.next d (n-d) (.known (n-d))):=by
  have h1:(0:Int)<=(d:Int)/\(d:Int)<=(n:Int):=by omega
  have h2:¬n=d:=by omega
  have h3:d<=n:=by omega
  simp[QE,qN,Qh,h1,h2,h3]
 have xx:QE 1 (.sl U.next 0 n (.known n)) none (some (.int .i64 d)) none=some (.sl U.next 0 d (.known n)):=by
  have h1:(0:Int)<=(d:Int)/\(d:Int)<=(n:Int):=by omega
  have h2:d<=n:=by omega
  have h3:¬n=0:=by omega
  simp[QE,qN,Qh,h1,h2,h3]
 have ho:(U.new (pis (fillR p n d))).obj U.next=some (pis (fillR p n d)):=by simp only[Z3,seval,-ae]
 have nk:pcopy 1 (U.new (pis (fillR p n d))) (.sl U.next d (n-d) (.known (n-d))) (.sl U.next 0 d (.known n))=some (.int .i64 (min d (n-d):Nat),U.new (pis (fillR p n (d+min d (n-d))))):=by
  refine zHs (m:=d) (len:=n-d) rfl (by rw[Nat.min_def];split<;>omega) (cs:=(pis (fillR p n d)).take (min d (n-d))) ?_ ?_
  .rw[Qs,if_neg (by omega),if_pos (by omega),ZN ho,if_pos (by rw[zJ,zDb (by omega)];omega)];simp
  .rw[Z9 ho,if_pos ⟨by rw[List.length_take,zJ,zDb (by omega)];omega,by simp[List.all_eq_true,pis];intro x hx;obtain⟨y,_,rfl⟩:=List.mem_map.1 (List.mem_of_mem_take hx);rfl⟩];congr 1;have e:=zNg (p:=p) (n:=n) (d:=d) (m:=min d (n-d)) (by omega) (by omega);have hl:((pis (fillR p n d)).take (min d (n-d))).length=min d (n-d):=by rw[List.length_take,zJ,zDb (by omega)];omega
   rw[hl,e];simp only[PHeap.set,PHeap.new,PHeap.mk.injEq,true_and];funext t;split<;>rfl
 have ew:IntKind.i64.wrap ((d:Int)+((min d (n-d):Nat):Int))=((d+min d (n-d):Nat):Int):=by rw[wrap64 (by omega) (by omega)];omega
 have nj:d<=n:=by omega
 have c7:¬n=d:=by omega
 have uU:¬n=0:=by omega
 simp only[Z3,seval,-ae,nj,c7,uU,nk,ew,Nat.sub_zero,Option.isNone_none,Option.isSome_none,Option.isNone_some,Option.isSome_some,Bool.false_eq_true,and_false,false_and,if_false];have pU:1<=min d (n-d)/\min d (n-d)<=n-d:=by rw[Nat.min_def];split<;>omega
 exact⟨_,by omega,d+min d (n-d),rfl,rfl,by omega,by omega,rfl⟩
variable{c m k s:Nat}{W:L4}{B:L5}{vP vB vx:PV}{x v:L3}
theorem lmix0{k:Int}{a b:L3}(h:b.length=a.length):lmix k a 0 b=lmix k a 0 a:=by
 unfold lmix;refine List.ext_getElem (by simp[h]) λi h1 h2=>?_;simp
theorem zFp(hx:El p n x)(hp:isP p)(i:Nat):0<=at_ x i/\at_ x i<=1000000:=by
 have:=hp.bd
 rcases Nat.lt_or_ge i x.length with h|h
 .have:=hx.2 _ (List.getElem_mem h);rw[at_eq h];omega
 .rw[at_ge h];omega
theorem pisA{i:Nat}(h:i<x.length):(pis x)[i]? = some (.int .i64 (at_ x i)):=by rw[zL,gi h,at_eq h];rfl
noncomputable def ptG(p:Int)(n:Nat)(W:L4)(B:L5)(e:L3):Nat->L3
 |0=>List.replicate n 0
 |i+1=>bch p n W B (ptG p n W B e i) (lmul p W (at_ e i) (unitL n i))
theorem zAK(o:OkW p n W)(q:OkB p n B)(e:L3):∀{i:Nat},i<=n->El p n (ptG p n W B e i)
 |0,_=>zAJ o.pr
 |i+1,hi=>Q8 o q (zAK o q e (by omega)) (zH o (zU o.pr (by omega)) (zU o.pr (by omega)))
theorem zHC(z:Lz p n W B c)(hs:PtrR U s p vP vB)(hR:IsR vP vB W B)(hx:El p n x)(aY:FI vx x)(hk:ResI U K (ptG p n W B x n)):zA Tryz.prog 108 [.ptr s 0,vx] U K:=by
 have o:=z.r.o;have q:=z.r.q;have aW:=o.le;have aV:=hx.1;obtain⟨wx,ax,rfl⟩:=aY;refine zA.gh ?_;have ai:¬s=U.next:=Nat.ne_of_lt hs.lt;refine zB mix Tryz.func108 ?_
 conv=>arg 2;cbv
 refine zC rfl ?_;simp only[Z3,seval,-ae,aV,List.length_replicate,ZV,mk8 (n:=n) (by omega),mkL (n:=n) (by omega)];refine zF (λm vs h'=>∃i v,i<=n/\m=n-i/\vs=[.ptr s 0,.fz wx ax n (pis x),v,.fz wx ax n (pis x),.int .i64 n,.int .i64 (i:Nat)]/\Keep U h'/\PAcc U.next 1 h' v n (pis (ptG p n W B x i))) n ?_ ?_
 .refine⟨0,_,by omega,by omega,rfl,zD U _,.inr ?_⟩;exact PSl.new U.next 1 (h:=U) (n:=n) (cs:=pis (List.replicate n 0)) (by rw[zJ];simp) (vM _)
 .rintro m vs h' ⟨i,v,hi,rfl,rfl,aq,ha⟩
  simp only[Z3,seval,-ae];refine iteI (λag=>?_) λaF=>?_
  .have bh:=zAK (B:=B) o q x hi;have hu:=zU (n:=n) o.pr ag;have hb:=zFp hx z.hp i;have ga:i<x.length:=by omega
   have e:∀{v':PV} {H:PHeap},Keep U H->PAcc U.next 1 H v' n (pis (ptG p n W B x (i+1)))->∃n',n'<n-i/\∃i' v,i'<=n/\n'=n-i'/\[PV.ptr s 0,.fz wx ax n (pis x),v',.fz wx ax n (pis x),.int .i64 n,.int .i64 ((i+1:Nat):Int)]=[.ptr s 0,.fz wx ax n (pis x),v,.fz wx ax n (pis x),.int .i64 n,.int .i64 (i':Nat)]/\Keep U H/\PAcc U.next 1 H v n (pis (ptG p n W B x i')):=λ{v' H} k1 k2=>
    ⟨_,by omega,i+1,v',by omega,rfl,rfl,k1,k2⟩
   have ne:=zH o (k:=at_ x i) (m:=0) hu hu;have bl:=(Q8 o q bh ne).1;simp only[Z3,seval,-ae,ag,pisA ga];refine qm (by omega) ag λa1=>?_;simp only[Z3,seval,-ae,pisA ga];refine zAk o (hs.keep aq) hR.P hu ⟨true,a1,by rw[hu.1]⟩ (k:=at_ x i) (by omega) λv1 f1=>?_;simp only[Z3,seval,-ae];rcases ha with ⟨rfl,h0,h1⟩|⟨s',cap,rfl,hc,q2,q3,q4,q5⟩
   .omega
   .refine zA.frz (s:=s') (cs:=pis (ptG p n W B x i)) q2 (zO _ _) λo1=>?_;have j3:=hc.ok;simp only[sbs,sb,j3,and_self,if_true,f1.sb];have cf:Keep U (h'.kill s'):=aq.kill q4;refine zFv z (hs.keep cf) hR bh ne ⟨true,_,by rw[bh.1]⟩ f1 ⟨λh2=>?_,λcap hc=>?_⟩
    .exact absurd bl (by rw[show bch p n W B (ptG p n W B x i) (norm p W (lmix (at_ x i) (unitL n i) 0 (unitL n i)))=[] from h2];simp;omega)
    .simp only[Z3,seval,-ae,wrapS ag (by omega:n<=4611686018427387904)];refine e (cf.new _) (.inr ⟨_,cap,by rw[show(bch p n W B (ptG p n W B x i) (lmul p W (at_ x i) (unitL n i))).length=n from bl];rfl,by rw[<-bl];exact hc,by simp only[Z3,seval,-ae];rfl,by rw[zJ,Nat.mul_one];exact bl,cf.next,by simp[PHeap.new]⟩)
  .have aJ:i=n:=by omega
   subst aJ;exact ha.res aq (zAK (B:=B) o q x (vM _)).1.symm hk
theorem zJi(z:Lz p n W B c)(hR:IsR vP vB W B)(hx:El p n x)(aY:FI vx x)(hk:∀v,FI v (ptG p n W B x n)->K v U):zA Tryz.prog 104 [.agg [.int .i64 p,vP,vB],vx] U K:=by
 have o:=z.r.o;have q:=z.r.q;have aW:=o.le;have eV:=o.len;have aV:=hx.1;have h1:=hR.P.one;have h2:=hR.B.one;obtain⟨wx,ax,rfl⟩:=aY;refine zA.gh ?_;refine zB mix Tryz.func104 ?_
 conv=>arg 2;cbv
 refine zC rfl ?_;simp only[Z3,seval,-ae,h1,h2,aV];refine zBE hR eV (by omega) λv0=>?_;simp only[Z3,seval,-ae];refine zF (λm vs h'=>∃i v,i<=n/\m=n-i/\vs=[.fz wx ax n (pis x),.ptr U.next 0,v,.int .i64 (i:Nat)]/\h'=U.new [.int .i64 p,vP,vB]/\FI v (ptG p n W B x i)) n ?_ ?_
 .exact⟨0,_,by omega,by omega,rfl,rfl,⟨true,v0,by rw[show ptG p n W B x 0=List.replicate n 0 from rfl,List.length_replicate];rfl⟩⟩
 .rintro m vs h' ⟨i,v,hi,rfl,rfl,rfl,hv⟩
  simp only[Z3,seval,-ae];refine iteI (λag=>?_) λaF=>?_
  .have bh:=zAK (B:=B) o q x hi;have hu:=zU (n:=n) o.pr ag;have hb:=zFp hx z.hp i;have ga:i<x.length:=by omega
   have ne:=zH o (k:=at_ x i) (m:=0) hu hu;simp only[Z3,seval,-ae,ag,pisA ga];refine Zf hR eV (by omega) ag λa1=>?_;simp only[Z3,seval,-ae,pisA ga];obtain⟨w0,a0,rfl⟩:=hv;refine ZB hR o hu bh hu.1.symm rfl (k:=at_ x i) (m:=0) (by omega) (by decide) λv1=>?_;rw[lmix0 (bh.1.trans hu.1.symm)];simp only[Z3,seval,-ae];refine zDW z hR bh ne ⟨_,_,rfl⟩ ⟨true,v1,by rw[ne.1]⟩ λv' fC=>?_;simp only[Z3,seval,-ae,wrapS ag (by omega:n<=4611686018427387904)];exact⟨_,by omega,i+1,v',by omega,rfl,rfl,fC⟩
  .have aJ:i=n:=by omega
   subst aJ;exact Gh.fin0 (zD U _) (hv.bel _) (hk v hv)
noncomputable def stG(p:Int)(n:Nat)(W:L4)(B:L5)(x:L3):Nat->L3×L3
 |0=>(List.replicate n 0,x)
 |i+1=>((stG p n W B x i).1.set i (at_ (stG p n W B x i).2 i),bch p n W B (lmul p W (-at_ (stG p n W B x i).2 i) (unitL n i)) (stG p n W B x i).2)
theorem QC:∀i,(stG p n W B x i).1.length=n
 |0=>List.length_replicate ..
 |i+1=>by rw[stG,List.length_set];exact QC i
theorem zAq(o:OkW p n W)(q:OkB p n B)(hx:El p n x):∀{i:Nat},i<=n->El p n (stG p n W B x i).2
 |0,_=>hx
 |i+1,hi=>Q8 o q (zH o (zU o.pr (by omega)) (zU o.pr (by omega))) (zAq o q hx (by omega))
noncomputable def vcG(p:Int)(n:Nat)(W:L4)(B:L5)(x:L3):L3:=(stG p n W B x n).1
theorem zC5(z:Lz p n W B c)(hs:PtrR U s p vP vB)(hR:IsR vP vB W B)(hx:El p n x)(aY:FI vx x)(hk:∀cap,full 1 cap n->K (.sl U.next 0 n cap) (U.new (pis (vcG p n W B x)))):zA Tryz.prog 95 [.ptr s 0,vx] U K:=by
 have o:=z.r.o;have q:=z.r.q;have aW:=o.le;have aV:=hx.1;obtain⟨wx,ax,rfl⟩:=aY;refine zA.gh ?_;have ai:¬s=U.next:=Nat.ne_of_lt hs.lt;refine zB mix Tryz.func95 ?_
 conv=>arg 2;cbv
 refine zC rfl ?_;simp only[Z3,seval,-ae,aV,List.length_replicate,ZV,mk8 (n:=n) (by omega),mkL (n:=n) (by omega)];refine zF (λm vs h'=>∃i v,i<=n/\m=n-i/\vs=[.ptr s 0,v,.int .i64 n,.sl U.next 0 n (.known n),.int .i64 n,.int .i64 (i:Nat)]/\h'=U.new (pis (stG p n W B x i).1)/\FI v (stG p n W B x i).2) n ?_ ?_
 .exact⟨0,.fz wx ax n (pis x),by omega,by omega,rfl,rfl,⟨_,_,by rw[show(stG p n W B x 0).2=x from rfl,aV]⟩⟩
 .rintro m vs h' ⟨i,v,hi,rfl,rfl,rfl,hv⟩
  simp only[Z3,seval,-ae];refine iteI (λag=>?_) λaF=>?_
  .have bh:=zAq (B:=B) o q hx hi;have hu:=zU (n:=n) o.pr ag;have hb:=zFp bh z.hp i;have lX:=QC (p:=p) (n:=n) (W:=W) (B:=B) (x:=x) i;have ga:i<(stG p n W B x i).2.length:=by rw[bh.1];exact ag
   have jM:i<(stG p n W B x i).1.length:=by omega
   obtain⟨w0,a0,rfl⟩:=hv;have dA:(pis (stG p n W B x i).1).take i++[.int .i64 (at_ (stG p n W B x i).2 i)]++(pis (stG p n W B x i).1).drop (i+1)=pis (stG p n W B x (i+1)).1:=qM jM;have fR:at_ (stG p n W B x (i+1)).1 i=at_ (stG p n W B x i).2 i:=by rw[stG,at_eq (by rw[List.length_set];exact jM)];simp
   have jq:i<(stG p n W B x (i+1)).1.length:=by rw[QC];exact ag
   have ne:=zH o (k:=-at_ (stG p n W B x i).2 i) (m:=0) hu hu;have bN:IntKind.i64.wrap (0-at_ (stG p n W B x i).2 i)=-at_ (stG p n W B x i).2 i:=by rw[wrap64 (by omega) (by omega)];omega
   have gn:PtrR (U.new (pis (stG p n W B x (i+1)).1)) s p vP vB:=hs.new _;simp only[Z3,seval,-ae,ag,pisA ga,ga,jM,Nat.succ_le_of_lt jM,zJ,dA,pisA jq,fR,bN];refine qm (by omega) ag λa1=>?_;simp only[Z3,seval,-ae,pisA jq,fR];refine zAk o gn hR.P hu ⟨true,a1,by rw[hu.1]⟩ (k:=-at_ (stG p n W B x i).2 i) (by omega) λv1 f1=>?_;simp only[Z3,seval,-ae];refine zA.fzI (λK'=>zFv z gn hR ne bh f1 ⟨_,_,rfl⟩) λa2=>?_;simp only[Z3,seval,-ae,wrapS ag (by omega:n<=4611686018427387904)];exact⟨_,by omega,i+1,_,by omega,rfl,rfl,rfl,⟨_,_,rfl⟩⟩
  .have aJ:i=n:=by omega
   subst aJ;exact Gh.finS (zD U _) (by simp only[Z3,seval,-ae];rfl) (vM _) (zO _ _) (hk _ (.inr rfl))
theorem zDV(z:Lz p n W B c)(hR:IsR vP vB W B)(hx:El p n x)(aY:FI vx x)(hk:∀v,FI v (vcG p n W B x)->K v U):zA Tryz.prog 86 [.agg [.int .i64 p,vP,vB],vx] U K:=by
 have o:=z.r.o;have q:=z.r.q;have aW:=o.le;have eV:=o.len;have aV:=hx.1;have h1:=hR.P.one;have h2:=hR.B.one;obtain⟨wx,ax,rfl⟩:=aY;refine zA.gh ?_;refine zB mix Tryz.func86 ?_
 conv=>arg 2;cbv
 refine zC rfl ?_;simp only[Z3,seval,-ae,h1,h2,aV];refine zER hR eV (by omega) λcap hc=>?_;simp only[Z3,seval,-ae];refine zF (λm vs h'=>∃i v,i<=n/\m=n-i/\vs=[.fz wx ax n (pis x),.ptr U.next 0,.sl (U.next+1) 0 n cap,v,.int .i64 (i:Nat)]/\h'=(U.new [.int .i64 p,vP,vB]).new (pis (stG p n W B x i).1)/\FI v (stG p n W B x i).2) n ?_ ?_
 .exact⟨0,.fz wx ax n (pis x),by omega,by omega,rfl,rfl,⟨_,_,by rw[show(stG p n W B x 0).2=x from rfl,aV]⟩⟩
 .rintro m vs h' ⟨i,v,hi,rfl,rfl,rfl,hv⟩
  simp only[Z3,seval,-ae];refine iteI (λag=>?_) λaF=>?_
  .have bh:=zAq (B:=B) o q hx hi;have hu:=zU (n:=n) o.pr ag;have hb:=zFp bh z.hp i;have lX:=QC (p:=p) (n:=n) (W:=W) (B:=B) (x:=x) i;have ga:i<(stG p n W B x i).2.length:=by rw[bh.1];exact ag
   have jM:i<(stG p n W B x i).1.length:=by omega
   obtain⟨w0,a0,rfl⟩:=hv;have dA:(pis (stG p n W B x i).1).take i++[.int .i64 (at_ (stG p n W B x i).2 i)]++(pis (stG p n W B x i).1).drop (i+1)=pis (stG p n W B x (i+1)).1:=qM jM;have fR:at_ (stG p n W B x (i+1)).1 i=at_ (stG p n W B x i).2 i:=by rw[stG,at_eq (by rw[List.length_set];exact jM)];simp
   have jq:i<(stG p n W B x (i+1)).1.length:=by rw[QC];exact ag
   have ne:=zH o (k:=-at_ (stG p n W B x i).2 i) (m:=0) hu hu;have bN:IntKind.i64.wrap (0-at_ (stG p n W B x i).2 i)=-at_ (stG p n W B x i).2 i:=by rw[wrap64 (by omega) (by omega)];omega
   simp only[Z3,seval,-ae,ag,pisA ga,ga,jM,Nat.succ_le_of_lt jM,zJ,dA,pisA jq,fR,bN];refine Zf hR eV (by omega) ag λa1=>?_;simp only[Z3,seval,-ae,pisA jq,fR];refine ZB hR o hu bh hu.1.symm rfl (k:=-at_ (stG p n W B x i).2 i) (m:=0) (by omega) (by decide) λv1=>?_;rw[lmix0 (bh.1.trans hu.1.symm)];simp only[Z3,seval,-ae];refine zDW z hR ne bh ⟨true,v1,by rw[ne.1]⟩ ⟨_,_,rfl⟩ λv' fC=>?_;simp only[Z3,seval,-ae,wrapS ag (by omega:n<=4611686018427387904)];exact⟨_,by omega,i+1,v',by omega,rfl,rfl,rfl,fC⟩
  .have aJ:i=n:=by omega
   subst aJ;exact Gh.finF (s:=U.next+1) ((zD U _).new _) (by simp only[Z3,seval,-ae];rfl) (by omega) (zO _ _) hc.ok λo1=>hk _ ⟨true,.sl o1 0 i cap,by rw[show(vcG p i W B x).length=i from QC i];rfl⟩
structure LS where
 s:Nat
 cap:Cap
 cs:List PV
def LS.pv(q:LS):PV:=.sl q.s 0 q.cs.length q.cap
def LS.ok(h:PHeap)(b:Nat)(q:LS):Prop:=full 1 q.cap q.cs.length/\h.obj q.s=some q.cs/\b<=q.s/\q.s<h.next
def LS.pvo:Option LS->PV
 |none=>.fz true .nils 0 []
 |some q=>q.pv
def LS.slots:List (Option LS)->List Nat
 |[]=>[]
 |none::ls=>LS.slots ls
 |some q::ls=>q.s::LS.slots ls
theorem LS.slots_app:∀(a b:List (Option LS)),LS.slots (a++b)=LS.slots a++LS.slots b
 |[],b=>rfl
 |none::a,b=>by simp only[List.cons_append,LS.slots,LS.slots_app a b]
 |some q::a,b=>by simp only[List.cons_append,LS.slots,LS.slots_app a b]
theorem LS.mem_slots{s:Nat}:∀{ls:List (Option LS)},s∈LS.slots ls↔∃q,some q∈ls/\q.s=s
 |[]=>by simp[LS.slots]
 |none::ls=>by simp[LS.slots,LS.mem_slots (ls:=ls)]
 |some q::ls=>by
  simp only[LS.slots,List.mem_cons,LS.mem_slots (ls:=ls)];constructor
  .rintro(rfl|⟨q',h1,h2⟩)
   .exact⟨q,.inl rfl,rfl⟩
   .exact⟨q',.inr h1,h2⟩
  .rintro⟨q',h1|h1,h2⟩
   .cases h1;exact .inl h2.symm
   .exact .inr ⟨q',h1,h2⟩
theorem LS.ok.move{h h2:PHeap}{b:Nat}{q:LS}(a:q.ok h b)(ho:h2.obj q.s=h.obj q.s)(hn:h.next<=h2.next):q.ok h2 b:=⟨a.1,by rw[ho];exact a.2.1,a.2.2.1,Nat.lt_of_lt_of_le a.2.2.2 hn⟩
theorem zBy{b e m:Nat}{h h2:PHeap}{v:PV}{cs:List PV}(a:PAcc b e h v m cs)(ho:∀s off l c,v=.sl s off l c->h2.obj s=h.obj s)(hn:h.next<=h2.next):PAcc b e h2 v m cs:=by
 rcases a with a|⟨s,cap,rfl,h1,gR,h3,h4,h5⟩
 .exact .inl a
 .exact .inr ⟨s,cap,rfl,h1,by rw[ho s 0 _ cap rfl];exact gR,h3,h4,Nat.lt_of_lt_of_le h5 hn⟩
theorem zAe{b e m:Nat}{h:PHeap}{v:PV}{cs:List PV}(a:PAcc b e h v m cs){s off l:Nat}{c:Cap}(hv:v=.sl s off l c):s<h.next:=by
 rcases a with ⟨rfl,_⟩|⟨s',cap,rfl,h1,gR,h3,h4,h5⟩
 .cases hv
 .cases hv;exact h5
structure TI(U h:PHeap)(p0 sO:Nat)(vO vP vC:PV)(cO pc:List PV)(ls:List (Option LS)):Prop where
 keep:Keep U h
 obj:h.obj p0=some [vO,vP,vC]
 p0b:U.next<=p0/\p0<h.next
 oO:h.obj sO=some cO
 sOb:U.next<=sO/\sO<h.next
 pO:p0≠sO
 accP:PAcc U.next 1 h vP pc.length pc
 accC:PAcc U.next 1 h vC ls.length (ls.map LS.pvo)
 ok:∀q,some q∈ls->q.ok h U.next
 nd:(LS.slots ls).Nodup
 neP:∀s,s∈LS.slots ls\/s=p0\/s=sO->∀off l c,vP≠.sl s off l c
 neC:∀s,s∈LS.slots ls\/s=p0\/s=sO->∀off l c,vC≠.sl s off l c
 neL:p0∉LS.slots ls/\sO∉LS.slots ls
 nePC:∀s off l c,vP=.sl s off l c->∀off l c,vC≠.sl s off l c
variable{h:PHeap}{p0 sO:Nat}{vO vP vC:PV}{cO pc:List PV}{ls:List (Option LS)}
theorem TI.lt(a:TI U h p0 sO vO vP vC cO pc ls){s:Nat}(hs:s∈LS.slots ls):U.next<=s/\s<h.next:=by
 obtain⟨q,hq,rfl⟩:=LS.mem_slots.1 hs
 have:=a.ok q hq
 exact⟨this.2.2.1,this.2.2.2⟩
theorem TI.keepI{h2:PHeap}(a:TI U h p0 sO vO vP vC cO pc ls)(k:Keep h h2):TI U h2 p0 sO vO vP vC cO pc ls:=
  ⟨a.keep.trans k,by rw[k.obj _ a.p0b.2];exact a.obj,⟨a.p0b.1,Nat.lt_of_lt_of_le a.p0b.2 k.next⟩,by rw[k.obj _ a.sOb.2];exact a.oO,⟨a.sOb.1,Nat.lt_of_lt_of_le a.sOb.2 k.next⟩,a.pO,a.accP.keep k,a.accC.keep k,
   λq hq=>(a.ok q hq).move (k.obj _ (a.ok q hq).2.2.2) k.next,a.nd,a.neP,a.neC,a.neL,a.nePC⟩
theorem TI.pushP{K:PV×PHeap->Prop}{row:PV}(a:TI U h p0 sO vO vP vC cO pc ls)(aK:vO.one=true/\vC.one=true)(hb:pc.length<=1000)
  (k:∀v' h2,v'.one=true->v'.cells=[v']->h2.wr p0 1 [v']=some (h2.set p0 [vO,v',vC])->TI U (h2.set p0 [vO,v',vC]) p0 sO vO v' vC cO (pc++[row]) ls->h.next<h2.next->K (v',h2)):
  optK (Zb 1 24 (h.new [row]) vP (.sl h.next 0 1 (.known 1))) K:=by
 refine PAcc.pushS (σb:=U) (bytes:=24) a.keep a.accP rfl (by omega) (by omega) λv' h2 k2 a2 o2 n2 l2=>?_;have hp:=a.p0b;have hs:=a.sOb;have jm:h2.obj p0=some [vO,vP,vC]:=by rw[o2 _ hp.2 (a.neP _ (.inr (.inl rfl)))];exact a.obj
 refine k v' h2 a2.one a2.cells (by rw[Z9 jm,if_pos ⟨by simp,by simp[a2.one]⟩];rfl) ⟨k2.set hp.1 _,by rw[zI,if_pos rfl],⟨hp.1,by show p0<h2.next;omega⟩,?_,⟨hs.1,by show sO<h2.next;omega⟩,a.pO,?_,?_,λq hq=>?_,a.nd,λs hs=>?_,a.neC,a.neL,λs off l c e=>?_⟩ l2
 .rw[zI,if_neg (Ne.symm a.pO),o2 _ hs.2 (a.neP _ (.inr (.inr rfl)))];exact a.oO
 .have a3:PAcc U.next 1 (h2.set p0 [vO,v',vC]) v' (pc.length+1) (pc++[row]):=zBy a2.acc (λs off l c e=>by rw[zI,if_neg λe2=>n2 p0 hp.2 off l c (by rw[e,e2])]) (vM _);simpa using a3
 .refine zBy a.accC (λs off l c e=>?_) (Nat.le_of_lt l2);have kU:s≠p0:=λe2=>a.neC p0 (.inr (.inl rfl)) off l c (by rw[e,e2]);rw[zI,if_neg kU,o2 s (zAe a.accC e) λdi l' c' e'=>a.nePC s di l' c' e' off l c e]
 .have cJ:=a.ok q hq;have hm:q.s∈LS.slots ls:=LS.mem_slots.2 ⟨q,hq,rfl⟩;refine cJ.move ?_ (Nat.le_of_lt l2);rw[zI,if_neg λe=>a.neL.1 (by rw[<-e];exact hm),o2 _ cJ.2.2.2 (a.neP _ (.inl hm))]
 .have:s<h.next:=by
   rcases hs with hs|rfl|rfl
   .exact(a.lt hs).2
   .exact hp.2
   .omega
  exact n2 s this
 .intro di l' c' e';exact n2 s (zAe a.accC e') off l c e
theorem TI.pushC{K:PV×PHeap->Prop}{o:Option LS}(a:TI U h p0 sO vO vP vC cO pc ls)(aK:vO.one=true/\vP.one=true)(hb:ls.length<=1000)
  (ho:∀q,o=some q->q.ok h U.next/\q.s∉LS.slots ls/\q.s≠p0/\q.s≠sO/\(∀off l c,vP≠.sl q.s off l c)/\∀off l c,vC≠.sl q.s off l c)
  (k:∀v' h2,v'.one=true->v'.cells=[v']->h2.wr p0 2 [v']=some (h2.set p0 [vO,vP,v'])->TI U (h2.set p0 [vO,vP,v']) p0 sO vO vP v' cO pc (ls++[o])->h.next<h2.next->K (v',h2)):
  optK (Zb 1 24 (h.new [LS.pvo o]) vC (.sl h.next 0 1 (.known 1))) K:=by
 refine PAcc.pushS (σb:=U) (bytes:=24) a.keep a.accC rfl (by omega) (by omega) λv' h2 k2 a2 o2 n2 l2=>?_;have hp:=a.p0b;have hs:=a.sOb;have jm:h2.obj p0=some [vO,vP,vC]:=by rw[o2 _ hp.2 (a.neC _ (.inr (.inl rfl)))];exact a.obj
 have mo:∀s,s∈LS.slots (ls++[o])->s∈LS.slots ls\/∃q,o=some q/\q.s=s:=λs hs=>by
  rw[LS.slots_app,List.mem_append]at hs;refine hs.imp id λhs=>?_;obtain⟨q,hq,e⟩:=LS.mem_slots.1 hs;exact⟨q,(List.mem_singleton.1 hq).symm,e⟩
 refine k v' h2 a2.one a2.cells (by rw[Z9 jm,if_pos ⟨by simp,by simp[a2.one]⟩];rfl) ⟨k2.set hp.1 _,by rw[zI,if_pos rfl],⟨hp.1,by show p0<h2.next;omega⟩,?_,⟨hs.1,by show sO<h2.next;omega⟩,a.pO,?_,?_,λq hq=>?_,?_,λs hs=>?_,λs hs=>?_,⟨λhm=>?_,λhm=>?_⟩,λs off l c e=>?_⟩ l2
 .rw[zI,if_neg (Ne.symm a.pO),o2 _ hs.2 (a.neC _ (.inr (.inr rfl)))];exact a.oO
 .refine zBy a.accP (λs off l c e=>?_) (Nat.le_of_lt l2);have kU:s≠p0:=λe2=>a.neP p0 (.inr (.inl rfl)) off l c (by rw[e,e2]);rw[zI,if_neg kU,o2 s (zAe a.accP e) (a.nePC s off l c e)]
 .have a3:PAcc U.next 1 (h2.set p0 [vO,vP,v']) v' (ls.length+1) (ls.map LS.pvo++[LS.pvo o]):=zBy a2.acc (λs off l c e=>by rw[zI,if_neg λe2=>n2 p0 hp.2 off l c (by rw[e,e2])]) (vM _);simpa using a3
 .rcases List.mem_append.1 hq with hq|hq
  .have cJ:=a.ok q hq;have hm:q.s∈LS.slots ls:=LS.mem_slots.2 ⟨q,hq,rfl⟩;refine cJ.move ?_ (Nat.le_of_lt l2);rw[zI,if_neg λe=>a.neL.1 (by rw[<-e];exact hm),o2 _ cJ.2.2.2 (a.neC _ (.inl hm))]
  .obtain⟨h1,h3,h4,h5,h6,h7⟩:=ho q (List.mem_singleton.1 hq).symm;refine h1.move ?_ (Nat.le_of_lt l2);rw[zI,if_neg h4,o2 _ h1.2.2.2 h7]
 .rw[LS.slots_app,List.nodup_append];refine⟨a.nd,?_,λx hx y hy e=>?_⟩
  .cases o<;>simp[LS.slots]
  .cases o with
   |none=>cases hy
   |some q=>
    simp only[LS.slots,List.mem_singleton]at hy;exact(ho q rfl).2.1 (by rw[<-hy,<-e];exact hx)
 .rcases hs with hs|hs
  .rcases mo s hs with hs|⟨q,e,rfl⟩
   .exact a.neP s (.inl hs)
   .exact(ho q e).2.2.2.2.1
  .exact a.neP s (.inr hs)
 .have:s<h.next:=by
   rcases hs with hs|rfl|rfl
   .rcases mo s hs with hs|⟨q,e,rfl⟩
    .exact(a.lt hs).2
    .exact(ho q e).1.2.2.2
   .exact hp.2
   .omega
  exact n2 s this
 .rcases mo _ hm with hm|⟨q,e,e2⟩
  .exact a.neL.1 hm
  .exact(ho q e).2.2.1 e2
 .rcases mo _ hm with hm|⟨q,e,e2⟩
  .exact a.neL.2 hm
  .exact(ho q e).2.2.2.1 e2
 .exact n2 s (zAe a.accP e)
end Go.Proofs
