/- What a law is handed, laid as frozen values: certificates. -/
import Derived.Test.YtmiobhfjmhgplaaDoorAP33
import Derived.Test.YtmiobhfjmhgplaaDoorAAbPu
namespace Go.Proofs.YtmiobhfjmhgplaaDoor
open Go.ChangeShapes Go.WideShapes Go.ChangeAt Go.RowKit Go.Ab Go.Joins Go.Lie Go.Proofs Go.Deep
set_option linter.unusedVariables false
theorem zHo:Tryd.prog.cellsOf 25=3:=by kernel_rfl
variable {H:Type} {enc:TypeId×Value→H} {W w0:World} {j:Inj} {h:AHeap}
def LPre (row:List PV) (g:Pre):Prop:=∃a b c,row=[a,b,c]∧IsPr a b c g.1 g.2.1 g.2.2∧MxP g.1 g.2.1 g.2.2
set_option maxRecDepth 100000 in
theorem zHh:LayC enc Tryd.prog W 50 3 LPre:=by
 intro w0 j h held fuel cs x m hlen hx;obtain⟨v0,v1,v2,y0,y1,y2,n,rfl,t0,t1,t2⟩:=zDb Tryd.underlying50 (by kernel_rfl) hlen hx
 obtain⟨j0,h0,vO,Os,m0,l0,e0,i0,o0,u0,r1,r2⟩:=layI w0 j h held n v0 _ m t0;obtain⟨j1,h1,vP,Ws,m1,l1,e1,i1,o1,u1,p1,p2,p3⟩:=layII w0 j0 h0 held n v1 _ m0 t1;obtain⟨j2,h2,vB,Bs,m2,l2,e2,i2,o2,u2,q1,q2,q3⟩:=zHi w0 j1 h1 held n v2 _ m1 t2;refine⟨j2,h2,[vO,vP,vB],(Os,Ws,Bs),m2,(l0.trans l1).trans l2,(e0.trans e1).trans e2,rfl,fun i pv v hi hv=>?_,⟨(e1.trans e2).vok o0,e2.vok o1,o2,trivial⟩,by simp only [List.all_cons,List.all_nil,u0,u1,u2];rfl,vO,vP,vB,rfl,⟨r1,p1,q1⟩,⟨r2,p2,p3,q2,q3⟩⟩
 match i,hi,hv with
 | 0,hi,hv=>cases hi;cases hv;exact VI.mono (l1.trans l2) _ _ i0
 | 1,hi,hv=>cases hi;cases hv;exact VI.mono l2 _ _ i1
 | 2,hi,hv=>cases hi;cases hv;exact i2
theorem zCK:∀{rows:List (List PV)} {G:List Pre},All2 LPre rows G→∃ts:List (PV×PV×PV),rows.flatten=fl3 ts∧All2 FI3 ts G
 | [],G,h=>by
  obtain rfl:G=[]:=List.eq_nil_of_length_eq_zero (by rw [←h.1];rfl)
  exact⟨[],rfl,All2.nil _⟩
 | r::rows,G,h=>by
  obtain⟨g,G',rfl⟩:∃g G',G=g::G':=by
   cases G with
   | nil=>have:=h.1;simp at this
   | cons g G'=>exact⟨g,G',rfl⟩
  obtain⟨a,b,c,rfl,hp,_⟩:=h.2 0 r g rfl rfl;have ht:All2 LPre rows G':=⟨by simpa using h.1,fun k a b ha hb=>h.2 (k+1) a b (by simpa using ha) (by simpa using hb)⟩
  obtain⟨ts,h1,h2⟩:=zCK ht;refine⟨(a,b,c)::ts,by rw [List.flatten_cons,h1];rfl,⟨by simp [h2.1],fun k x y hx hy=>?_⟩⟩
  cases k with
  | zero=>cases hx;cases hy;exact hp
  | succ k=>exact h2.2 k x y (by simpa using hx) (by simpa using hy)
set_option maxRecDepth 100000 in
theorem zFa:Lay1 enc Tryd.prog W 22 (fun v (G:List Pre)=>FG v G∧MxG G):=by
 intro w0 j h held fuel v x m hx;obtain⟨j',h',pv,a,g1,g2,g3,g4,g5,g6,⟨w,av,rows,rfl,hr⟩,g8⟩:=zEX (by omega) Tryd.underlying22 zHm zHh w0 j h held fuel v x m hx
 obtain⟨ts,q1,q2⟩:=zCK hr;refine⟨j',h',_,a,g1,g2,g3,g4,g5,g6,⟨w,av,ts,by rw [q1],q2⟩,g8,hr.all fun r g hg=>?_⟩
 obtain⟨_,_,_,_,_,hm⟩:=hg;exact hm
set_option maxRecDepth 100000 in
theorem zHN {b0:Nat} {v:Value} {d:DataW H} {q:List MemPlace} (m:MR W.heap.size w0 j h W) (hv:Value.okWide Tryd.prog W .any b0 25 v) (ht:DataW.Trod enc Tryd.prog W 0 (fun _=>true) true 25 v d q):
  ∃(j':Inj) (h':AHeap) (k:Int) (vG vL:PV) (G:List Pre) (L:List (List Int)),MR W.heap.size w0 j' h' W∧j.le j'∧Ext h h'∧VI j' (er idz (.agg [.int .i64 k,vG,vL])) v∧VOK (zlt h') h' 0 (.agg [.int .i64 k,vG,vL])∧FG vG G∧MxG G∧FII vL L∧L.length≤9223372036854775807∧∀x∈L,x.length≤9223372036854775807:=by
 obtain⟨v0,v1,v2,y0,y1,y2,n,rfl,rfl,rfl,t0,t1,t2⟩:=open_agg3 Tryd.underlying25 (by kernel_rfl) zHo hv ht
 obtain⟨a,ha,_,_⟩:=DataW.trod_int Tryd.underlying2 t0;simp only [List.cons.injEq,and_true]at ha
 subst ha;obtain⟨j1,h1,vP,Ws,m1,l1,e1,i1,o1,_,p1,p2⟩:=zFa w0 j h true n v1 _ m t1;obtain⟨j2,h2,vB,Bs,m2,l2,e2,i2,o2,_,q1,q2,q3⟩:=layII w0 j1 h1 true n v2 _ m1 t2;exact⟨j2,h2,a,vP,vB,Ws,Bs,m2,l1.trans l2,e1.trans e2,⟨_,⟨_,_,rfl,rfl,_,_,rfl,VI.mono l2 _ _ i1,_,_,rfl,i2,rfl⟩,rfl⟩,⟨trivial,e2.vok o1,o2,trivial⟩,p1,p2,q1,q2,q3⟩
end Go.Proofs.YtmiobhfjmhgplaaDoor
