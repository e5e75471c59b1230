/- What a law is handed, laid as frozen values: bindings. -/
import Derived.Test.YtkhbdmlhjnijaaaAP29
import Derived.Test.YtkhbdmlhjnijaaaAP26
import Derived.Test.YtkhbdmlhjnijaaaAAbPu
import Derived.Test.YtkhbdmlhjnijaaaAP27
namespace Go.Proofs.Ytkhbdmlhjnijaaa
open Go.ChangeShapes Go.WideShapes Go.ChangeAt Go.RowKit Go.Ab Go.Joins Go.Lie Go.Proofs Go.Deep
set_option linter.unusedVariables false
variable {H:Type} {enc:TypeId×Value→H} {W w0:World} {j:Inj} {h:AHeap}
def LPre (row:List PV) (g:Pre):Prop:=∃a b c,row=[a,b,c]∧IsPr a b c g.1 g.2.1 g.2.2∧MxP g.1 g.2.1 g.2.2
set_option maxRecDepth 100000 in
theorem zHX:LayC enc Try.prog W 26 3 LPre:=by
 intro w0 j h held fuel cs x m hlen hx;obtain⟨v0,v1,v2,y0,y1,y2,n,rfl,t0,t1,t2⟩:=zDH Try.underlying26 (by kernel_rfl) hlen hx
 obtain⟨j0,h0,vO,Os,m0,l0,e0,i0,o0,u0,r1,r2⟩:=layI w0 j h held n v0 _ m t0;obtain⟨j1,h1,vP,Ws,m1,l1,e1,i1,o1,u1,p1,p2,p3⟩:=layII w0 j0 h0 held n v1 _ m0 t1;obtain⟨j2,h2,vB,Bs,m2,l2,e2,i2,o2,u2,q1,q2,q3⟩:=zHY w0 j1 h1 held n v2 _ m1 t2;refine⟨j2,h2,[vO,vP,vB],(Os,Ws,Bs),m2,(l0.trans l1).trans l2,(e0.trans e1).trans e2,rfl,fun i pv v hi hv=>?_,⟨(e1.trans e2).vok o0,e2.vok o1,o2,trivial⟩,by simp only [List.all_cons,List.all_nil,u0,u1,u2];rfl,vO,vP,vB,rfl,⟨r1,p1,q1⟩,⟨r2,p2,p3,q2,q3⟩⟩
 match i,hi,hv with
 | 0,hi,hv=>cases hi;cases hv;exact VI.mono (l1.trans l2) _ _ i0
 | 1,hi,hv=>cases hi;cases hv;exact VI.mono l2 _ _ i1
 | 2,hi,hv=>cases hi;cases hv;exact i2
end Go.Proofs.Ytkhbdmlhjnijaaa
namespace Go.Proofs.Ytkhbdmlhjnijaaa
open Go.ChangeShapes Go.WideShapes Go.ChangeAt Go.RowKit Go.Ab Go.Joins Go.Lie Go.Proofs Go.Deep
theorem zHc:Try.prog.cellsOf 71=4:=by kernel_rfl
variable {H:Type} {enc:TypeId×Value→H} {W w0:World} {j:Inj} {h:AHeap}
def LBnd (row:List PV) (g:Bnd):Prop:=∃a b c,row=[.str g.1,a,b,c]∧IsPr a b c g.2.1 g.2.2.1 g.2.2.2∧MxP g.2.1 g.2.2.1 g.2.2.2∧g.1.length≤9223372036854775807
set_option maxRecDepth 100000 in
theorem zHZ:LayC enc Try.prog W 71 4 LBnd:=by
 intro w0 j h held fuel cs x m hlen hx;obtain⟨y0,y1,n,rfl,_,t0,t1⟩:=trod_struct2 Try.underlying71 hx
 match cs,hlen with
 | [v0,v1,v2,v3],_=>
 have e0:DataW.trod enc Try.prog W 0 (fun _=>true) held n 9 [v0]=some y0:=t0
 have e1:DataW.trod enc Try.prog W 0 (fun _=>true) held n 26 [v1,v2,v3]=some y1:=t1
 obtain⟨s,hs,_,hsz⟩:=DataW.trod_string (P:=Try.prog) Try.underlying9 e0;simp only [List.cons.injEq,and_true]at hs
 subst hs;obtain⟨j',h',pvs,a,g1,g2,g3,g4,g5,g6,g7,q0,q1,q2,rfl,g8,g9⟩:=zHX w0 j h held n [v1,v2,v3] y1 m rfl e1;refine⟨j',h',[.str s.data.toList,q0,q1,q2],(s.data.toList,a),g1,g2,g3,rfl,fun i pv v hi hv=>?_,⟨trivial,g6⟩,?_,q0,q1,q2,rfl,g8,g9,?_⟩
 ·cases i with
  | zero=>
   simp only [List.getElem?_cons_zero,Option.some.injEq]at hi hv
   subst hi;subst hv;show Value.string s=.string ⟨s.data.toList.toArray⟩
   simp
  | succ i=>exact g5 i pv v hi hv
 ·rw [List.all_cons,g7];rfl
 ·exact hsz
theorem zBy:∀{rows:List (List PV)} {G:List Bnd},All2 LBnd rows G→∃ts:List (PV×PV×PV×PV),rows.flatten=fl4 ts∧All2 FI4 ts G
 | [],G,h=>by
  obtain rfl:G=[]:=List.eq_nil_of_length_eq_zero (by rw [←h.1];rfl)
  exact⟨[],rfl,All2.nil _⟩
 | r::rows,G,h=>by
  obtain⟨g,G',rfl⟩:∃g G',G=g::G':=by
   cases G with
   | nil=>have:=h.1;simp at this
   | cons g G'=>exact⟨g,G',rfl⟩
  obtain⟨a,b,c,rfl,hp,_,_⟩:=h.2 0 r g rfl rfl;have ht:All2 LBnd rows G':=⟨by simpa using h.1,fun k a b ha hb=>h.2 (k+1) a b (by simpa using ha) (by simpa using hb)⟩
  obtain⟨ts,h1,h2⟩:=zBy ht;refine⟨(.str g.1,a,b,c)::ts,by rw [List.flatten_cons,h1];rfl,⟨by simp [h2.1],fun k x y hx hy=>?_⟩⟩
  cases k with
  | zero=>cases hx;cases hy;exact⟨rfl,hp⟩
  | succ k=>exact h2.2 k x y (by simpa using hx) (by simpa using hy)
set_option maxRecDepth 100000 in
theorem zG7:Lay1 enc Try.prog W 40 (fun v (G:List Bnd)=>FB4 v G∧MxB G):=by
 intro w0 j h held fuel v x m hx;obtain⟨j',h',pv,a,g1,g2,g3,g4,g5,g6,⟨w,av,rows,rfl,hr⟩,g8⟩:=zED (by omega) Try.underlying40 zHc zHZ w0 j h held fuel v x m hx
 obtain⟨ts,q1,q2⟩:=zBy hr;refine⟨j',h',_,a,g1,g2,g3,g4,g5,g6,⟨w,av,ts,by rw [q1],q2⟩,g8,hr.all fun r g hg=>?_,hr.all fun r g hg=>?_⟩
 ·obtain⟨_,_,_,_,_,_,hm⟩:=hg
  exact hm
 ·obtain⟨_,_,_,_,_,hm,_⟩:=hg
  exact hm
end Go.Proofs.Ytkhbdmlhjnijaaa
