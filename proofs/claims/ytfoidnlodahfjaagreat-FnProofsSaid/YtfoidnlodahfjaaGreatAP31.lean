/- The lower central series: plain law; lists compared. -/
import Derived.Test.YtfoidnlodahfjaaGreatAP29
open Int renaming reduceNatCast'→iQ0
set_option maxRecDepth 100000
set_option linter.unusedSimpArgs false
set_option linter.unusedVariables false
namespace Go.Proofs
open Go.Ab Go.Lie
variable {σ:PHeap} {K:PV→PHeap→Prop} {p p':Int} {n:Nat} {W:List (List Int)} {B:List (List (List Int))} {vP vB vL vU:PV} {s:Nat}
def PQ (b:Nat) (h:PHeap) (v:PV) (m:Nat) (cs:List PV):Prop:=
 (v=.fz true .nils 0 []∧m=0∧cs=[])∨∃s off cap row,v=.sl s off m cap∧full 1 cap m∧h.obj s=some row∧(row.drop off).take m=cs∧off+m≤row.length∧b≤s∧s<h.next
theorem PQ.of {b m:Nat} {h:PHeap} {v:PV} {cs:List PV} (a:PAcc b 1 h v m cs):PQ b h v m cs:=by
 rcases a with a|⟨s,cap,rfl,h1,h2,h3,h4,h5⟩
 ·exact .inl a
 ·exact .inr ⟨s,0,cap,cs,rfl,h1,h2,by rw [List.drop_zero,List.take_of_length_le (by omega)],by omega,h4,h5⟩
theorem PQ.set {b m t:Nat} {h:PHeap} {v:PV} {cs:List PV} (a:PQ b h v m cs) (ht:t<b) (ds:List PV):PQ b (h.set t ds) v m cs:=by
 rcases a with a|⟨s,off,cap,row,rfl,h1,h2,h3,h4,h5,h6⟩
 ·exact .inl a
 ·exact .inr ⟨s,off,cap,row,rfl,h1,by rw [zI,if_neg (by omega)];exact h2,h3,h4,h5,h6⟩
theorem PQ.pLen {b m:Nat} {h:PHeap} {v:PV} {cs:List PV} (a:PQ b h v m cs):pLen v=some (.int .i64 m):=by
 rcases a with ⟨rfl,rfl,_⟩|⟨s,off,cap,row,rfl,_⟩<;>rfl
theorem PQ.uncons {b m:Nat} {h:PHeap} {v c:PV} {cs:List PV} (a:PQ b h v m (c::cs)):∃s off cap v',v=.sl s off m cap∧h.rd1 s off=some c∧0<m∧Zo 1 v (some (.int .i64 1)) none none=some v'∧PQ b h v' (m-1) cs:=by
 rcases a with ⟨_,_,e⟩|⟨s,off,cap,row,rfl,h1,h2,h3,h4,h5,h6⟩
 ·cases e
 ·have hm:0<m:=by
   rcases Nat.eq_zero_or_pos m with x|x
   ·subst x;cases h3
   ·exact x
  have e2:row.drop off=c::row.drop (off+1):=by
   have hlt:off<row.length:=by omega
   rw [List.drop_eq_getElem_cons hlt]at h3 ⊢
   obtain⟨m',rfl⟩:∃m',m=m'+1:=⟨m-1,by omega⟩
   rw [List.take_succ_cons]at h3
   cases h3;rfl
  have e3:(row.drop (off+1)).take (m-1)=cs:=by
   rw [e2]at h3
   obtain⟨m',rfl⟩:∃m',m=m'+1:=⟨m-1,by omega⟩
   rw [List.take_succ_cons]at h3
   cases h3;rfl
  have e4:row[off]? = some c:=by
   have hlt:off<row.length:=by omega
   rw [List.drop_eq_getElem_cons hlt]at e2
   rw [List.getElem?_eq_getElem hlt];cases e2;rfl
  have hz:(1:Int)≤(m:Int):=by omega
  rcases h1 with rfl|rfl
  ·refine⟨s,off,_,.sl s (off+1) (m-1) (.grown 1),rfl,by rw [zH h2];exact e4,hm,?_,.inr ⟨s,off+1,_,row,rfl,.inl rfl,h2,e3,by omega,h5,h6⟩⟩
   simp only [pwA,seval,-iQ0,hm,hz]
  ·by_cases h10:m=1
   ·subst h10
    refine⟨s,off,_,.sl s off 0 (.known 0),rfl,by rw [zH h2];exact e4,hm,?_,.inr ⟨s,off,_,row,rfl,.inr rfl,h2,by simpa using e3,by omega,h5,h6⟩⟩
    rfl
   ·refine⟨s,off,_,.sl s (off+1) (m-1) (.known (m-1)),rfl,by rw [zH h2];exact e4,hm,?_,.inr ⟨s,off+1,_,row,rfl,.inr rfl,h2,e3,by omega,h5,h6⟩⟩
    simp only [pwA,seval,-iQ0,hm,hz,h10]
    rfl
theorem PQ.push {σb h:PHeap} {bytes m:Nat} {v x:PV} {cs:List PV} {K:PV×PHeap→Prop} (hk:Keep σb h) (a:PQ σb.next h v m cs)
  (h1:(m+1)*bytes≤140737488355328) (h2:m+1≤4611686018427387904) (k:∀v' h',Keep σb h'→PQ σb.next h' v' (m+1) (cs++[x])→K (v',h')):optK (zY 1 bytes (h.new [x]) v (.sl h.next 0 1 (.known 1))) K:=by
 rcases a with ⟨rfl,rfl,rfl⟩|⟨s,off,cap,row,rfl,q1,q2,q3,q4,q5,q6⟩
 ·exact PAcc.push hk (PAcc.nil _ _ _) h1 h2 fun v' h' k1 k2=>k v' h' k1 (.of k2.acc)
 ·rw [qd]
  have hp:qW 1 (h.new [x]) (.sl h.next 0 1 (.known 1)) 1=some [x]:=by simp [qC,Zj]
  have hobj:(h.new [x]).obj s=some row:=by simp only [PHeap.new];rw [if_neg (by omega)];exact q2
  have hn:=hk.next;simp only [plen,Option.bind_some];rw [if_neg (by omega),hp]
  simp only [Option.bind_some];have hl:cs.length=m:=by rw [←q3,List.length_take,List.length_drop];omega
  rcases q1 with rfl|rfl
  ·rw [QP,if_pos ⟨h1,h2,rfl⟩,hobj]
   simp only [Option.bind_some];rw [if_pos (by omega),Nat.mul_one,q3]
   refine qR rfl (k _ _ (((hk.new _).kill (by omega)).new _) (.inr ⟨(h.new [x]).next,0,_,cs++[x],rfl,.inl rfl,by simp [PHeap.new,PHeap.kill],?_,by simp [hl],by simp [PHeap.new];omega,by simp [PHeap.new,PHeap.kill]⟩))
   rw [List.drop_zero,List.take_of_length_le (by simp [hl])]
  ·rw [QO,if_neg (by omega),if_pos ⟨h1,h2⟩,zT hobj,if_pos (by omega),Nat.mul_one,q3]
   simp only [Option.map_some];refine qR rfl (k _ _ ((hk.new _).new _) (.inr ⟨(h.new [x]).next,0,_,cs++[x],rfl,.inl rfl,by simp [PHeap.new],?_,by simp [hl],by simp [PHeap.new];omega,by simp [PHeap.new]⟩))
   rw [List.drop_zero,List.take_of_length_le (by simp [hl])]
theorem zJc {w:Bool} {a:AV} {m:Nat} {rows:List PV} (hl:rows.length=m) (hb:Bels 0 rows) (hm:m≤1048576) (hk0:rows=[]→K (.fz true .nils 0 []) σ) (hk1:∀cap,full 1 cap m→K (.sl σ.next 0 m cap) (σ.new rows)):
  zA Tryz.prog 167 [.fz w a m rows] σ K:=by
 refine zA.nil0 fun hnil=>zA.gh ?_
 refine zC mix Tryz.func167 ?_
 conv=>arg 2;cbv
 refine zD rfl ?_;simp only [pwA,seval,-iQ0];cases hn:qY a
 ·simp only [pwA,seval,-iQ0]
  refine PSl.cat (bytes:=24) (σb:=σ) (n:=0) (cs:=[]) (zB σ _) (PSl.new _ 1 rfl (Nat.le_refl _)) hl (by omega) (by omega) fun v' h' hk' ha=>?_
  simp only [pwA,seval,-iQ0]at ha ⊢
  exact ha.out hk' (hb.up (Nat.zero_le _)) hk1
 ·simp only [pwA,seval,-iQ0]
  exact Gh.ret (hk0 (hnil hn).2)
theorem zC2 {w:Bool} {a:AV} {m:Nat} {rows:List PV} (hl:rows.length=m) (hb:Bels 0 rows) (hm:m≤1048576) (hk:∀v h',Keep σ h'→PQ σ.next h' v m rows→K v h'):
  zA Tryz.prog 167 [.fz w a m rows] σ K:=
 zJc hl hb hm (fun h0=>hk _ _ (Keep.refl _) (.inl ⟨rfl,by rw [←hl,h0];rfl,h0⟩)) fun cap hc=>hk _ _ (zB _ _) (.of (.inr (PSl.own hc (by simp [PHeap.new]) (by omega) (Nat.le_refl _) (by simp [PHeap.new]))))
end Go.Proofs
namespace Go.Proofs
open Go.Ab Go.Lie
variable {σ:PHeap} {K:PV→PHeap→Prop} {p p':Int} {n:Nat} {W:List (List Int)} {B:List (List (List Int))} {vP vB vL vU vV:PV} {s:Nat}
def units (n:Nat):List (List Int):=(List.range n).map (unitL n)
end Go.Proofs
namespace Go.Proofs
open Go.Ab Go.Lie
variable {σ:PHeap} {K:PV→PHeap→Prop} {p p':Int} {n:Nat} {W:List (List Int)} {B:List (List (List Int))} {vP vB vL vU vV:PV} {s:Nat}
theorem zLk:okF Tryz.prog 41=true:=by kernel_rfl
theorem zFi {xs ys:List (List Int)} (hU:FII vU xs) (hV:FII vV ys) (hx:xs.length≤1048576) (hxl:∀x∈xs,x.length≤1048576) (hk:∀t:Bool,(t=true↔xs=ys)→K (.bool t) σ):
  zA Tryz.prog 232 [vU,vV,.clo 41 [] []] σ K:=by
 have fl:∀{A:Prop},¬A→((false=true)↔A):=fun h=>⟨fun x=>(by cases x),fun x=>absurd x h⟩
 obtain⟨wu,au,ru,rfl,hru⟩:=hU;obtain⟨wv,av,rv,rfl,hrv⟩:=hV;refine zC mix Tryz.func232 ?_
 conv=>arg 2;cbv
 refine zD rfl ?_
 by_cases hl:xs.length=ys.length
 ·simp only [pwA,seval,-iQ0,hl]
  refine zF (fun m vs h'=>∃i:Nat,i≤ys.length∧m=ys.length-i∧vs=[.fz wv av ys.length rv,.clo 41 [] [],.fz wu au ys.length ru,.int .i64 ys.length,.int .i64 i]∧σ=h'∧xs.take i=ys.take i) ys.length ?_ ?_
  ·exact⟨0,by omega,by omega,rfl,rfl,by simp⟩
  rintro m vs h' ⟨i,hi,rfl,rfl,rfl,heq⟩
  simp only [pwA,seval,-iQ0];refine iteI (fun hlt=>?_) fun hge=>?_
  ·have hlx:i<xs.length:=by omega
   obtain⟨w4,a4,hr⟩:=hru.rowI hlx;obtain⟨w5,a5,hr5⟩:=hrv.rowI hlt;simp only [pwA,seval,-iQ0,hlt,hr,hr5];refine⟨zLk,Zw rfl rfl (by have:=hxl _ (List.getElem_mem hlx);omega) ?_⟩
   by_cases he:xs[i]=ys[i]
   ·simp only [pwA,seval,-iQ0,he,wrapS hlt (by omega:ys.length≤4611686018427387904)]
    exact⟨_,by omega,i+1,by omega,rfl,rfl,zLz hl hlx heq he⟩
   ·simp only [pwA,seval,-iQ0,he]
    refine hk _ (fl fun e=>?_)
    subst e;exact he rfl
  ·have hie:i=ys.length:=by omega
   subst hie;refine hk _ ⟨fun _=>?_,fun _=>rfl⟩
   rw [List.take_of_length_le (by omega),List.take_of_length_le (Nat.le_refl _)]at heq
   exact heq
 ·have hlI:((xs.length:Int)=(ys.length:Int))=False:=by simp;omega
  simp only [pwA,seval,-iQ0,hlI];exact hk _ (fl fun e=>hl (by rw [e]))
theorem zFl {xs ys:List (List Int)} (hU:FII vU xs) (hV:FII vV ys) (hx:xs.length≤1048576) (hxl:∀x∈xs,x.length≤1048576) (hk:∀t:Bool,(t=true↔xs=ys)→K (.bool t) σ):
  zA Tryz.prog 213 [vU,vV] σ K:=by
 refine zC mix Tryz.func213 ?_
 conv=>arg 2;cbv
 refine zD rfl ?_;simp only [pwA,seval,-iQ0];refine zFi hU hV hx hxl fun t ht=>?_
 simp only [pwA,seval,-iQ0];exact hk t ht
end Go.Proofs
