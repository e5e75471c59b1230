/- . -/
import Derived.Test.YtjlpbpfaihhamaaGreatAP29
open Int renaming reduceNatCast'->ah
set_option maxRecDepth 100000
set_option linter.unusedSimpArgs false
set_option linter.unusedVariables false
namespace Go.Proofs
open Go.Ab Go.Lie
variable{σ:PHeap}{K:PV->PHeap->Prop}{n:Nat}{s:Nat}
def PQ(b:Nat)(h:PHeap)(v:PV)(m:Nat)(cs:List PV):Prop:=
 (v=.fz true .nils 0 []∧m=0∧cs=[])∨∃s off cap row,v=.sl s off m cap∧full 1 cap m∧h.obj s=some row∧(row.drop off).take m=cs∧off+m<=row.length∧b<=s∧s<h.next
theorem PQ.of{b m:Nat}{h:PHeap}{v:PV}{cs:List PV}(a:PAcc b 1 h v m cs):PQ b h v m cs:=by
 rcases a with a|⟨s,cap,rfl,h1,h2,h3,h4,h5⟩
 ·exact .inl a
 ·exact .inr ⟨s,0,cap,cs,rfl,h1,h2,by rw[List.drop_zero,List.take_of_length_le (by omega)],by omega,h4,h5⟩
theorem PQ.set{b m t:Nat}{h:PHeap}{v:PV}{cs:List PV}(a:PQ b h v m cs)(ht:t<b)(ds:List PV):PQ b (h.set t ds) v m cs:=by
 rcases a with a|⟨s,off,cap,row,rfl,h1,h2,h3,h4,h5,h6⟩
 ·exact .inl a
 ·exact .inr ⟨s,off,cap,row,rfl,h1,by rw[zg,if_neg (by omega)];exact h2,h3,h4,h5,h6⟩
theorem PQ.pLen{b m:Nat}{h:PHeap}{v:PV}{cs:List PV}(a:PQ b h v m cs):pLen v=some (.int .i64 m):=by
 rcases a with ⟨rfl,rfl,_⟩|⟨s,off,cap,row,rfl,_⟩<;>rfl
theorem PQ.uncons{b m:Nat}{h:PHeap}{v c:PV}{cs:List PV}(a:PQ b h v m (c::cs)):∃s off cap v',v=.sl s off m cap∧h.rd1 s off=some c∧0<m∧Zq 1 v (some (.int .i64 1)) none none=some v'∧PQ b h v' (m-1) cs:=by
 rcases a with ⟨_,_,e⟩|⟨s,off,cap,row,rfl,h1,h2,h3,h4,h5,h6⟩
 ·cases e
 ·have hm:0<m:=by
   rcases Nat.eq_zero_or_pos m with x|x
   ·subst x;cases h3
   ·exact x
  have e2:row.drop off=c::row.drop (off+1):=by
   have ai:off<row.length:=by omega
   rw[List.drop_eq_getElem_cons ai]at h3 ⊢
   obtain⟨m',rfl⟩:∃m',m=m'+1:=⟨m-1,by omega⟩
   rw[List.take_succ_cons]at h3
   cases h3;rfl
  have e3:(row.drop (off+1)).take (m-1)=cs:=by
   rw[e2]at h3
   obtain⟨m',rfl⟩:∃m',m=m'+1:=⟨m-1,by omega⟩
   rw[List.take_succ_cons]at h3
   cases h3;rfl
  have e4:row[off]? = some c:=by
   have ai:off<row.length:=by omega
   rw[List.drop_eq_getElem_cons ai]at e2
   rw[List.getElem?_eq_getElem ai];cases e2;rfl
  have hz:(1:Int)<=(m:Int):=by omega
  rcases h1 with rfl|rfl
  ·refine⟨s,off,_,.sl s (off+1) (m-1) (.grown 1),rfl,by rw[zF h2];exact e4,hm,?_,.inr ⟨s,off+1,_,row,rfl,.inl rfl,h2,e3,by omega,h5,h6⟩⟩
   simp only[Z3,seval,-ah,hm,hz]
  ·by_cases Bv:m=1
   ·subst Bv
    refine⟨s,off,_,.sl s off 0 (.known 0),rfl,by rw[zF h2];exact e4,hm,?_,.inr ⟨s,off,_,row,rfl,.inr rfl,h2,by simpa using e3,by omega,h5,h6⟩⟩
    rfl
   ·refine⟨s,off,_,.sl s (off+1) (m-1) (.known (m-1)),rfl,by rw[zF h2];exact e4,hm,?_,.inr ⟨s,off+1,_,row,rfl,.inr rfl,h2,e3,by omega,h5,h6⟩⟩
    simp only[Z3,seval,-ah,hm,hz,Bv]
    rfl
theorem PQ.push{σb h:PHeap}{bytes m:Nat}{v x:PV}{cs:List PV}{K:PV×PHeap->Prop}(hk:Keep σb h)(a:PQ σb.next h v m cs)
  (h1:(m+1)*bytes<=140737488355328) (h2:m+1<=4611686018427387904) (k:∀v' h',Keep σb h'->PQ σb.next h' v' (m+1) (cs++[x])->K (v',h')):optK (qC 1 bytes (h.new [x]) v (.sl h.next 0 1 (.known 1))) K:=by
 rcases a with ⟨rfl,rfl,rfl⟩|⟨s,off,cap,row,rfl,q1,q2,q3,q4,q5,q6⟩
 ·exact PAcc.push hk (PAcc.nil _ _ _) h1 h2 fun v' h' k1 k2=>k v' h' k1 (.of k2.acc)
 ·rw[qo]
  have hp:qX 1 (h.new [x]) (.sl h.next 0 1 (.known 1)) 1=some [x]:=by simp[ZY,QA]
  have eY:(h.new [x]).obj s=some row:=by simp only[PHeap.new];rw[if_neg (by omega)];exact q2
  have hn:=hk.next;simp only[plen,Option.bind_some];rw[if_neg (by omega),hp]
  simp only[Option.bind_some];have hl:cs.length=m:=by rw[<-q3,List.length_take,List.length_drop];omega
  rcases q1 with rfl|rfl
  ·rw[Qd,if_pos ⟨h1,h2,rfl⟩,eY]
   simp only[Option.bind_some];rw[if_pos (by omega),Nat.mul_one,q3]
   refine qR rfl (k _ _ (((hk.new _).kill (by omega)).new _) (.inr ⟨(h.new [x]).next,0,_,cs++[x],rfl,.inl rfl,by simp[PHeap.new,PHeap.kill],?_,by simp[hl],by simp[PHeap.new];omega,by simp[PHeap.new,PHeap.kill]⟩))
   rw[List.drop_zero,List.take_of_length_le (by simp[hl])]
  ·rw[Zr,if_neg (by omega),if_pos ⟨h1,h2⟩,zb eY,if_pos (by omega),Nat.mul_one,q3]
   simp only[Option.map_some];refine qR rfl (k _ _ ((hk.new _).new _) (.inr ⟨(h.new [x]).next,0,_,cs++[x],rfl,.inl rfl,by simp[PHeap.new],?_,by simp[hl],by simp[PHeap.new];omega,by simp[PHeap.new]⟩))
   rw[List.drop_zero,List.take_of_length_le (by simp[hl])]
theorem zKt{w:Bool}{a:AV}{m:Nat}{rows:List PV}(hl:rows.length=m)(hb:Bels 0 rows)(hm:m<=1048576)(dh:rows=[]->K (.fz true .nils 0 []) σ)(dI:∀cap,full 1 cap m->K (.sl σ.next 0 m cap) (σ.new rows)):
  zA Tryz.prog 131 [.fz w a m rows] σ K:=by
 refine zA.nil0 fun iN=>zA.gh ?_
 refine zB mix Tryz.func131 ?_;simp only[Z3,seval,-ah];cases hn:qY a
 ·simp only[Z3,seval,-ah]
  refine PSl.cat (bytes:=24) (σb:=σ) (n:=0) (cs:=[]) (zD σ _) (PSl.new _ 1 rfl (Nat.le_refl _)) hl (by omega) (by omega) fun v' h' bU ha=>?_
  simp only[Z3,seval,-ah]at ha ⊢
  exact ha.out bU (hb.up (Nat.zero_le _)) dI
 ·simp only[Z3,seval,-ah]
  exact Gh.ret (dh (iN hn).2)
theorem zDn{w:Bool}{a:AV}{m:Nat}{rows:List PV}(hl:rows.length=m)(hb:Bels 0 rows)(hm:m<=1048576)(hk:∀v h',Keep σ h'->PQ σ.next h' v m rows->K v h'):
  zA Tryz.prog 131 [.fz w a m rows] σ K:=
 zKt hl hb hm (fun h0=>hk _ _ (Keep.refl _) (.inl ⟨rfl,by rw[<-hl,h0];rfl,h0⟩)) fun cap hc=>hk _ _ (zD _ _) (.of (.inr (PSl.own hc (by simp[PHeap.new]) (by omega) (Nat.le_refl _) (by simp[PHeap.new]))))
variable{vU vV:PV}
theorem zNJ:okF Tryz.prog 133=true:=by kernel_rfl
theorem zGx{xs ys:List (List Int)}(hU:FII vU xs)(hV:FII vV ys)(hx:xs.length<=1048576)(dz:∀x∈xs,x.length<=1048576)(hk:∀t:Bool,(t=true↔xs=ys)->K (.bool t) σ):
  zA Tryz.prog 212 [vU,vV,.clo 133 [] []] σ K:=by
 have fl:∀{A:Prop},¬A->((false=true)↔A):=fun h=>⟨fun x=>(by cases x),fun x=>absurd x h⟩
 obtain⟨wu,au,ru,rfl,ks⟩:=hU;obtain⟨wv,av,rv,rfl,xo⟩:=hV;refine zB mix Tryz.func212 ?_
 by_cases hl:xs.length=ys.length
 ·simp only[Z3,seval,-ah,hl]
  refine zC (fun m vs h'=>∃i:Nat,i<=ys.length∧m=ys.length-i∧vs=[.fz wv av ys.length rv,.clo 133 [] [],.fz wu au ys.length ru,.int .i64 ys.length,.int .i64 i]∧σ=h'∧xs.take i=ys.take i) ys.length ?_ ?_
  ·exact⟨0,by omega,by omega,rfl,rfl,by simp⟩
  rintro m vs h' ⟨i,hi,rfl,rfl,rfl,heq⟩
  simp only[Z3,seval,-ah];refine iteI (fun ai=>?_) fun aE=>?_
  ·have kF:i<xs.length:=by omega
   obtain⟨w4,a4,hr⟩:=ks.rowI kF;obtain⟨w5,a5,dj⟩:=xo.rowI ai;simp only[Z3,seval,-ah,ai,hr,dj];refine⟨zNJ,Qc rfl rfl (by have:=dz _ (List.getElem_mem kF);omega) ?_⟩
   by_cases he:xs[i]=ys[i]
   ·simp only[Z3,seval,-ah,he,wrapS ai (by omega:ys.length<=4611686018427387904)]
    exact⟨_,by omega,i+1,by omega,rfl,rfl,zEX hl kF heq he⟩
   ·simp only[Z3,seval,-ah,he]
    refine hk _ (fl fun e=>?_)
    subst e;exact he rfl
  ·have bn:i=ys.length:=by omega
   subst bn;refine hk _ ⟨fun _=>?_,fun _=>rfl⟩
   rw[List.take_of_length_le (by omega),List.take_of_length_le (Nat.le_refl _)]at heq
   exact heq
 ·have pW:((xs.length:Int)=(ys.length:Int))=False:=by simp;omega
  simp only[Z3,seval,-ah,pW];exact hk _ (fl fun e=>hl (by rw[e]))
theorem zC2{xs ys:List (List Int)}(hU:FII vU xs)(hV:FII vV ys)(hx:xs.length<=1048576)(dz:∀x∈xs,x.length<=1048576)(hk:∀t:Bool,(t=true↔xs=ys)->K (.bool t) σ):
  zA Tryz.prog 178 [vU,vV] σ K:=by
 refine zB mix Tryz.func178 ?_;simp only[Z3,seval,-ah];refine zGx hU hV hx dz fun t ht=>?_
 simp only[Z3,seval,-ah];exact hk t ht
end Go.Proofs
