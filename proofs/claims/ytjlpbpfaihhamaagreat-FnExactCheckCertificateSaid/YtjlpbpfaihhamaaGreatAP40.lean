/- . -/
import Derived.Test.YtjlpbpfaihhamaaGreatAP39
open List renaming getElem?_eq_getElem→vX
open Nat renaming le_refl→vM
open Int renaming reduceNatCast'->ah
set_option maxRecDepth 100000
namespace Go.Grp
end Go.Grp
set_option linter.unusedSimpArgs false
set_option linter.unusedVariables false
set_option linter.unusedSectionVars false
namespace Go.Proofs
open Go.Ab Go.Lie Go.Grp
variable{σ h:PHeap}{K:PV->PHeap->Prop}{x:List Int}{vx:PV}
theorem zKq{c:Nat}(hc:c<=8)(hk:K (.tup [.int .u64 0,.int .u64 c]) σ):zA Tryz.prog 234 [.int .u64 1,.int .u64 c] σ K:=by
 have e1:pbin .and .other (.int .u64 1) (.int .u64 4294967295)=some (.int .u64 1):=by rfl
 have e2:pbin .shr .other (.int .u64 1) (.int .u64 32)=some (.int .u64 0):=by rfl
 have e3:pbin .and .other (.int .u64 c) (.int .u64 4294967295)=some (.int .u64 c):=by
  obtain rfl|rfl|rfl|rfl|rfl|rfl|rfl|rfl|rfl:c=0∨c=1∨c=2∨c=3∨c=4∨c=5∨c=6∨c=7∨c=8:=by omega
  all_goals rfl
 have e4:pbin .shr .other (.int .u64 c) (.int .u64 32)=some (.int .u64 0):=by
  obtain rfl|rfl|rfl|rfl|rfl|rfl|rfl|rfl|rfl:c=0∨c=1∨c=2∨c=3∨c=4∨c=5∨c=6∨c=7∨c=8:=by omega
  all_goals rfl
 have e5:pbin .and .other (.int .u64 0) (.int .u64 4294967295)=some (.int .u64 0):=by rfl
 have e6:pbin .shr .other (.int .u64 0) (.int .u64 32)=some (.int .u64 0):=by rfl
 have w0:IntKind.u64.wrap 0=0:=by rfl
 have w1:IntKind.u64.wrap (c:Int)=(c:Int):=by
  obtain rfl|rfl|rfl|rfl|rfl|rfl|rfl|rfl|rfl:c=0∨c=1∨c=2∨c=3∨c=4∨c=5∨c=6∨c=7∨c=8:=by omega
  all_goals rfl
 have m0:∀k:Int,(0:Int)*k=0:=Int.zero_mul
 have m1:∀k:Int,(1:Int)*k=k:=Int.one_mul
 have m2:∀k:Int,k*(0:Int)=0:=Int.mul_zero
 have a0:(0:Int)+0=0:=rfl;refine zB mix Tryz.func234 ?_;simp only[Z3,seval,-ah,e1,e2,e3,e4,e5,e6,w0,w1,m0,m1,m2,a0];exact hk
theorem zM0{c:Nat}(hc:c<=8)(hk:K (.tup [.int .u64 0,.int .u64 c]) σ):zA Tryz.prog 209 [.int .u64 1,.int .u64 c] σ K:=by
 refine zB mix Tryz.func209 ?_;simp only[Z3,seval,-ah];refine zKq hc ?_;simp only[Z3,seval,-ah];exact hk
theorem zL2{l:Int}{c:Nat}(hc:c<=8)(bq:FI vx [l])(hk:∀o,K (.fz true (.sl o 0 c (.known c)) c (pis (List.replicate c l))) σ):zA Tryz.prog 169 [vx,.int .i64 c] σ K:=by
 obtain⟨wx,ax,rfl⟩:=bq;refine zA.gh ?_;have h0:¬(c:Int)<0:=by omega
 have h1:¬(9223372036854775807:Int)<(c:Int):=by omega
 have w1:IntKind.u64.wrap (c:Int)=(c:Int):=by
  obtain rfl|rfl|rfl|rfl|rfl|rfl|rfl|rfl|rfl:c=0∨c=1∨c=2∨c=3∨c=4∨c=5∨c=6∨c=7∨c=8:=by omega
  all_goals rfl
 have w2:IntKind.i64.wrap (c:Int)=(c:Int):=wrap64 (by omega) (by omega)
 have w3:IntKind.u64.wrap 1=1:=by rfl
 refine zB mix Tryz.func169 ?_;simp only[Z3,seval,-ah,h0,w1,w3,List.length_cons,List.length_nil];refine zM0 hc ?_;simp only[Z3,seval,-ah,h1,w2,List.length_replicate,zZ,mk8 (n:=c) (by omega),mkL (n:=c) (by omega)]
 have hz:List.replicate c 0=rl l c 0:=by simp[rl]
 rw[hz,zJD];refine⟨_,rfl,?_⟩;simp only[Z3,seval,-ah];refine zC (fun m vs h'=>∃k:Nat,k<=c∧(k=0->c=0)∧m=c-k∧vs=[.sl σ.next 0 c (.known c),.int .i64 k]∧h'=σ.new (pis (rl l c k))) (c-min 1 c) ?_ ?_
 ·exact⟨min 1 c,by omega,fun h=>by omega,rfl,rfl,rfl⟩
 rintro m vs h' ⟨k,EK,dh,rfl,rfl,rfl⟩
 simp only[Z3,seval,-ah];refine iteI (fun ai=>?_) fun aE=>?_
 rotate_left
 ·have eP:k=c:=by omega
  subst eP;have jT:rl l k k=List.replicate k l:=by simp[rl]
  rw[jT];exact Gh.finF (s:=σ.next) (zD σ _) (by simp only[Z3,seval,-ah]) (vM _) (zK _ _) (show capOK (.known k) k=true by simp[capOK]) fun o=>hk o
 have ak:k<c:=by omega
 have hle:k<=c:=by omega
 have x7:(k:Int)<=(c:Int):=by omega
 have aC:¬c=k:=by omega
 have ml:=zKb (σ:=σ) (l:=l) (by omega:0<k) ak
 have hm:min k (c-k)<=c:=by omega
 have ew:IntKind.i64.wrap ((k:Int)+((min k (c-k):Nat):Int))=((k+min k (c-k):Nat):Int):=by rw[wrap64 (by omega) (by omega)];omega
 simp only[Z3,seval,-ah,hle,x7,aC,ml,ew,Nat.sub_zero,ite_self,Option.isSome_none,Option.isNone_none,Bool.false_eq_true,and_false];exact⟨_,by omega,k+min k (c-k),by omega,fun h=>by omega,rfl,rfl,rfl⟩
theorem zNi{o c m:Nat}{cs news:List PV}{x:PV}(hx:plen x=some m)(hm:m≠0)(hf:qX 1 h x m=some news)(hl:cs.length=c)(hb:c+m<=1000):
  qC 1 8 h (.fz true (.sl o 0 c (.known c)) c cs) x=some (.sl h.next 0 (c+m) (.grown 1),h.new (cs++news)):=by
 rw[qo,hx];simp only[Option.bind_some];rw[if_neg hm,hf];simp only[Option.bind_some];simp only[pgrow];rw[if_pos ⟨by omega,.inl trivial,by omega,by omega,by omega⟩]
end Go.Proofs
namespace Go.Proofs
open Go.Ab Go.Lie Go.Grp
variable{σ:PHeap}{K:PV->PHeap->Prop}{O:List Int}{P:List (List Int)}{C:List (List (List Int))}{vO vP vC:PV}{s:BS}
theorem zGN(hR:IsPr vO vP vC O P C)(hb:O.length<=1000)(hk:∀v,FI v (zv O)->K v σ):zA Tryz.prog 107 [.agg [vO,vP,vC]] σ K:=by
 have h1:=hR.P.one;have h2:=hR.C.one;obtain⟨⟨w0,a0,rfl⟩,jH,jJ⟩:=hR;refine zA.gh ?_;refine zB mix Tryz.func107 ?_;simp only[Z3,seval,-ah,h1,h2,mk8 (n:=O.length) (by omega),mkL (n:=O.length) (by omega),List.length_replicate,zZ]
 refine Gh.finF (s:=σ.next+1) ((zD σ _).new _) (cs:=pis (List.replicate O.length 0)) (by simp only[Z3,seval,-ah,zZ]) (by omega) (zK _ _) (by simp[capOK]) fun o=>hk _ ⟨true,.sl o 0 O.length (.known O.length),?_⟩
 simp[zv]
end Go.Proofs
namespace Go.Proofs
open Go.Ab Go.Lie Go.Grp
variable{σ h:PHeap}{K:PV->PHeap->Prop}{O x:List Int}{P:List (List Int)}{C:List (List (List Int))}{vO vP vC vU:PV}{u xs:List (List Int)}{sp:Nat}
theorem zBv{sl off:Nat}{cap:Cap}{rl row:List PV}(ho:σ.obj sl=some row)(tk:(row.drop off).take xs.length=rl)(bK:All2 FI rl xs)(hs:PtrG σ sp vO vP vC)(hR:IsPr vO vP vC O P C)(sz:SzP O P C)(bF:SzL xs)(hk:∀t:Bool,(t=true↔(zM O P C∧Cons O P C)∧∀x∈xs,isExp O x)->K (.bool t) σ):zA Tryz.prog 130 [.ptr sp 0,.sl sl off xs.length cap] σ K:=by
 have fl:∀{A:Prop},¬A->((false=true)↔A):=fun h=>⟨fun x=>(by cases x),fun x=>absurd x h⟩
 have r3:σ.rd sp 0 3=some [vO,vP,vC]:=by rw[zb hs.obj];rfl
 have dz:=bF.l;refine zB mix Tryz.func130 ?_;simp only[Z3,seval,-ah,r3];refine zq hR sz fun t ht=>?_
 cases t with
 |false=>
  simp only[Z3,seval,-ah];exact hk _ (fl fun h=>by cases ht.2 h.1)
 |true=>
 have hp:=ht.1 rfl;simp only[Z3,seval,-ah];refine zC (fun m us h'=>∃i:Nat,i<=xs.length∧m=xs.length-i∧us=[.ptr sp 0,.sl sl off xs.length cap,.int .i64 xs.length,.int .i64 i]∧σ=h'∧∀x∈xs.take i,isExp O x) xs.length ⟨0,by omega,by omega,rfl,rfl,by simp⟩ ?_
 rintro m us h' ⟨i,hi,rfl,rfl,rfl,aj⟩
 simp only[Z3,seval,-ah];refine iteI (fun ai=>?_) fun aE=>?_
 rotate_left
 ·have bn:i=xs.length:=by omega
  subst bn;rw[List.take_length]at aj
  exact hk _ ⟨fun _=>⟨hp,aj⟩,fun _=>rfl⟩
 obtain⟨w4,a4,hr⟩:=bK.rowI ai;have jR:=bF.r _ (List.getElem_mem ai);have ak:(i:Int)<(xs.length:Int):=by omega
 have rd:σ.rd1 sl (off+i)=some (.fz w4 a4 xs[i].length (pis xs[i])):=by rw[zF ho,<-hr,<-tk,List.getElem?_take_of_lt ai,List.getElem?_drop]
 simp only[Z3,seval,-ah,ai,ak,rd];refine ZE hs hR.O (by have:=hp.1.1;omega) hp.1.isp ⟨w4,a4,rfl⟩ jR fun t ht=>?_
 cases t with
 |false=>
  simp only[Z3,seval,-ah];exact hk _ (fl fun h=>by cases ht.2 (h.2 _ (List.getElem_mem ai)))
 |true=>
 have h1:=ht.1 rfl;simp only[Z3,seval,-ah,wrapS ai (by omega:xs.length<=4611686018427387904)]
 refine⟨_,by omega,i+1,by omega,rfl,rfl,fun x hx=>?_⟩
 rw[List.take_succ_eq_append_getElem ai,List.mem_append,List.mem_singleton]at hx
 rcases hx with hx|hx
 ·exact aj x hx
 ·rw[hx];exact h1
theorem zEw{sl:Nat}{cap:Cap}(ho:σ.obj sl=some [vU])(g:LG O P C)(hs:PtrG σ sp vO vP vC)(hR:IsPr vO vP vC O P C)(sz:SzP O P C)(hU:FII vU u)(gg:SzL u)(hk:∀t:Bool,(t=true↔zR O P C u)->K (.bool t) σ):zA Tryz.prog 135 [.ptr sp 0,.sl sl 0 1 cap] σ K:=by
 have fl:∀{A:Prop},¬A->((false=true)↔A):=fun h=>⟨fun x=>(by cases x),fun x=>absurd x h⟩
 have s:=g.s;have F:=g.F;have bJ:=s.le;have r3:σ.rd sp 0 3=some [vO,vP,vC]:=by rw[zb hs.obj];rfl
 have aV:=hR;obtain⟨⟨w0,a0,rfl⟩,_,_⟩:=hR;have r1:σ.rd1 sp 0=some (.fz w0 a0 O.length (pis O)):=by rw[zF hs.obj];rfl
 have eU:=gg.l;have ie:=hU;obtain⟨wu,au,ru,rfl,ks⟩:=hU;refine zB mix Tryz.func135 ?_;simp only[Z3,seval,-ah,r3];refine zq aV sz fun t ht=>?_
 obtain rfl:t=true:=ht.2 ⟨g.pr,g.co⟩;clear ht;simp only[Z3,seval,-ah];refine zC (fun m us h'=>∃i:Nat,i<=1∧m=1-i∧us=[.ptr sp 0,.sl sl 0 1 cap,.int .i64 ((1:Nat):Int),.int .i64 i]∧σ=h'∧(i=1->zR O P C u)) 1 ⟨0,by omega,by omega,rfl,rfl,fun h=>by omega⟩ ?_
 rintro m us h' ⟨i,hi,rfl,rfl,rfl,aj⟩
 rcases Nat.lt_or_ge i 1 with cD|cD
 rotate_left
 ·obtain rfl:i=1:=by omega
  have n1:¬(((1:Nat):Int)<((1:Nat):Int)):=by omega
  simp only[Z3,seval,-ah,n1,decide_false];exact hk true ⟨fun _=>aj rfl,fun _=>rfl⟩
 obtain rfl:i=0:=by omega
 have n0:((0:Nat):Int)<((1:Nat):Int):=by omega
 have wC:(0:Int)<((1:Nat):Int):=by omega
 have np:(0:Nat)<1:=by omega
 have rU:σ.rd1 sl 0=some (.fz wu au u.length ru):=by rw[zF ho];rfl
 simp only[Z3,seval,-ah,n0,wC,np,decide_true,r1,rU];refine iteI (fun ta=>?_) fun hle=>?_
 ·refine hk _ (fl fun h=>?_)
  have:=h.len
  omega
 have x9:u.length<=O.length:=by omega
 refine zC (fun m us h'=>∃i:Nat,i<=u.length∧m=u.length-i∧us=[.ptr sp 0,.fz wu au u.length ru,.sl sl 0 1 cap,.int .i64 ((1:Nat):Int),.int .i64 ((0:Nat):Int),.fz wu au u.length ru,.int .i64 u.length,.int .i64 i]∧σ=h'∧∀x∈u.take i,isExp O x) u.length ⟨0,by omega,by omega,rfl,rfl,by simp⟩ ?_
 rintro m us h' ⟨i,oM,rfl,rfl,rfl,cW⟩
 simp only[Z3,seval,-ah];refine iteI (fun ai=>?_) fun aE=>?_
 rotate_left
 ·have bn:i=u.length:=by omega
  subst bn;rw[List.take_length]at cW
  have kO:∀x∈u,gS O x:=fun x hx=>(cW x hx).gS
  simp only[Z3,seval,-ah];refine zAW g hs aV ie kO (by omega) fun v z hv hz=>?_
  simp only[Z3,seval,-ah];have di:=hz.len;refine zC2 hv ie (by omega) (fun x hx=>by have:=(hz.one x hx).1.len;omega) fun t ht=>?_
  cases t with
  |false=>
   simp only[Z3,seval,-ah];refine hk _ (fl fun h=>?_)
   have:=ht.2 (hz.unique s F (GC.sub F kO) h.2)
   cases this
  |true=>
   have e:=ht.1 rfl;have w1:IntKind.i64.wrap (((0:Nat):Int)+1)=((1:Nat):Int):=by rw[wrap64 (by omega) (by omega)];omega
   simp only[Z3,seval,-ah,w1];exact⟨0,by omega,1,vM _,by omega,rfl,fun _=>⟨kO,by rw[e]at hz;exact hz⟩⟩
 obtain⟨w4,a4,hr⟩:=ks.rowI ai;have jR:=gg.r _ (List.getElem_mem ai);simp only[Z3,seval,-ah,ai,hr];refine ZE hs aV.O (by omega) (zM.isp g.pr) ⟨w4,a4,rfl⟩ jR fun t ht=>?_
 cases t with
 |false=>
  simp only[Z3,seval,-ah];refine hk _ (fl fun h=>?_)
  have:=ht.2 (zGW.2 (h.1 _ (List.getElem_mem ai)))
  cases this
 |true=>
 have h1:=ht.1 rfl;simp only[Z3,seval,-ah,wrapS ai (by omega:u.length<=4611686018427387904)]
 refine⟨_,by omega,i+1,by omega,rfl,rfl,fun x hx=>?_⟩
 rw[List.take_succ_eq_append_getElem ai,List.mem_append,List.mem_singleton]at hx
 rcases hx with hx|hx
 ·exact cW x hx
 ·rw[hx];exact h1
end Go.Proofs
namespace Go.Proofs
open Go.Ab Go.Lie Go.Grp
variable{σ:PHeap}{K:PV->PHeap->Prop}
theorem zKn{n:Int}(hn:0<=n∧n<=1000000)(hk:K (.int .i64 n) σ):zA Tryz.prog 172 [.int .i64 n] σ K:=by
 have w:IntKind.i64.wrap (0-n)=-n:=by rw[wrap64 (by omega) (by omega)];omega
 have e:max n (-n)=n:=by omega
 refine zB mix Tryz.func172 ?_;simp only[Z3,seval,-ah,w,e];exact hk
end Go.Proofs
namespace Go.Proofs
open Go.Ab Go.Lie Go.Grp
variable{σ h:PHeap}{K:PV->PHeap->Prop}{x l a b:List Int}{v va vb:PV}{t:Nat}
def seenB(l:List Int)(n i:Nat):List PV:=(List.range n).map fun(j:Nat)=>.bool (decide ((j:Int)∈l.take i))
theorem Z8{n i:Nat}:(seenB l n i).length=n:=by simp[seenB]
theorem ZV{n i j:Nat}(hj:j<n):(seenB l n i)[j]? = some (.bool (decide ((j:Int)∈l.take i))):=by
 unfold seenB;rw[List.getElem?_map,List.getElem?_range hj];rfl
theorem zDs{n:Nat}:seenB l n 0=List.replicate n (.bool false):=by
 refine List.ext_getElem? fun j=>?_
 rcases Nat.lt_or_ge j n with h|h
 ·rw[ZV h,List.getElem?_replicate,if_pos h];simp
 ·rw[List.getElem?_eq_none (by rw[Z8];exact h),List.getElem?_eq_none (by simp;exact h)]
theorem zDt{n i:Nat}(hi:i<l.length){m:Nat}(hm:l[i]=(m:Int)):(seenB l n i).set m (.bool true)=seenB l n (i+1):=by
 refine List.ext_getElem? fun j=>?_
 rcases Nat.lt_or_ge j n with h|h
 ·rw[ZV h,List.getElem?_set,Z8,List.take_succ_eq_append_getElem hi]
  by_cases e:m=j
  ·subst e
   rw[if_pos rfl,if_pos h];simp[hm]
  ·rw[if_neg e,ZV h]
   have:(j:Int)≠l[i]:=by omega
   have e2:((j:Int)∈l.take i++[l[i]])=((j:Int)∈l.take i):=by
    rw[List.mem_append,List.mem_singleton];exact propext ⟨fun h=>h.resolve_right this,.inl⟩
   simp only[e2]
 ·rw[List.getElem?_eq_none (by rw[List.length_set,Z8];exact h),List.getElem?_eq_none (by rw[Z8];exact h)]
theorem zLy{s i n:Nat}{cs:List PV}{x:PV}(ho:h.obj s=some cs)(hi:i<n)(hl:cs.length=n)(hs:s<h.next)(hx:x.one=true):
  qC 1 8 (h.new [x]) (.sl s 0 i (.known n)) (.sl h.next 0 1 (.known 1))=some (.sl s 0 (i+1) (.known n),(h.new [x]).set s (cs.take i++[x]++cs.drop (i+1))):=by
 have o2:(h.new [x]).obj s=some cs:=by rw[zH,if_neg (by omega)];exact ho
 rw[qo];simp only[plen,Option.bind_some];rw[if_neg (by omega),ZY,if_neg (by omega),if_pos (vM _),QA,if_pos rfl,if_pos (by simp)]
 simp only[Option.bind_some,List.drop_zero];rw[Zr,if_pos (by omega),ZZ o2,if_pos ⟨by simp;omega,by simp[hx]⟩]
 simp
theorem zJH(eg:a.length<=1000)(ha:∀x∈a,0<=x∧x<(b.length:Int))(dN:FI va a)(dq:FI vb b)(hk:∀v,FI v (a.map fun x=>b.getD x.toNat 0)->K v σ):zA Tryz.prog 174 [va,vb] σ K:=by
 obtain⟨w0,a0,rfl⟩:=dN;obtain⟨w1,a1,rfl⟩:=dq;refine zA.gh ?_;refine zB mix Tryz.func174 ?_;simp only[Z3,seval,-ah,mk8 (n:=a.length) (by omega),Go.Ab.mkL (n:=a.length) (by omega),zZ]
 generalize dJ:(a.map fun x=>b.getD x.toNat 0)=cs at *
 have cK:cs.length=a.length:=by rw[<-dJ,List.length_map]
 refine zC (fun m us h'=>∃i:Nat,i<=a.length∧m=a.length-i∧us=[.fz w1 a1 b.length (pis b),.sl σ.next 0 i (.known a.length),.fz w0 a0 a.length (pis a),.int .i64 a.length,.int .i64 i]∧Keep σ h'∧h'.obj σ.next=some (pis (cs.take i++List.replicate (a.length-i) 0))∧σ.next<h'.next) a.length ?_ ?_
 ·exact⟨0,by omega,by omega,rfl,zD σ _,by rw[zH,if_pos rfl];simp,Nat.lt_succ_self _⟩
 rintro m us h' ⟨i,hi,rfl,rfl,kk,ho,hn⟩
 simp only[Z3,seval,-ah];refine iteI (fun ai=>?_) fun aE=>?_
 rotate_left
 ·obtain rfl:i=a.length:=by omega
  rw[Nat.sub_self,List.replicate_zero,List.append_nil,<-cK,List.take_length]at ho
  rw[<-cK];exact Gh.finF (s:=σ.next) kk ho (vM _) (zK _ _) (by simp[capOK]) fun o=>hk _ ⟨true,_,rfl⟩
 have b1:=ha _ (List.getElem_mem ai);obtain⟨m,hm⟩:∃m:Nat,a[i]=(m:Int):=⟨a[i].toNat,by omega⟩
 have cN:m<b.length:=by omega
 have mI:(m:Int)<(b.length:Int):=by omega
 have jW:cs[i]'(by omega)=b[m]:=by
  subst dJ;rw[List.getElem_map,hm,Int.toNat_natCast,List.getD_eq_getElem?_getD,vX cN];rfl
 have dW:=zLy (x:=.int .i64 b[m]) ho ai (by rw[zJ,List.length_append,List.length_take,List.length_replicate];omega) hn rfl
 have e:(pis (cs.take i++List.replicate (a.length-i) 0)).take i++[PV.int .i64 b[m]]++(pis (cs.take i++List.replicate (a.length-i) 0)).drop (i+1)=pis (cs.take (i+1)++List.replicate (a.length-(i+1)) 0):=by
  rw[zV (by rw[List.length_append,List.length_take,List.length_replicate];omega)]
  congr 1
  rw[List.set_append_right _ _ (by rw[List.length_take];omega),List.length_take,Nat.min_eq_left (by omega),Nat.sub_self,List.take_succ_eq_append_getElem (by omega),jW,List.append_assoc]
  congr 1
  rw[show a.length-i=(a.length-(i+1))+1 by omega,List.replicate_succ]
  rfl
 rw[e]at dW
 simp only[Z3,seval,-ah,ai,gi ai,gi cN,zG,hm,mI,cN,dW,show ¬σ.next=h'.next by omega,wrapS ai (by omega:a.length<=4611686018427387904)]
 exact⟨_,by omega,i+1,by omega,rfl,rfl,(kk.set (vM _) _).new _,rfl,by show σ.next<h'.next+1;omega⟩
theorem zI5(hl:l.length<=1000){c:List Int}(hc:c.length=l.length)(hb:∀x∈l,0<=x∧x<(l.length:Int))(jW:∀t (ht:t<l.length),c.getD (l[t]).toNat 0=t)(xi:∀j:Nat,j<l.length->(j:Int)∈l)(hv:FI va l)(hk:∀v,FI v c->K v σ):zA Tryz.prog 173 [va] σ K:=by
 obtain⟨w0,a0,rfl⟩:=hv;refine zA.gh ?_;refine zB mix Tryz.func173 ?_;simp only[Z3,seval,-ah,mk8 (n:=l.length) (by omega),Go.Ab.mkL (n:=l.length) (by omega),zZ]
 refine zC (fun m us h'=>∃(i:Nat) (z:List Int),i<=l.length∧m=l.length-i∧us=[.sl σ.next 0 l.length (.known l.length),.fz w0 a0 l.length (pis l),.int .i64 l.length,.int .i64 i]∧h'=σ.new (pis z)∧z.length=l.length∧∀j:Nat,(j:Int)∈l.take i->j<l.length->z.getD j 0=c.getD j 0) l.length ?_ ?_
 ·exact⟨0,List.replicate l.length 0,by omega,by omega,rfl,rfl,by simp,fun j hj=>by simp at hj⟩
 rintro m us h' ⟨i,z,hi,rfl,rfl,rfl,di,hz⟩
 simp only[Z3,seval,-ah];refine iteI (fun ai=>?_) fun aE=>?_
 rotate_left
 ·obtain rfl:i=l.length:=by omega
  have wP:z=c:=by
   refine List.ext_getElem (by omega) fun j h1 h2=>?_
   have:=hz j (by rw[List.take_length];exact xi j (by omega)) (by omega)
   rwa[List.getD_eq_getElem?_getD,List.getD_eq_getElem?_getD,vX h1,vX h2]at this
  subst wP;rw[<-di];exact Gh.finF (s:=σ.next) (zD σ _) (by rw[zH,if_pos rfl]) (vM _) (zK _ _) (by simp[capOK]) fun o=>hk _ ⟨true,_,rfl⟩
 have b1:=hb _ (List.getElem_mem ai);obtain⟨m,hm⟩:∃m:Nat,l[i]=(m:Int):=⟨l[i].toNat,by omega⟩
 have cN:m<l.length:=by omega
 have mI:(m:Int)<(l.length:Int):=by omega
 have wr:(σ.new (pis z)).wr σ.next m [.int .i64 i]=some ((σ.new (pis z)).set σ.next ((pis z).set m (.int .i64 i))):=zBB (by rw[zH,if_pos rfl]) (by rw[zJ];omega) rfl
 have cM:(σ.new (pis z)).set σ.next ((pis z).set m (.int .i64 i))=σ.new (pis (z.set m i)):=by
  rw[ZX];simp[pis]
 simp only[Z3,seval,-ah,ai,gi ai,zG,hm,mI,cN,wr,cM,wrapS ai (by omega:l.length<=4611686018427387904)]
 refine⟨_,by omega,i+1,z.set m i,by omega,rfl,rfl,rfl,by rw[List.length_set];exact di,fun j hj dE=>?_⟩
 rw[List.take_succ_eq_append_getElem ai,List.mem_append,List.mem_singleton]at hj
 rw[List.getD_eq_getElem?_getD,List.getElem?_set]
 by_cases e:m=j
 ·subst e
  rw[if_pos rfl,if_pos (by omega)]
  have:=jW i ai
  rw[hm,Int.toNat_natCast]at this
  rw[this];rfl
 ·rw[if_neg e,<-List.getD_eq_getElem?_getD]
  exact hz j (hj.resolve_right fun h=>e (by omega)) dE
end Go.Proofs
namespace Go.Proofs
open Go.Ab Go.Lie Go.Grp
variable{σ:PHeap}{K:PV->PHeap->Prop}{O:List Int}{P:List (List Int)}{C:List (List (List Int))}{t:Nat}{w:List Int}
noncomputable def cw(O:List Int)(P:List (List Int))(C:List (List (List Int)))(w:List Int):List Int:=(List.range (nEl O)).map fun t=>numF O (acW O P C (dgs O O.length t) w) O.length
theorem zIG{n:Int}(hn:0<=n∧n<=1000000)(hk:K (.int .i64 n) σ):zA Tryz.prog 172 [.int .i64 (-n)] σ K:=by
 have w:IntKind.i64.wrap (0 - -n)=n:=by rw[wrap64 (by omega) (by omega)];omega
 have e:max (-n) n=n:=by omega
 refine zB mix Tryz.func172 ?_;simp only[Z3,seval,-ah,w,e];exact hk
end Go.Proofs
namespace Go.Proofs
open Go.Ab Go.Lie Go.Grp
variable{σ h:PHeap}{K:PV->PHeap->Prop}{O x a b:List Int}{P:List (List Int)}{C:List (List (List Int))}{vO vP vC v vL:PV}{t:Nat}{w:List Int}{l:Int}
theorem PSl.fin2c{i:Nat}{e vW:PV}{rows:List PV}{M:List (List Int)}{σb:PHeap}(hb:σ.next<=σb.next)(dh:Keep σ h)(a:PAcc σb.next 1 h vW i rows)(aj:All2 FI rows M)(he:∀b,Bel b e)(hs:∀b o m,sb b o m e=e)(hk:∀v,FII v M->K (.tup [v,e]) σ):Gh σ K (.tup [vW,e]) h:=by
 have hlen:=aj.1;rcases a with ⟨rfl,h1,h2⟩|⟨s,cap,rfl,hc,q2,q3,q4,q5⟩
 ·subst h2
  have:M=[]:=List.eq_nil_of_length_eq_zero hlen.symm
  subst this;exact Gh.fin0 dh ⟨trivial,he _,trivial⟩ (hk _ ⟨true,.nils,[],rfl,All2.nil _⟩)
 ·refine Gh.freeze (s:=s) (cs:=rows) q2 (by omega) (aj.bI 0) fun o g1 g2 g3=>?_
  simp only[sb,sbs,hc.ok,and_self,if_true,hs];refine Gh.fin0 ((dh.kill (by omega)).up (by simp only[PHeap.kill];omega)) ⟨trivial,he _,trivial⟩ (hk _ ⟨true,.sl o 0 i cap,rows,?_,aj⟩)
  rw[<-hlen,q3,Nat.mul_one]
theorem PWF.newF{cs:List PV}(w:PWF σ)(hb:Bels 0 cs):PWF (σ.new cs):=by
 have hn:(σ.new cs).next=σ.next+1:=rfl;refine⟨fun s hs=>?_,fun s ds hd=>?_⟩
 ·rw[zH,if_neg (by omega)]
  exact w.wf s (by omega)
 ·rw[zH]at hd
  split at hd
  ·cases hd
   exact Bels.up (Nat.zero_le _) hb
  ·exact Bels.up (Nat.le_succ _) (w.bel s ds hd)
def RelOK(O:List Int)(P:List (List Int))(C:List (List (List Int)))(r:List Int):Prop:=(∃i,i<O.length∧r=relW O P i)∨∃i k,i+(1+k)<O.length∧r=conW C i k
theorem Zy:(winv w).length=w.length:=by simp[winv]
theorem RelOK.facts(s:Shp O P C){r:List Int}(h:RelOK O P C r):Lts O.length r∧r.length<=60:=by
 have nl:∀{i:Nat} {c:List Int},TT O i c->(Mx.nw c).length<=42:=fun hc=>by
  have:=zAm s hc
  rw[Z6 hc.len,List.length_map];exact this
 rcases h with ⟨i,hi,rfl⟩|⟨i,k,hi,rfl⟩
 ·refine⟨zK2 s hi,?_⟩
  have h1:=nl (s.pw i hi);have h2:=s.pr i hi;unfold relW;rw[List.length_append,List.length_replicate,Zy]
  have:nx O i<=7:=by show(at_ O i).toNat<=7;omega
  omega
 ·refine⟨zLv s hi,?_⟩
  have h1:=nl (s.cj i (i+(1+k)) (by omega) hi)
  unfold conW;rw[List.length_append,Zy];simp only[List.length_cons,List.length_nil];omega
def RelSt(O:List Int)(P:List (List Int))(C:List (List (List Int)))(R:List (List Int))(a i k:Nat):Prop:=(∀r∈R,RelOK O P C r)∧(∀j,j<a->relW O P j∈R)∧∀j q,(j<i∨(j=i∧q<k))->j+(1+q)<O.length->conW C j q∈R
theorem RelSt.all{R:List (List Int)}(h:RelSt O P C R O.length O.length 0):∀r,RelOK O P C r->r∈R:=by
 rintro r (⟨i,hi,rfl⟩|⟨i,k,hi,rfl⟩)
 ·exact h.2.1 i hi
 ·exact h.2.2 i k (.inl (by omega)) hi
theorem RelSt.next{R:List (List Int)}{a i:Nat}(h:RelSt O P C R a i (O.length-1-i)):RelSt O P C R a (i+1) 0:=
 ⟨h.1,h.2.1,fun j q hj hq=>h.2.2 j q (by omega) hq⟩
set_option maxHeartbeats 1600000 in
theorem ql(hp:zM O P C)(sz:SzP O P C)(hR:IsPr vO vP vC O P C)(hk:∀v R,FII v R->((∀r∈R,RelOK O P C r)∧∀r,RelOK O P C r->r∈R)->R.length<=100->K (.tup [v,.int .i64 0]) σ):
  zA Tryz.prog 127 [.agg [vO,vP,vC]] σ K:=by
 have s:=hp.shp;have h6:=s.le;have g1:=hR.O.one;have g2:=hR.P.one;have g3:=hR.C.one;have aV:=hR;refine zA.pwf fun wf=>zA.gh ?_
 refine zB mix Tryz.func127 ?_;simp only[Z3,seval,-ah,g1,g2,g3];refine qZ hR sz fun t ht=>?_
 obtain rfl:t=true:=ht.2 hp;obtain⟨⟨w0,a0,rfl⟩,⟨w1,a1,rP,rfl,hP⟩,⟨w3,a3,rC,rfl,hC⟩⟩:=hR;have ob:(σ.new [.fz w0 a0 O.length (pis O),.fz w1 a1 P.length rP,.fz w3 a3 C.length rC]).obj σ.next=some [.fz w0 a0 O.length (pis O),.fz w1 a1 P.length rP,.fz w3 a3 C.length rC]:=by rw[zH,if_pos rfl]
 have hwf:PWF (σ.new [PV.fz w0 a0 O.length (pis O),.fz w1 a1 P.length rP,.fz w3 a3 C.length rC]):=PWF.newF wf ⟨trivial,trivial,trivial,trivial⟩;have k1:=zD σ [PV.fz w0 a0 O.length (pis O),.fz w1 a1 P.length rP,.fz w3 a3 C.length rC];simp only[Z3,seval,-ah];have jg:(σ.new [PV.fz w0 a0 O.length (pis O),.fz w1 a1 P.length rP,.fz w3 a3 C.length rC]).next=σ.next+1:=rfl;generalize σ.new [PV.fz w0 a0 O.length (pis O),.fz w1 a1 P.length rP,.fz w3 a3 C.length rC]=H at *
 refine qK (fun m us h'=>∃(i:Nat) (vL:PV) (R:List (List Int)) (rows:List PV),i<=O.length∧m=O.length-i∧us=[.ptr σ.next 0,vL,.fz w0 a0 O.length (pis O),.int .i64 O.length,.int .i64 i]∧Keep H h'∧PAcc H.next 1 h' vL R.length rows∧All2 FI rows R∧R.length=i∧RelSt O P C R i 0 0) O.length ?_ ?_
 ·exact .here ⟨0,_,[],[],by omega,by omega,rfl,Keep.refl H,PAcc.nil _ _ _,All2.nil _,rfl,fun r hr=>(by cases hr),fun j hj=>by omega,fun j q hj=>by omega⟩
 rintro m us h' ⟨i,vL,R,rows,hi,rfl,rfl,aq,ha,aj,fQ,bE⟩
 have cA:=aq.next;have dH:h'.obj σ.next=some [.fz w0 a0 O.length (pis O),.fz w1 a1 P.length rP,.fz w3 a3 C.length rC]:=by rw[aq.obj _ (by omega)];exact ob
 have e1:h'.rd1 σ.next 1=some (.fz w1 a1 P.length rP):=by rw[zF dH];rfl
 have e2:h'.rd1 σ.next 2=some (.fz w3 a3 C.length rC):=by rw[zF dH];rfl
 have e0:h'.rd1 σ.next 0=some (.fz w0 a0 O.length (pis O)):=by rw[zF dH];rfl
 simp only[Z3,seval,-ah];refine iteI (fun ai=>?_) fun aE=>?_
 ·have bO:=s.pr i ai
  rw[at_eq ai]at bO
  have AT:((nx O i:Nat):Int)=O[i]:=by unfold nx;rw[at_eq ai];omega
  have dd:i<P.length:=by rw[s.pl];exact ai
  obtain⟨w5,a5,cE⟩:=hP.rowI dd;have bM:=s.pw i ai;have gP:P.getD i []=P[i]:=ze dd;rw[show pvec P i=P[i] from gP]at bM
  have ew:IntKind.i64.wrap ((i:Int)+1)=(i:Int)+1:=wrap64 (by omega) (by omega)
  have uy:¬σ.next=h'.next:=by omega
  have kD:=TT.nw_hyp s bM;have fI:=zAm s bM;simp only[Z3,seval,-ah,ai,gi ai,zG,e1,dd,cE,ew,uy,zL,zN];rw[<-AT];have m5:capOK (.known 1) 1=true:=rfl;refine zA.frz (s:=h'.next) (cs:=pis [(i:Int)+1]) (by simp only[Z3,seval,-ah];rfl) (zK _ _) fun o1=>?_
  simp only[sbs,sb,m5,and_self,if_true,nm_eq];refine zL2 (l:=(i:Int)+1) (by show(at_ O i).toNat<=8;rw[at_eq ai];omega) ⟨true,_,rfl⟩ fun o=>?_
  simp only[Z3,seval,-ah,e1,uy,dd,cE,zL,zN];refine zBr kD.1 kD.2 ⟨w5,a5,rfl⟩ fun v2 bu=>?_
  simp only[Z3,seval,-ah,e1,uy,dd,cE,zL,zN];refine zBt (by rw[Z6 bM.len,List.length_map];omega) (fun q hq=>by have:=Qn bM (by omega) q hq;omega) bu fun v3 fE=>?_
  have CB:=fE;obtain⟨w6,a6,rfl⟩:=fE;have bK:(winv (Mx.nw P[i])).length<=42:=by rw[Zy,Z6 bM.len,List.length_map];exact fI
  have jw:relW O P i=List.replicate (nx O i) ((i:Int)+1)++winv (Mx.nw P[i]):=by unfold relW;rw[show pvec P i=P[i] from gP]
  have Cw:nx O i<=7:=by show(at_ O i).toNat<=7;rw[at_eq ai];omega
  have gV:RelSt O P C (R++[relW O P i]) (i+1) 0 0:=by
   refine⟨fun r hr=>?_,fun j hj=>?_,fun j q hj=>by omega⟩
   ·rcases List.mem_append.1 hr with h|h
    ·exact bE.1 r h
    ·rw[List.mem_singleton.1 h];exact .inl ⟨i,ai,rfl⟩
   ·rcases Nat.lt_or_ge j i with h|h
    ·exact List.mem_append.2 (.inl (bE.2.1 j h))
    ·obtain rfl:j=i:=by omega
     exact List.mem_append.2 (.inr (List.mem_singleton.2 rfl))
  have kG:Keep h' ((h'.new [PV.int .i64 ((i:Int)+1)]).kill h'.next):=(zD h' _).kill (vM _);have gn:h'.next<((h'.new [PV.int .i64 ((i:Int)+1)]).kill h'.next).next:=Nat.lt_succ_self _;generalize (h'.new [PV.int .i64 ((i:Int)+1)]).kill h'.next=G at *
  have wM:=aq.trans kG;have aG:=ha.keep kG
  by_cases hz:(winv (Mx.nw P[i])).length=0
  ·have iN:winv (Mx.nw P[i])=[]:=List.eq_nil_of_length_eq_zero hz
   have dW:qC 1 8 G (.fz true (.sl o 0 (nx O i) (.known (nx O i))) (nx O i) (pis (List.replicate (nx O i) ((i:Int)+1)))) (.fz w6 a6 (winv (Mx.nw P[i])).length (pis (winv (Mx.nw P[i]))))=some (.fz true (.sl o 0 (nx O i) (.known (nx O i))) (nx O i) (pis (List.replicate (nx O i) ((i:Int)+1))),G):=by
    rw[qo,zH3,Option.bind_some,if_pos hz];rfl
   simp only[Z3,seval,-ah,dW,zL,zN];refine PAcc.push (σb:=H) (bytes:=24) wM aG (by omega) (by omega) fun v' h2 k2 a2=>?_
   simp only[Z3,seval,-ah,wrapS ai (by omega:O.length<=4611686018427387904),zL,zN]
   refine⟨_,by omega,.here ⟨i+1,v',R++[relW O P i],_,by omega,rfl,rfl,k2,by rw[List.length_append];exact a2.acc,aj.snoc ⟨true,.sl o 0 (nx O i) (.known (nx O i)),?_⟩,by simp[fQ],gV⟩⟩
   rw[jw,iN,List.append_nil,List.length_replicate]
  ·have dW:=zNi (h:=G) (o:=o) (c:=nx O i) (m:=(winv (Mx.nw P[i])).length) (cs:=pis (List.replicate (nx O i) ((i:Int)+1))) (news:=pis (winv (Mx.nw P[i]))) (x:=.fz w6 a6 (winv (Mx.nw P[i])).length (pis (winv (Mx.nw P[i])))) rfl hz (by rw[zCC,if_neg hz,if_pos ⟨vM _,by rw[zJ];omega,by omega⟩,List.take_of_length_le (by rw[zJ];omega)]) (by rw[zJ,List.length_replicate]) (by omega)
   rw[Zm,<-jw]at dW
   have sG:(relW O P i).length=nx O i+(winv (Mx.nw P[i])).length:=by rw[jw,List.length_append,List.length_replicate]
   have oG:(G.new (pis (relW O P i))).obj G.next=some (pis (relW O P i)):=by rw[zH,if_pos rfl]
   have Cq:=wM.new (pis (relW O P i));have Eo:=aG.keep (zD G (pis (relW O P i)));have DY:(G.new (pis (relW O P i))).next=G.next+1:=rfl;simp only[Z3,seval,-ah,dW,zL,zN];generalize G.new (pis (relW O P i))=G2 at *
   rw[<-DY];refine PAcc.pushS (σb:=H) (bytes:=24) (news:=[.sl G.next 0 (nx O i+(winv (Mx.nw P[i])).length) (.grown 1)]) Cq Eo rfl (by omega) (by omega) fun v' h2 k2 a2 o2 n2 l2=>?_
   simp only[Z3,seval,-ah,wrapS ai (by omega:O.length<=4611686018427387904),zL,zN]
   have og:h2.obj G.next=some (pis (relW O P i)):=by rw[o2 _ (by omega) (aG.ne (vM _))];exact oG
   have E1:=wM.next;refine⟨O.length-(i+1),by omega,.fzh G.next _ og (zK _ _) fun o3=>?_⟩
   obtain⟨f1,f2,f3⟩:=PSl.fzr hwf k2 a2 (s:=G.next) (cs:=pis (relW O P i)) (by omega) (n2 _ (by omega)) o3
   have zp:capOK (.grown 1) (nx O i+(winv (Mx.nw P[i])).length)=true:=rfl;rw[zA8 (aj.bI 0) zp]at f2
   refine .here ⟨i+1,v',R++[relW O P i],_,by omega,rfl,?_,f1,by rw[List.length_append];exact f2.acc,aj.snoc ⟨true,.sl o3 0 (nx O i+(winv (Mx.nw P[i])).length) (.grown 1),by rw[sG]⟩,by simp[fQ],gV⟩
   show sbs G.next o3 (pis (relW O P i)) [PV.ptr σ.next 0,v',.fz w0 a0 O.length (pis O),.int .i64 O.length,.int .i64 ((i+1:Nat):Int)]=_;simp only[sbs,sb,f3]
 obtain rfl:i=O.length:=by omega
 simp only[Z3,seval,-ah,e0];refine zC (fun m us h'=>∃(i:Nat) (vL:PV) (R:List (List Int)) (rows:List PV),i<=O.length∧m=O.length-i∧us=[.ptr σ.next 0,vL,.int .i64 O.length,.int .i64 i]∧Keep H h'∧PAcc H.next 1 h' vL R.length rows∧All2 FI rows R∧R.length<=6+6*i∧RelSt O P C R O.length i 0) O.length ?_ ?_
 ·exact⟨0,vL,R,rows,by omega,by omega,rfl,aq,ha,aj,by omega,bE⟩
 clear ha aj bE aq dH e0 e1 e2 cA fQ aE hi
 rintro m us h' ⟨i,vL,R,rows,hi,rfl,rfl,aq,ha,aj,fQ,bE⟩
 have cA:=aq.next;have dH:h'.obj σ.next=some [.fz w0 a0 O.length (pis O),.fz w1 a1 P.length rP,.fz w3 a3 C.length rC]:=by rw[aq.obj _ (by omega)];exact ob
 have e2:h'.rd1 σ.next 2=some (.fz w3 a3 C.length rC):=by rw[zF dH];rfl
 simp only[Z3,seval,-ah];refine iteI (fun ai=>?_) fun aE=>?_
 rotate_left
 ·exact PSl.fin2c (σb:=H) (by omega) (k1.trans aq) ha aj (fun _=>trivial) (fun _ _ _=>rfl) fun v hv=>hk v R hv ⟨bE.1,RelSt.all ((show i=O.length by omega) ▸ bE)⟩ (by omega)
 have cn:i<C.length:=by rw[s.cl];exact ai
 obtain⟨w5,a5,rs,bB,dO⟩:=cvRow s hC ai;simp only[Z3,seval,-ah,e2,cn,bB,ai];refine qK (fun m us h'=>∃(k:Nat) (vL:PV) (R:List (List Int)) (rows:List PV),k<=O.length-1-i∧m=O.length-1-i-k∧us=[.ptr σ.next 0,vL,.int .i64 i,.int .i64 O.length,.int .i64 i,.fz w5 a5 (O.length-1-i) rs,.int .i64 (O.length-1-i:Nat),.int .i64 k]∧Keep H h'∧PAcc H.next 1 h' vL R.length rows∧All2 FI rows R∧R.length<=6+6*i+k∧RelSt O P C R O.length i k) (O.length-1-i) ?_ ?_
 ·exact .here ⟨0,vL,R,rows,by omega,by omega,rfl,aq,ha,aj,by omega,bE⟩
 clear ha aj bE aq dH e2 cA fQ
 rintro m us h' ⟨k,vL,R,rows,bU,rfl,rfl,aq,ha,aj,fQ,bE⟩
 simp only[Z3,seval,-ah];refine iteI (fun s4=>?_) fun A5=>?_
 rotate_left
 ·simp only[Z3,seval,-ah,wrapS ai (by omega:O.length<=4611686018427387904)]
  obtain rfl:k=O.length-1-i:=by omega
  exact⟨_,by omega,i+1,vL,R,rows,by omega,rfl,rfl,aq,ha,aj,by omega,bE.next⟩
 have cA:=aq.next;obtain⟨w7,a7,cZ⟩:=dO k s4;have bm:=s.cj i (i+(1+k)) (by omega) (by omega)
 have kY:conW C i k=[-((i:Int)+1),((i+k:Nat):Int)+2,(i:Int)+1]++winv (Mx.nw (cvec C i (i+(1+k)))):=rfl;generalize hc:cvec C i (i+(1+k))=c at *
 have kD:=TT.nw_hyp s bm;have fI:=zAm s bm;have cK:=bm.len;have x4:=Qn bm (by omega)
 have CU:(Mx.nw c).length<=42:=by rw[Z6 cK,List.length_map];exact fI
 have gV:RelSt O P C (R++[conW C i k]) O.length i (k+1):=by
  refine⟨fun r hr=>?_,fun j hj=>List.mem_append.2 (.inl (bE.2.1 j hj)),fun j q hj hq=>?_⟩
  ·rcases List.mem_append.1 hr with h|h
   ·exact bE.1 r h
   ·rw[List.mem_singleton.1 h];exact .inr ⟨i,k,by omega,rfl⟩
  ·by_cases e:j=i∧q=k
   ·obtain⟨rfl,rfl⟩:=e
    exact List.mem_append.2 (.inr (List.mem_singleton.2 rfl))
   ·exact List.mem_append.2 (.inl (bE.2.2 j q (by omega) hq))
 have uX:IntKind.i64.wrap ((i:Int)+1)=(i:Int)+1:=wrap64 (by omega) (by omega)
 have jo:IntKind.i64.wrap ((i:Int)+(k:Int))=((i+k:Nat):Int):=by rw[wrap64 (by omega) (by omega)];omega
 have uW:IntKind.i64.wrap (((i+k:Nat):Int)+2)=((i+k:Nat):Int)+2:=wrap64 (by omega) (by omega)
 have uV:IntKind.i64.wrap (0-((i:Int)+1))=-((i:Int)+1):=by rw[wrap64 (by omega) (by omega)];omega
 simp only[Z3,seval,-ah,s4,cZ,uX,jo,uW,uV];clear uX jo uW uV;refine zBr kD.1 kD.2 ⟨w7,a7,by rw[cK]⟩ fun v2 bu=>?_
 simp only[Z3,seval,-ah];refine zBt (by omega) (fun q hq=>by have:=x4 q hq;omega) bu fun v3 fE=>?_
 obtain⟨w6,a6,rfl⟩:=fE;have fH:=Zy (w:=Mx.nw c);generalize dP:winv (Mx.nw c)=rest at *
 simp only[Z3,seval,-ah];refine PSl.cat (bytes:=8) (σb:=h') (n:=3) (cs:=pis [-((i:Int)+1),((i+k:Nat):Int)+2,(i:Int)+1]) (zD _ _) (PSl.new _ 1 rfl (vM _)) (by rw[zJ]) (by omega) (by omega) fun v4 h4 k4 a4=>?_
 obtain⟨s2,eL,rfl,eE,q2,q3,q4,q5⟩:=a4;rw[Zm,<-kY]at q2
 have kZ:(conW C i k).length=3+rest.length:=by rw[kY];simp;omega
 have k5:=aq.trans k4;have tY:=ha.keep k4;simp only[Z3,seval,-ah];refine PAcc.pushS (σb:=H) (bytes:=24) (news:=[.sl s2 0 (3+rest.length) eL]) k5 tY rfl (by omega) (by omega) fun v' h2 k6 pD o2 n2 l2=>?_
 simp only[Z3,seval,-ah,wrapS s4 (by omega:O.length-1-i<=4611686018427387904)]
 have og:h2.obj s2=some (pis (conW C i k)):=by rw[o2 _ q5 (ha.ne q4)];exact q2
 refine⟨O.length-1-i-(k+1),by omega,.fzh s2 _ og (zK _ _) fun o3=>?_⟩
 obtain⟨f1,f2,f3⟩:=PSl.fzr hwf k6 pD (s:=s2) (cs:=pis (conW C i k)) (by omega) (n2 _ q5) o3
 rw[zA8 (aj.bI 0) eE.ok]at f2
 refine .here ⟨k+1,v',R++[conW C i k],_,by omega,rfl,?_,f1,by rw[List.length_append];exact f2.acc,aj.snoc ⟨true,.sl o3 0 (3+rest.length) eL,by rw[kZ]⟩,by simp;omega,gV⟩
 show sbs s2 o3 (pis (conW C i k)) [PV.ptr σ.next 0,v',.int .i64 i,.int .i64 O.length,.int .i64 i,.fz w5 a5 (O.length-1-i) rs,.int .i64 (O.length-1-i:Nat),.int .i64 ((k+1:Nat):Int)]=_;simp only[sbs,sb,f3]
end Go.Proofs
namespace Go.Proofs
open Go.Ab Go.Lie Go.Grp
variable{σ h:PHeap}{K:PV->PHeap->Prop}{O x w:List Int}{P:List (List Int)}{C:List (List (List Int))}{vw:PV}{L:List (List Int)}{n:Nat}
def wOk(n:Nat)(w:List Int):Prop:=(∀k∈w,k≠0∧-(n:Int)<=k∧k<=(n:Int))∧w.length<=64
noncomputable def evL(O:List Int)(P:List (List Int))(C:List (List (List Int)))(L:List (List Int))(k:Int):List Int:=if 0<k then L.getD (k-1).toNat []else ginv (gS O) (gm O P C) (zv O) (L.getD (-k-1).toNat [])
noncomputable def evS(O:List Int)(P:List (List Int))(C:List (List (List Int)))(L:List (List Int))(w:List Int):List Int:=w.foldl (fun a k=>gm O P C a (evL O P C L k)) (zv O)
theorem zGY{k:Int}:evS O P C L (w++[k])=gm O P C (evS O P C L w) (evL O P C L k):=by unfold evS;rw[List.foldl_append];rfl
theorem zNY(F:Full O P C O.length)(hL:∀l∈L,gS O l){k:Int}(hk:k≠0∧-(L.length:Int)<=k∧k<=(L.length:Int)):gS O (evL O P C L k):=by
 have get:∀j:Nat,j<L.length->gS O (L.getD j []):=fun j hj=>by
  rw[List.getD_eq_getElem?_getD,vX hj];exact hL _ (List.getElem_mem hj)
 unfold evL
 split
 ·exact get _ (by omega)
 ·exact(F.g.inv_in (get _ (by omega))).1
theorem zAX(s:Shp O P C)(F:Full O P C O.length)(hL:∀l∈L,gS O l):∀{w:List Int},(∀k∈w,k≠0∧-(L.length:Int)<=k∧k<=(L.length:Int))->gS O (evS O P C L w):=by
 intro w;have key:∀(w:List Int) (a:List Int),gS O a->(∀k∈w,k≠0∧-(L.length:Int)<=k∧k<=(L.length:Int))->gS O (w.foldl (fun a k=>gm O P C a (evL O P C L k)) a):=by
  intro w
  induction w with
  |nil=>exact fun a ha _=>ha
  |cons k w ih=>exact fun a ha hw=>ih _ (F.g.cl ha (zNY F hL (hw k (List.mem_cons_self ..)))) fun k' bU=>hw k' (List.mem_cons_of_mem _ bU)
 exact key w _ (s.zv _)
theorem zFf(hw:FI vw w)(hn:n<=1000)(fH:w.length<=1048576)(hk:∀t:Bool,(t=true↔wOk n w)->K (.bool t) σ):zA Tryz.prog 132 [.int .i64 n,vw] σ K:=by
 have fl:∀{A:Prop},¬A->((false=true)↔A):=fun h=>⟨fun x=>(by cases x),fun x=>absurd x h⟩
 obtain⟨ww,aw,rfl⟩:=hw;refine zB mix Tryz.func132 ?_;simp only[Z3,seval,-ah];refine zC (fun m vs h=>∃(i:Nat),i<=w.length∧m=w.length-i∧vs=[.int .i64 n,.fz ww aw w.length (pis w),.fz ww aw w.length (pis w),.int .i64 w.length,.int .i64 i]∧h=σ∧∀k∈w.take i,k≠0∧-(n:Int)<=k∧k<=(n:Int)) w.length ?_ ?_
 ·exact⟨0,Nat.zero_le _,rfl,rfl,rfl,fun k hk=>by simp at hk⟩
 rintro m vs h ⟨i,hi,rfl,rfl,rfl,aW⟩
 simp only[Z3,seval,-ah];refine iteI (fun ai=>?_) fun aE=>?_
 rotate_left
 ·rw[List.take_of_length_le (by omega)]at aW
  refine hk _ ?_;rw[decide_eq_true_iff];exact⟨fun h=>⟨aW,by omega⟩,fun h=>by have:=h.2;omega⟩
 have ak:(i:Int)<(w.length:Int):=by omega
 have gx:(pis w)[i]? = some (.int .i64 w[i]):=by rw[zG,gi ai];rfl
 have mem:w[i]∈w:=List.getElem_mem ai;have wn:IntKind.i64.wrap (0-(n:Int))=-(n:Int):=by rw[wrap64 (by omega) (by omega)];omega
 by_cases d0:w[i]=0
 ·simp only[Z3,seval,-ah,ai,ak,gx,d0]
  exact hk _ (fl fun h=>(h.1 _ mem).1 d0)
 simp only[Z3,seval,-ah,ai,ak,gx,d0,wn];refine qx ?_
 by_cases hb:-(n:Int)<=w[i]∧w[i]<=(n:Int)
 ·simp only[Z3,seval,-ah,hb,wrapS ai (by omega:w.length<=4611686018427387904)]
  refine⟨_,by omega,i+1,by omega,rfl,rfl,?_⟩
  intro k hk;rw[List.take_succ_eq_append_getElem ai]at hk
  rcases List.mem_append.1 hk with hk|hk
  ·exact aW k hk
  ·rw[List.mem_singleton.1 hk];exact⟨d0,hb⟩
 ·simp only[Z3,seval,-ah,hb,decide_false]
  exact hk _ (fl fun h=>hb (h.1 _ mem).2)
theorem zHh(hw:FI vw w)(hn:n<=1000)(fH:w.length<=1048576)(hk:∀t:Bool,(t=true↔wOk n w)->K (.bool t) σ):zA Tryz.prog 64 [.int .i64 n,vw] σ K:=by
 have fl:∀{A:Prop},¬A->((false=true)↔A):=fun h=>⟨fun x=>(by cases x),fun x=>absurd x h⟩
 obtain⟨ww,aw,rfl⟩:=hw;refine zB mix Tryz.func64 ?_
 by_cases Bt:(64:Int)<(w.length:Int)
 ·simp only[Z3,seval,-ah,Bt]
  exact hk _ (fl fun h=>by have:=h.2;omega)
 simp only[Z3,seval,-ah,Bt];refine zC (fun m vs h=>∃(i:Nat),i<=w.length∧m=w.length-i∧vs=[.int .i64 n,.fz ww aw w.length (pis w),.int .i64 i]∧h=σ∧∀k∈w.take i,k≠0∧-(n:Int)<=k∧k<=(n:Int)) w.length ?_ ?_
 ·exact⟨0,Nat.zero_le _,rfl,rfl,rfl,fun k hk=>by simp at hk⟩
 rintro m vs h ⟨i,hi,rfl,rfl,rfl,aW⟩
 simp only[Z3,seval,-ah];refine iteI (fun ai=>?_) fun aE=>?_
 rotate_left
 ·rw[List.take_of_length_le (by omega)]at aW
  exact hk _ ⟨fun _=>⟨aW,by omega⟩,fun _=>rfl⟩
 have ak:(i:Int)<(w.length:Int):=by omega
 have gx:(pis w)[i]? = some (.int .i64 w[i]):=by rw[zG,gi ai];rfl
 have mem:w[i]∈w:=List.getElem_mem ai;have wn:IntKind.i64.wrap (0-(n:Int))=-(n:Int):=by rw[wrap64 (by omega) (by omega)];omega
 by_cases d0:w[i]=0
 ·simp only[Z3,seval,-ah,ai,ak,gx,d0]
  exact hk _ (fl fun h=>(h.1 _ mem).1 d0)
 simp only[Z3,seval,-ah,ai,ak,gx,d0,wn];refine QY ?_
 by_cases hb:-(n:Int)<=w[i]∧w[i]<=(n:Int)
 ·simp only[Z3,seval,-ah,hb,wrapS ai (by omega:w.length<=4611686018427387904)]
  refine⟨_,by omega,i+1,by omega,rfl,rfl,?_⟩
  intro k hk;rw[List.take_succ_eq_append_getElem ai]at hk
  rcases List.mem_append.1 hk with hk|hk
  ·exact aW k hk
  ·rw[List.mem_singleton.1 hk];exact⟨d0,hb⟩
 ·simp only[Z3,seval,-ah,hb,decide_false]
  exact hk _ (fl fun h=>hb (h.1 _ mem).2)
end Go.Proofs
namespace Go.Proofs
open Go.Ab Go.Lie Go.Grp
variable{σ h:PHeap}{K:PV->PHeap->Prop}{O x y w:List Int}{P:List (List Int)}{C:List (List (List Int))}{vO vP vC vw vD:PV}{L:List (List Int)}{sp n:Nat}
theorem zLj{a:List Int}{va:PV}(s:Shp O P C)(F:Full O P C O.length)(hs:PtrG σ sp vO vP vC)(hR:IsPr vO vP vC O P C)(ha:gS O a)(dN:FI va a)(hk:∀v,FI v (ginv (gS O) (gm O P C) (zv O) a)->K v σ):zA Tryz.prog 176 [.ptr sp 0,va] σ K:=by
 refine zCP (d:=O.length) s F hs hR (by rw[Nat.sub_self];exact ha) dN fun v z hz hm hv=>?_
 rw[Nat.sub_self]at hz
 obtain rfl:z=ginv (gS O) (gm O P C) (zv O) a:=F.g.inv_eq ha hz hm;exact hk v hv
theorem zER{wD:Bool}{aD:AV}{rD:List PV}(g:LG O P C)(hs:PtrG σ sp vO vP vC)(hR:IsPr vO vP vC O P C)(hw:FI vw w)(hl:∀k∈w,k≠0∧-(L.length:Int)<=k∧k<=(L.length:Int))(fH:w.length<=1000)(hD:All2 FI rD L)(m8:L.length<=100)(hg:∀y∈L,gS O y)
  (hk:∀v,FI v (evS O P C L w)->K v σ):zA Tryz.prog 134 [.ptr sp 0,vw,.fz wD aD L.length rD] σ K:=by
 have s:=g.s;have F:=g.F;have pX:=s.le;have xj:=hs.lt;have aV:=hR;obtain⟨⟨wO,aO,rfl⟩,_,_⟩:=hR;obtain⟨ww,aw,rfl⟩:=hw;refine zA.gh ?_;refine zB mix Tryz.func134 ?_;have r0:∀{H:PHeap},Keep σ H->H.rd1 sp 0=some (.fz wO aO O.length (pis O)):=fun k=>by rw[zF (hs.keep k).obj];rfl
 simp only[Z3,seval,-ah,r0 (Keep.refl σ),zZ,mk8 (n:=O.length) (by omega),Go.Ab.mkL (n:=O.length) (by omega)]
 refine zC (fun m vs h=>∃(i:Nat),i<=w.length∧m=w.length-i∧vs=[.ptr sp 0,.fz wD aD L.length rD,.sl σ.next 0 O.length (.known O.length),.fz ww aw w.length (pis w),.int .i64 w.length,.int .i64 i]∧Keep σ h∧h.obj σ.next=some (pis (evS O P C L (w.take i)))∧σ.next<h.next) w.length ?_ ?_
 ·exact⟨0,Nat.zero_le _,rfl,rfl,zD σ _,by rw[zH,if_pos rfl];rfl,Nat.lt_succ_self _⟩
 rintro m vs h ⟨i,hi,rfl,rfl,aq,dH,jz⟩
 simp only[Z3,seval,-ah];refine iteI (fun ai=>?_) fun aE=>?_
 rotate_left
 ·have e:w.take i=w:=List.take_of_length_le (by omega)
  rw[e]at dH
  have Dl:(evS O P C L w).length=O.length:=(zAX s F hg hl).len;rw[<-Dl];exact Gh.finF aq dH (vM _) (zK _ _) (show full 1 (.known _) _ from .inr rfl).ok fun o=>hk _ ⟨true,_,rfl⟩
 have ak:(i:Int)<(w.length:Int):=by omega
 have gx:(pis w)[i]? = some (.int .i64 w[i]):=by rw[zG,gi ai];rfl
 have lw:=hl _ (List.getElem_mem ai);have hy:gS O (evS O P C L (w.take i)):=zAX s F hg fun k bU=>hl k (List.mem_of_mem_take bU)
 have nN:=hs.keep aq;have aC:sp≠σ.next:=Nat.ne_of_lt xj;have rE:∀{k:Int},w[i]=k->∀{z:List Int},evL O P C L k=z->gm O P C (evS O P C L (w.take i)) z=evS O P C L (w.take (i+1)):=fun {k} bU {z} hz=>by
  rw[List.take_succ_eq_append_getElem ai,zGY,bU,hz]
 by_cases aF:0<w[i]
 ·obtain⟨j,hj⟩:∃j:Nat,w[i]=(j:Int)+1:=⟨(w[i] - 1).toNat,by omega⟩
  have fV:j<L.length:=by omega
  have iQ:(j:Int)<(L.length:Int):=by omega
  obtain⟨w5,a5,dj⟩:=hD.rowI fV;have wj:IntKind.i64.wrap ((j:Int)+1-1)=(j:Int):=by rw[wrap64 (by omega) (by omega)];omega
  have dn:¬(j:Int)+1<0:=by omega
  rw[hj]at gx
  simp only[Z3,seval,-ah,ai,ak,gx];refine zKn (by omega) ?_
  simp only[Z3,seval,-ah,wj,fV,iQ,dj,dn];have p6:=hg _ (List.getElem_mem fV);refine qh (x:=evS O P C L (w.take i)) (f:=L[j]) s F nN aV dH jz (by omega) (.inr rfl) (by rw[Nat.sub_self];exact hy) (by rw[Nat.sub_self];exact p6) ⟨w5,a5,rfl⟩ ?_
  have ez:evL O P C L ((j:Int)+1)=L[j]:=by
   unfold evL;rw[if_pos (by omega),show((j:Int)+1-1).toNat=j by omega,List.getD_eq_getElem?_getD,vX fV];rfl
  have es:=rE hj ez;simp only[Z3,seval,-ah,wrapS ai (by omega:w.length<=4611686018427387904)]
  exact⟨_,by omega,i+1,by omega,rfl,rfl,aq.set (vM _) _,by rw[<-es],jz⟩
 ·obtain⟨j,hj⟩:∃j:Nat,w[i]=-((j:Int)+1):=⟨(-w[i] - 1).toNat,by omega⟩
  have fV:j<L.length:=by omega
  have iQ:(j:Int)<(L.length:Int):=by omega
  obtain⟨w5,a5,dj⟩:=hD.rowI fV;have wj:IntKind.i64.wrap ((j:Int)+1-1)=(j:Int):=by rw[wrap64 (by omega) (by omega)];omega
  have dn:-((j:Int)+1)<0:=by omega
  rw[hj]at gx
  simp only[Z3,seval,-ah,ai,ak,gx];refine zIG (by omega) ?_
  simp only[Z3,seval,-ah,wj,fV,iQ,dj,dn];have p6:=hg _ (List.getElem_mem fV);refine zLj s F nN aV p6 ⟨w5,a5,rfl⟩ fun v2 bu=>?_
  have dk:=(F.g.inv_in p6).1;have j9:=bu.one;simp only[Z3,seval,-ah,j9];refine qh (x:=evS O P C L (w.take i)) (f:=ginv (gS O) (gm O P C) (zv O) L[j]) s F nN aV dH jz (by omega) (.inr rfl) (by rw[Nat.sub_self];exact hy) (by rw[Nat.sub_self];exact dk) bu ?_
  have ez:evL O P C L (-((j:Int)+1))=ginv (gS O) (gm O P C) (zv O) L[j]:=by
   unfold evL;rw[if_neg (by omega),show(-(-((j:Int)+1))-1).toNat=j by omega,List.getD_eq_getElem?_getD,vX fV];rfl
  have es:=rE hj ez;simp only[Z3,seval,-ah,wrapS ai (by omega:w.length<=4611686018427387904)]
  exact⟨_,by omega,i+1,by omega,rfl,rfl,aq.set (vM _) _,by rw[<-es],jz⟩
theorem zE6{D:List (List Int)}(s:Shp O P C)(hc:Cons O P C)(hR:IsPr vO vP vC O P C)(hw:FI vw w)(hl:∀k∈w,k≠0∧-(D.length:Int)<=k∧k<=(D.length:Int))(fH:w.length<=1000)(hD:FII vD D)(m8:D.length<=100)(hg:∀y∈D,gS O y)(hk:∀v,FI v (evS O P C D w)->K v σ):
  zA Tryz.prog 65 [.agg [vO,vP,vC],vw,vD] σ K:=by
 have g0:=hR.O.one;have g1:=hR.P.one;have g2:=hR.C.one;have F:=Cons.full s hc;have pX:=s.le;obtain⟨ww,aw,rfl⟩:=hw;obtain⟨wD,aD,rD,rfl,nU⟩:=hD;refine zA.gh ?_;refine zB mix Tryz.func65 ?_;simp only[Z3,seval,-ah,g0,g1,g2];generalize hH:σ.new [vO,vP,vC]=H;have kH:Keep σ H:=by rw[<-hH];exact zD _ _
 have r3:H.rd σ.next 0 3=some [vO,vP,vC]:=by rw[<-hH];simp only[Z3,seval,-ah]
 clear hH;simp only[Z3,seval,-ah,r3];refine zGN hR (by omega) fun v0 gF=>?_
 have h0:=gF.one;simp only[Z3,seval,-ah,h0];refine zC (fun q vs h=>∃(i:Nat) (v:PV),i<=w.length∧q=w.length-i∧vs=[.fz ww aw w.length (pis w),.fz wD aD D.length rD,.ptr σ.next 0,v,.int .i64 i]∧FI v (evS O P C D (w.take i))∧h=H) w.length ?_ ?_
 ·exact⟨0,v0,Nat.zero_le _,rfl,rfl,gF,rfl⟩
 rintro q vs h ⟨i,v,hi,rfl,rfl,hv,rfl⟩
 have h1:=hv.one;have hy:gS O (evS O P C D (w.take i)):=zAX s F hg fun k bU=>hl k (List.mem_of_mem_take bU)
 simp only[Z3,seval,-ah,h1];refine iteI (fun ai=>?_) fun aE=>?_
 rotate_left
 ·rw[List.take_of_length_le (by omega)]at hv
  exact Gh.fin0 kH (hv.bel _) (hk v hv)
 have ak:(i:Int)<(w.length:Int):=by omega
 have gx:(pis w)[i]? = some (.int .i64 w[i]):=by rw[zG,gi ai];rfl
 have wi:=wrapS ai (by omega:w.length<=4611686018427387904)
 have lw:=hl _ (List.getElem_mem ai);have rE:∀{k:Int},w[i]=k->∀{z:List Int},evL O P C D k=z->gm O P C (evS O P C D (w.take i)) z=evS O P C D (w.take (i+1)):=fun {k} bU {z} hz=>by
  rw[List.take_succ_eq_append_getElem ai,zGY,bU,hz]
 simp only[Z3,seval,-ah,h1,ai,ak,gx];refine iteI (fun aF=>?_) fun fJ=>?_
 ·obtain⟨j,hj⟩:∃j:Nat,w[i]=(j:Int)+1:=⟨(w[i] - 1).toNat,by omega⟩
  have fV:j<D.length:=by omega
  have iQ:(j:Int)<(D.length:Int):=by omega
  obtain⟨w5,a5,dj⟩:=nU.rowI fV;have wj:IntKind.i64.wrap ((j:Int)+1-1)=(j:Int):=by rw[wrap64 (by omega) (by omega)];omega
  have ez:evL O P C D ((j:Int)+1)=D[j]:=by
   unfold evL;rw[if_pos (by omega),show((j:Int)+1-1).toNat=j by omega,List.getD_eq_getElem?_getD,vX fV];rfl
  have es:=rE hj ez;rw[hj]at gx
  simp only[Z3,seval,-ah,h1,ai,ak,gx,hj,wj,fV,iQ,dj,r3];refine qP s hR hy (hg _ (List.getElem_mem fV)) hv ⟨w5,a5,rfl⟩ fun v2 bu=>?_
  have h2:=bu.one;rw[es]at bu
  simp only[Z3,seval,-ah,h2,wi];exact⟨_,by omega,i+1,v2,by omega,rfl,rfl,bu⟩
 ·obtain⟨j,hj⟩:∃j:Nat,w[i]=-((j:Int)+1):=⟨(-w[i] - 1).toNat,by omega⟩
  have fV:j<D.length:=by omega
  have iQ:(j:Int)<(D.length:Int):=by omega
  obtain⟨w5,a5,dj⟩:=nU.rowI fV;have wn:IntKind.i64.wrap (0 - -((j:Int)+1))=(j:Int)+1:=by rw[wrap64 (by omega) (by omega)];omega
  have wj:IntKind.i64.wrap ((j:Int)+1-1)=(j:Int):=by rw[wrap64 (by omega) (by omega)];omega
  have ez:evL O P C D (-((j:Int)+1))=ginv (gS O) (gm O P C) (zv O) D[j]:=by
   unfold evL;rw[if_neg (by omega),show(-(-((j:Int)+1))-1).toNat=j by omega,List.getD_eq_getElem?_getD,vX fV];rfl
  have es:=rE hj ez;rw[hj]at gx
  simp only[Z3,seval,-ah,h1,ai,ak,gx,hj,wn,wj,fV,iQ,dj,r3];refine zAq s hc hR (hg _ (List.getElem_mem fV)) ⟨w5,a5,rfl⟩ fun v2 bu=>?_
  have dk:gS O (ginv (gS O) (gm O P C) (zv O) D[j]):=(F.g.inv_in (hg _ (List.getElem_mem fV))).1;simp only[Z3,seval,-ah,bu.one,h1,r3];refine qP s hR hy dk hv bu fun v3 fE=>?_
  have h3:=fE.one;rw[es]at fE
  simp only[Z3,seval,-ah,h3,wi];exact⟨_,by omega,i+1,v3,by omega,rfl,rfl,fE⟩
end Go.Proofs
namespace Go.Proofs
open Go.Ab Go.Lie Go.Grp
variable{σ h:PHeap}{K:PV->PHeap->Prop}{x w:List Int}{v:PV}{u:List (List Int)}
theorem zEJ(hv:FI v x)(hn:x.length<=6)(hx:∀a∈x,0<=a∧a<=7)(hk:∀u,FI u (Mx.nw x)->K u σ):zA Tryz.prog 103 [v] σ K:=by
 obtain⟨w,a,rfl⟩:=hv;have fI:∀i,i<=x.length->(Mx.nword x i).length<=7*i:=fun i=>by
  induction i with
  |zero=>intro _;exact vM _
  |succ i ih=>
   intro hi
   have:=ih (by omega)
   have b:=hx _ (List.getElem_mem (show i<x.length by omega))
   rw[Mx.nword,List.length_append,List.length_replicate];have e:nx x i=(x[i]'(by omega)).toNat:=by unfold nx;rw[at_eq (by omega)]
   rw[e];omega
 refine zA.gh ?_;refine zB mix Tryz.func103 ?_;simp only[Z3,seval,-ah];refine zC (fun m vs h=>∃(i:Nat) (v:PV),i<=x.length∧m=x.length-i∧vs=[.fz w a x.length (pis x),v,.int .i64 i]∧Keep σ h∧PSl σ.next 1 h v (Mx.nword x i).length (pis (Mx.nword x i))) x.length ?_ ?_
 ·exact⟨0,_,Nat.zero_le _,rfl,rfl,zD _ _,PSl.new _ 1 rfl (vM _)⟩
 rintro m vs h ⟨i,v,hi,rfl,rfl,kk,pa⟩
 have h1:=pa.one;have eU:=fI i hi;simp only[Z3,seval,-ah,h1];refine iteI (fun ai=>?_) fun aE=>?_
 rotate_left
 ·obtain rfl:i=x.length:=by omega
  exact pa.fin kk (zK _ _) fun o cap=>hk _ ⟨true,_,rfl⟩
 have ak:(i:Int)<(x.length:Int):=by omega
 have gx:(pis x)[i]? = some (.int .i64 x[i]):=by rw[zG,gi ai];rfl
 have xb:=hx _ (List.getElem_mem ai);refine zC (fun m vs h=>∃(j:Nat) (v:PV),(j:Int)<=x[i]∧m=7-j∧vs=[.fz w a x.length (pis x),v,.int .i64 i,.int .i64 j]∧Keep σ h∧PSl σ.next 1 h v (Mx.nword x i++List.replicate j ((i:Int)+1)).length (pis (Mx.nword x i++List.replicate j ((i:Int)+1)))) 7 ?_ ?_
 ·exact⟨0,v,by omega,rfl,rfl,kk,by rw[List.replicate_zero,List.append_nil];exact pa⟩
 clear pa kk h1
 rintro m vs h ⟨j,v,hj,rfl,rfl,kk,pa⟩
 have h1:=pa.one;have l9:(Mx.nword x i++List.replicate j ((i:Int)+1)).length=(Mx.nword x i).length+j:=by rw[List.length_append,List.length_replicate]
 simp only[Z3,seval,-ah,h1,ai,ak,gx];refine iteI (fun yd=>?_) fun aE=>?_
 rotate_left
 ·have e:Mx.nword x i++List.replicate j ((i:Int)+1)=Mx.nword x (i+1):=by
   rw[Mx.nword]
   have:nx x i=j:=by unfold nx;rw[at_eq ai];omega
   rw[this]
  rw[e]at pa
  simp only[Z3,seval,-ah,h1,wrapS ai (by omega:x.length<=4611686018427387904)]
  exact⟨_,by omega,i+1,v,by omega,rfl,rfl,kk,pa⟩
 have wi:IntKind.i64.wrap ((i:Int)+1)=(i:Int)+1:=wrap64 (by omega) (by omega)
 have wj:IntKind.i64.wrap ((j:Int)+1)=((j+1:Nat):Int):=by rw[wrap64 (by omega) (by omega)];omega
 simp only[Z3,seval,-ah,h1,wi];refine PSl.push (σb:=σ) (bytes:=8) kk pa (by omega) (by omega) fun v2 h2 k2 a2=>?_
 have h3:=a2.one;simp only[Z3,seval,-ah,h3,wj];have e:Mx.nword x i++List.replicate (j+1) ((i:Int)+1)=(Mx.nword x i++List.replicate j ((i:Int)+1))++[(i:Int)+1]:=by rw[List.replicate_succ',List.append_assoc]
 have e2:∀z:List Int,pis (z++[(i:Int)+1])=pis z++[.int .i64 ((i:Int)+1)]:=fun z=>by simp[pis]
 have fin:∀{z:List Int},PSl σ.next 1 h2 v2 (z.length+1) (pis z++[.int .i64 ((i:Int)+1)])->PSl σ.next 1 h2 v2 (z++[(i:Int)+1]).length (pis (z++[(i:Int)+1])):=fun h=>by rw[e2,List.length_append];exact h
 exact⟨_,by omega,j+1,v2,by omega,rfl,rfl,k2,by rw[e];exact fin a2⟩
theorem zCM(hv:FI v w)(hn:w.length<=1000)(hb:∀l∈w,-1000<=l∧l<=1000)(hk:∀u,FI u (winv w)->K u σ):zA Tryz.prog 102 [v] σ K:=by
 obtain⟨ww,a,rfl⟩:=hv;have fH:(winv w).length=w.length:=Zy;have gw:∀j,(hj:j<w.length)->(winv w).take (j+1)=(winv w).take j++[-w[w.length-1-j]]:=fun j hj=>by
  rw[List.take_succ_eq_append_getElem (by omega)]
  congr 2
  unfold winv;rw[List.getElem_reverse,List.getElem_map]
  congr 2
  simp
 refine zA.gh ?_;refine zB mix Tryz.func102 ?_;have w0:IntKind.i64.wrap ((w.length:Int)-1)=(w.length:Int)-1:=wrap64 (by omega) (by omega)
 simp only[Z3,seval,-ah,w0];refine zC (fun m vs h=>∃(j:Nat) (v:PV),j<=w.length∧m=w.length-j∧vs=[.fz ww a w.length (pis w),v,.int .i64 ((w.length:Int)-1-j)]∧Keep σ h∧PSl σ.next 1 h v j (pis ((winv w).take j))) w.length ?_ ?_
 ·exact⟨0,_,Nat.zero_le _,rfl,by rw[show((w.length:Int)-1-((0:Nat):Int))=(w.length:Int)-1 by omega];rfl,zD _ _,PSl.new _ 1 rfl (vM _)⟩
 rintro m vs h ⟨j,v,hj,rfl,rfl,kk,pa⟩
 have h1:=pa.one;rcases Nat.lt_or_ge j w.length with ai|aE
 ·have g0:(0:Int)<=(w.length:Int)-1-j:=by omega
  have ei:(w.length:Int)-1-j=((w.length-1-j:Nat):Int):=by omega
  have hi:w.length-1-j<w.length:=by omega
  have oM:((w.length-1-j:Nat):Int)<(w.length:Int):=by omega
  have gx:(pis w)[w.length-1-j]? = some (.int .i64 w[w.length-1-j]):=by rw[zG,gi hi];rfl
  have bx:=hb _ (List.getElem_mem hi);have wn:IntKind.i64.wrap (0-w[w.length-1-j])=-w[w.length-1-j]:=by rw[wrap64 (by omega) (by omega)];omega
  have w1:IntKind.i64.wrap (((w.length-1-j:Nat):Int)-1)=(w.length:Int)-1-((j+1:Nat):Int):=by rw[wrap64 (by omega) (by omega)];omega
  have n0:(0:Int)<=((w.length-1-j:Nat):Int):=by omega
  rw[ei];simp only[Z3,seval,-ah,h1,hi,oM,n0,gx,wn];refine PSl.push (σb:=σ) (bytes:=8) kk pa (by omega) (by omega) fun v2 h2 k2 a2=>?_
  have h3:=a2.one;simp only[Z3,seval,-ah,h3,w1];have e2:∀z:List Int,∀q:Int,pis (z++[q])=pis z++[.int .i64 q]:=fun z q=>by simp[pis]
  exact⟨_,by omega,j+1,v2,by omega,rfl,rfl,k2,by rw[gw j ai,e2];exact a2⟩
 ·obtain rfl:j=w.length:=by omega
  have n0:¬(0:Int)<=(w.length:Int)-1-(w.length:Int):=by omega
  simp only[Z3,seval,-ah,h1,n0];rw[List.take_of_length_le (by omega)]at pa
  exact pa.fin kk (zK _ _) fun o cap=>hk _ ⟨true,_,by rw[fH]⟩
end Go.Proofs
namespace Go.Proofs
open Go.Ab Go.Lie Go.Grp
variable{σ h:PHeap}{K:PV->PHeap->Prop}{O w:List Int}{P:List (List Int)}{C:List (List (List Int))}{vO vP vC vL v:PV}{n:Nat}
theorem PAcc.finB{σb:PHeap}{e n:Nat}{cs:List PV}(hb:σ.next<=σb.next)(hk:Keep σ h)(a:PAcc σb.next e h v n cs)(hl:Bels 0 cs)(k:∀a,K (.fz true a n cs) σ):Gh σ K v h:=by
 rcases a with ⟨rfl,rfl,rfl⟩|⟨s,cap,rfl,hc,q2,q3,q4,q5⟩
 ·exact Gh.fin0 hk trivial (k _)
 ·exact Gh.finF hk q2 (by omega) hl hc.ok fun o=>k _
theorem zGD(s:Shp O P C){c:List Int}{i:Nat}(hc:TT O i c)(hi:i<=O.length):c.length<=6∧(∀a∈c,0<=a∧a<=7)∧(Mx.nw c).length<=42∧∀l∈Mx.nw c,-1000<=l∧l<=1000:=by
 have h6:=s.le;have hl:=hc.len;have h1:=Qn hc hi;refine⟨by omega,fun a ha=>?_,by have:=zAm s hc;rw[Z6 hl,List.length_map];exact this,fun l aY=>by have:=h1 l aY;omega⟩
 obtain⟨j,hj,rfl⟩:=List.mem_iff_getElem.1 ha;have b:=hc.bd j (by omega)
 rw[at_eq hj]at b
 have o:=s.pr j (by omega)
 omega
set_option maxHeartbeats 1600000 in
theorem zBF(hp:zM O P C)(hR:IsPr vO vP vC O P C)(hk:∀v R,FII v R->((∀r∈R,RelOK O P C r)∧∀r,RelOK O P C r->r∈R)->R.length<=100->K v σ):zA Tryz.prog 56 [.agg [vO,vP,vC]] σ K:=by
 have s:=hp.shp;have h6:=s.le;have g1:=hR.O.one;have g2:=hR.P.one;have g3:=hR.C.one;obtain⟨⟨w0,a0,rfl⟩,⟨w1,a1,rP,rfl,hP⟩,⟨w3,a3,rC,rfl,hC⟩⟩:=hR;refine zA.pwf fun wf=>zA.gh ?_
 have ob:(σ.new [.fz w0 a0 O.length (pis O),.fz w1 a1 P.length rP,.fz w3 a3 C.length rC]).obj σ.next=some [.fz w0 a0 O.length (pis O),.fz w1 a1 P.length rP,.fz w3 a3 C.length rC]:=by rw[zH,if_pos rfl]
 have hwf:PWF (σ.new [PV.fz w0 a0 O.length (pis O),.fz w1 a1 P.length rP,.fz w3 a3 C.length rC]):=PWF.newF wf ⟨trivial,trivial,trivial,trivial⟩;have k1:=zD σ [PV.fz w0 a0 O.length (pis O),.fz w1 a1 P.length rP,.fz w3 a3 C.length rC];have jg:(σ.new [PV.fz w0 a0 O.length (pis O),.fz w1 a1 P.length rP,.fz w3 a3 C.length rC]).next=σ.next+1:=rfl;refine zB mix Tryz.func56 ?_;simp only[Z3,seval,-ah,g1,g2,g3];generalize σ.new [PV.fz w0 a0 O.length (pis O),.fz w1 a1 P.length rP,.fz w3 a3 C.length rC]=H at *
 have Ei:H.rd1 σ.next 0=some (.fz w0 a0 O.length (pis O)):=by rw[zF ob];rfl
 have xk:¬σ.next=H.next:=by omega
 simp only[Z3,seval,-ah,Ei,xk];rw[<-jg];refine qK (fun m us h'=>∃(i:Nat) (vL:PV) (R:List (List Int)) (rows:List PV),i<=O.length∧m=O.length-i∧us=[.ptr σ.next 0,vL,.int .i64 O.length,.int .i64 i]∧Keep H h'∧PAcc H.next 1 h' vL R.length rows∧All2 FI rows R∧R.length=i∧RelSt O P C R i 0 0) O.length ?_ ?_
 ·exact .here ⟨0,_,[],[],by omega,by omega,rfl,zD H _,PSl.acc (PSl.new _ 1 rfl (vM _)),All2.nil _,rfl,fun r hr=>(by cases hr),fun j hj=>by omega,fun j q hj=>by omega⟩
 rintro m us h' ⟨i,vL,R,rows,hi,rfl,rfl,aq,ha,aj,fQ,bE⟩
 have cA:=aq.next;have dH:h'.obj σ.next=some [.fz w0 a0 O.length (pis O),.fz w1 a1 P.length rP,.fz w3 a3 C.length rC]:=by rw[aq.obj _ (by omega)];exact ob
 have one:=ha.one;simp only[Z3,seval,-ah,one];refine iteI (fun ai=>?_) fun aE=>?_
 ·have bO:=s.pr i ai
  rw[at_eq ai]at bO
  have AT:((nx O i:Nat):Int)=O[i]:=by unfold nx;rw[at_eq ai];omega
  have dd:i<P.length:=by rw[s.pl];exact ai
  obtain⟨w5,a5,cE⟩:=hP.rowI dd;have bM:=s.pw i ai;have gP:P.getD i []=P[i]:=ze dd;rw[show pvec P i=P[i] from gP]at bM
  have jw:relW O P i=List.replicate (nx O i) ((i:Int)+1)++winv (Mx.nw P[i]):=by unfold relW;rw[show pvec P i=P[i] from gP]
  obtain⟨f1,f2,f3,f4⟩:=zGD s bM (by omega)
  have ew:IntKind.i64.wrap ((i:Int)+1)=(i:Int)+1:=wrap64 (by omega) (by omega)
  have gV:RelSt O P C (R++[relW O P i]) (i+1) 0 0:=by
   refine⟨fun r hr=>?_,fun j hj=>?_,fun j q hj=>by omega⟩
   ·rcases List.mem_append.1 hr with h|h
    ·exact bE.1 r h
    ·rw[List.mem_singleton.1 h];exact .inl ⟨i,ai,rfl⟩
   ·rcases Nat.lt_or_ge j i with h|h
    ·exact List.mem_append.2 (.inl (bE.2.1 j h))
    ·obtain rfl:j=i:=by omega
     exact List.mem_append.2 (.inr (List.mem_singleton.2 rfl))
  have gO:(pis O)[i]? = some (.int .i64 O[i]):=by rw[zG,gi ai];rfl
  have ak:(i:Int)<(O.length:Int):=by omega
  refine zC (fun m us h2=>∃(j:Nat) (v:PV),(j:Int)<=O[i]∧m=8-j∧us=[.ptr σ.next 0,vL,.int .i64 O.length,.int .i64 i,v,.int .i64 j]∧Keep h' h2∧PSl h'.next 1 h2 v j (pis (List.replicate j ((i:Int)+1)))) 8 ?_ ?_
  ·exact⟨0,_,by omega,rfl,rfl,zD h' _,PSl.new _ 1 rfl (vM _)⟩
  rintro m us h2 ⟨j,v,hj,rfl,rfl,dC,pa⟩
  have sU:h2.obj σ.next=some [.fz w0 a0 O.length (pis O),.fz w1 a1 P.length rP,.fz w3 a3 C.length rC]:=by rw[dC.obj _ (by omega)];exact dH
  have e0:h2.rd1 σ.next 0=some (.fz w0 a0 O.length (pis O)):=by rw[zF sU];rfl
  have e1:h2.rd1 σ.next 1=some (.fz w1 a1 P.length rP):=by rw[zF sU];rfl
  have j8:=pa.one;simp only[Z3,seval,-ah,one,j8,e0,e1,ai,ak,gO];refine iteI (fun yd=>?_) fun aE=>?_
  ·have wj:IntKind.i64.wrap ((j:Int)+1)=((j+1:Nat):Int):=by rw[wrap64 (by omega) (by omega)];omega
   simp only[Z3,seval,-ah,one,j8,ew];refine PSl.push (σb:=h') (bytes:=8) dC pa (by omega) (by omega) fun v2 h3 k3 a3=>?_
   have DQ:=a3.one;simp only[Z3,seval,-ah,one,DQ,wj];exact⟨_,by omega,j+1,v2,by omega,rfl,rfl,k3,by rw[List.replicate_succ',show pis (List.replicate j ((i:Int)+1)++[(i:Int)+1])=pis (List.replicate j ((i:Int)+1))++[.int .i64 ((i:Int)+1)] by simp[pis]];exact a3⟩
  have c6:j=nx O i:=by omega
  subst c6;simp only[Z3,seval,-ah,one,j8,e1,dd,cE];refine zEJ ⟨w5,a5,rfl⟩ f1 f2 fun v2 bu=>?_
  simp only[Z3,seval,-ah,one,j8,bu.one];refine zCM bu (by omega) f4 fun v3 fE=>?_
  have fH:=Zy (w:=Mx.nw P[i]);obtain⟨w6,a6,rfl⟩:=fE;have Cw:nx O i<=7:=by omega
  simp only[Z3,seval,-ah,one,j8];refine PSl.cat (bytes:=8) (σb:=h') dC pa (by rw[zJ]) (by omega) (by omega) fun v4 h4 k4 a4=>?_
  obtain⟨s2,eL,rfl,eE,q2,q3,q4,q5⟩:=a4;rw[Zm,<-jw]at q2
  have kZ:(relW O P i).length=nx O i+(winv (Mx.nw P[i])).length:=by rw[jw,List.length_append,List.length_replicate]
  have k5:=aq.trans k4;have tY:=ha.keep k4;simp only[Z3,seval,-ah,one];refine PAcc.pushS (σb:=H) (bytes:=24) (news:=[.sl s2 0 (nx O i+(winv (Mx.nw P[i])).length) eL]) k5 tY rfl (by omega) (by omega) fun v' h2 k6 pD o2 n2 l2=>?_
  have j7:=pD.one;simp only[Z3,seval,-ah,j7,wrapS ai (by omega:O.length<=4611686018427387904)]
  have og:h2.obj s2=some (pis (relW O P i)):=by rw[o2 _ q5 (ha.ne q4)];exact q2
  refine⟨O.length-(i+1),by omega,.fzh s2 _ og (zK _ _) fun o3=>?_⟩
  obtain⟨f1,f2,f3⟩:=PSl.fzr hwf k6 pD (s:=s2) (cs:=pis (relW O P i)) (by omega) (n2 _ q5) o3
  rw[zA8 (aj.bI 0) eE.ok]at f2
  refine .here ⟨i+1,v',R++[relW O P i],_,by omega,rfl,?_,f1,by rw[List.length_append];exact f2.acc,aj.snoc ⟨true,.sl o3 0 (nx O i+(winv (Mx.nw P[i])).length) eL,by rw[kZ]⟩,by simp[fQ],gV⟩
  show sbs s2 o3 (pis (relW O P i)) [PV.ptr σ.next 0,v',.int .i64 O.length,.int .i64 ((i+1:Nat):Int)]=_;simp only[sbs,sb,f3]
 obtain rfl:i=O.length:=by omega
 simp only[Z3,seval,-ah,one];refine zC (fun m us h'=>∃(i:Nat) (vL:PV) (R:List (List Int)) (rows:List PV),i<=O.length∧m=O.length-i∧us=[.ptr σ.next 0,vL,.int .i64 O.length,.int .i64 i]∧Keep H h'∧PAcc H.next 1 h' vL R.length rows∧All2 FI rows R∧R.length<=6+6*i∧RelSt O P C R O.length i 0) O.length ?_ ?_
 ·exact⟨0,vL,R,rows,by omega,by omega,rfl,aq,ha,aj,by omega,bE⟩
 clear ha aj bE aq dH cA fQ aE hi one
 rintro m us h' ⟨i,vL,R,rows,hi,rfl,rfl,aq,ha,aj,fQ,bE⟩
 have cA:=aq.next;have one:=ha.one;simp only[Z3,seval,-ah,one];refine iteI (fun ai=>?_) fun aE=>?_
 rotate_left
 ·exact PAcc.finB (σb:=H) (by omega) (k1.trans aq) ha (aj.bI 0) fun a=>hk _ R ⟨true,a,rows,rfl,aj⟩ ⟨bE.1,RelSt.all ((show i=O.length by omega) ▸ bE)⟩ (by omega)
 have cn:i<C.length:=by rw[s.cl];exact ai
 obtain⟨w5,a5,rs,bB,dO⟩:=cvRow s hC ai;have dS:IntKind.i64.wrap ((i:Int)+1)=((i+1:Nat):Int):=by rw[wrap64 (by omega) (by omega)];omega
 simp only[Z3,seval,-ah,one,dS];refine qK (fun m us h'=>∃(k:Nat) (vL:PV) (R:List (List Int)) (rows:List PV),k<=O.length-1-i∧m=O.length-1-i-k∧us=[.ptr σ.next 0,vL,.int .i64 O.length,.int .i64 i,.int .i64 ((i+(1+k):Nat):Int)]∧Keep H h'∧PAcc H.next 1 h' vL R.length rows∧All2 FI rows R∧R.length<=6+6*i+k∧RelSt O P C R O.length i k) (O.length-1-i) ?_ ?_
 ·exact .here ⟨0,vL,R,rows,by omega,by omega,rfl,aq,ha,aj,by omega,bE⟩
 clear ha aj bE aq cA fQ one
 rintro m us h' ⟨k,vL,R,rows,bU,rfl,rfl,aq,ha,aj,fQ,bE⟩
 have one:=ha.one;have cA:=aq.next;have dH:h'.obj σ.next=some [.fz w0 a0 O.length (pis O),.fz w1 a1 P.length rP,.fz w3 a3 C.length rC]:=by rw[aq.obj _ (by omega)];exact ob
 simp only[Z3,seval,-ah,one];refine iteI (fun s4=>?_) fun A5=>?_
 rotate_left
 ·obtain rfl:k=O.length-1-i:=by omega
  simp only[Z3,seval,-ah,one,dS];exact⟨_,by omega,i+1,vL,R,rows,by omega,rfl,rfl,aq,ha,aj,by omega,bE.next⟩
 have sZ:k<O.length-1-i:=by omega
 obtain⟨w7,a7,cZ⟩:=dO k sZ;have bm:=s.cj i (i+(1+k)) (by omega) (by omega)
 have kY:conW C i k=[-((i:Int)+1),((i+k:Nat):Int)+2,(i:Int)+1]++winv (Mx.nw (cvec C i (i+(1+k)))):=rfl;generalize hc:cvec C i (i+(1+k))=c at *
 obtain⟨f1,f2,f3,f4⟩:=zGD s bm (by omega)
 have cK:=bm.len;have gV:RelSt O P C (R++[conW C i k]) O.length i (k+1):=by
  refine⟨fun r hr=>?_,fun j hj=>List.mem_append.2 (.inl (bE.2.1 j hj)),fun j q hj hq=>?_⟩
  ·rcases List.mem_append.1 hr with h|h
   ·exact bE.1 r h
   ·rw[List.mem_singleton.1 h];exact .inr ⟨i,k,by omega,rfl⟩
  ·by_cases e:j=i∧q=k
   ·obtain⟨rfl,rfl⟩:=e
    exact List.mem_append.2 (.inr (List.mem_singleton.2 rfl))
   ·exact List.mem_append.2 (.inl (bE.2.2 j q (by omega) hq))
 have y6:IntKind.i64.wrap (0-(i:Int))=-(i:Int):=by rw[wrap64 (by omega) (by omega)];omega
 have uX:IntKind.i64.wrap (-(i:Int)-1)=-((i:Int)+1):=by rw[wrap64 (by omega) (by omega)];omega
 have jo:IntKind.i64.wrap (((i+(1+k):Nat):Int)+1)=((i+k:Nat):Int)+2:=by rw[wrap64 (by omega) (by omega)];omega
 have uW:IntKind.i64.wrap ((i:Int)+1)=(i:Int)+1:=wrap64 (by omega) (by omega)
 have Ed:IntKind.i64.wrap (((i+(1+k):Nat):Int)-(i:Int))=((1+k:Nat):Int):=by rw[wrap64 (by omega) (by omega)];omega
 have uV:IntKind.i64.wrap (((1+k:Nat):Int)-1)=(k:Int):=by rw[wrap64 (by omega) (by omega)];omega
 have Ec:IntKind.i64.wrap (((i+(1+k):Nat):Int)+1)=((i+(1+(k+1)):Nat):Int):=by rw[wrap64 (by omega) (by omega)];omega
 have CZ:¬σ.next=h'.next:=by omega
 have e2:h'.rd1 σ.next 2=some (.fz w3 a3 C.length rC):=by rw[zF dH];rfl
 have x5:(k:Int)<((O.length-1-i:Nat):Int):=by omega
 simp only[Z3,seval,-ah,one,y6,uX,jo,uW,Ed,uV,e2,CZ,cn,bB,cZ,sZ,x5];refine zEJ ⟨w7,a7,by rw[cK]⟩ f1 f2 fun v2 bu=>?_
 simp only[Z3,seval,-ah,one,bu.one];refine zCM bu (by omega) f4 fun v3 fE=>?_
 obtain⟨w6,a6,rfl⟩:=fE;have fH:=Zy (w:=Mx.nw c);generalize dP:winv (Mx.nw c)=rest at *
 simp only[Z3,seval,-ah,one];refine PSl.cat (bytes:=8) (σb:=h') (n:=3) (cs:=pis [-((i:Int)+1),((i+k:Nat):Int)+2,(i:Int)+1]) (zD _ _) (PSl.new _ 1 rfl (vM _)) (by rw[zJ]) (by omega) (by omega) fun v4 h4 k4 a4=>?_
 obtain⟨s2,eL,rfl,eE,q2,q3,q4,q5⟩:=a4;rw[Zm,<-kY]at q2
 have kZ:(conW C i k).length=3+rest.length:=by rw[kY];simp;omega
 have k5:=aq.trans k4;have tY:=ha.keep k4;simp only[Z3,seval,-ah,one];refine PAcc.pushS (σb:=H) (bytes:=24) (news:=[.sl s2 0 (3+rest.length) eL]) k5 tY rfl (by omega) (by omega) fun v' h2 k6 pD o2 n2 l2=>?_
 have j7:=pD.one;simp only[Z3,seval,-ah,j7,Ec];have og:h2.obj s2=some (pis (conW C i k)):=by rw[o2 _ q5 (ha.ne q4)];exact q2
 refine⟨O.length-1-i-(k+1),by omega,.fzh s2 _ og (zK _ _) fun o3=>?_⟩
 obtain⟨f1,f2,f3⟩:=PSl.fzr hwf k6 pD (s:=s2) (cs:=pis (conW C i k)) (by omega) (n2 _ q5) o3
 rw[zA8 (aj.bI 0) eE.ok]at f2
 refine .here ⟨k+1,v',R++[conW C i k],_,by omega,rfl,?_,f1,by rw[List.length_append];exact f2.acc,aj.snoc ⟨true,.sl o3 0 (3+rest.length) eL,by rw[kZ]⟩,by simp;omega,gV⟩
 show sbs s2 o3 (pis (conW C i k)) [PV.ptr σ.next 0,v',.int .i64 O.length,.int .i64 i,.int .i64 ((i+(1+(k+1)):Nat):Int)]=_;simp only[sbs,sb,f3]
end Go.Proofs
namespace Go.Proofs
open Go.Ab Go.Lie Go.Grp
variable{σ h:PHeap}{K:PV->PHeap->Prop}{O O' x y w:List Int}{P P':List (List Int)}{C C':List (List (List Int))}{vO vP vC bV bQ bW vU vD vR v:PV}{u D R:List (List Int)}{sp:Nat}
def zB7(O:List Int)(P:List (List Int))(C:List (List (List Int)))(O':List Int)(P':List (List Int))(C':List (List (List Int)))(D:List (List Int)):Prop:=∀r,RelOK O P C r->isZ (evS O' P' C' D r)
theorem zC3(g:LG O P C)(hs:PtrG σ sp vO vP vC)(hR:IsPr vO vP vC O P C)(o5:FII vR R)(hr:∀r∈R,Lts D.length r∧r.length<=60)(fQ:R.length<=100)(hD:FII vD D)(m8:D.length<=100)(hg:∀y∈D,gS O y)
  (hk:∀t:Bool,(t=true↔∀r∈R,isZ (evS O P C D r))->K (.bool t) σ):zA Tryz.prog 137 [vR,.ptr sp 0,vD] σ K:=by
 have fl:∀{A:Prop},¬A->((false=true)↔A):=fun h=>⟨fun x=>(by cases x),fun x=>absurd x h⟩
 obtain⟨wR,aR,rR,rfl,lD⟩:=o5;obtain⟨wD,aD,rD,rfl,nU⟩:=hD;refine zB mix Tryz.func137 ?_;simp only[Z3,seval,-ah];refine zC (fun m vs h=>∃(i:Nat),i<=R.length∧m=R.length-i∧vs=[.ptr sp 0,.fz wD aD D.length rD,.fz wR aR R.length rR,.int .i64 R.length,.int .i64 i]∧h=σ∧∀r∈R.take i,isZ (evS O P C D r)) R.length ?_ ?_
 ·exact⟨0,Nat.zero_le _,rfl,rfl,rfl,fun r hr=>by simp at hr⟩
 rintro m vs h ⟨i,hi,rfl,rfl,rfl,aW⟩
 simp only[Z3,seval,-ah];refine iteI (fun ai=>?_) fun aE=>?_
 rotate_left
 ·rw[List.take_of_length_le (by omega)]at aW
  exact hk _ ⟨fun _=>aW,fun _=>rfl⟩
 have ak:(i:Int)<(R.length:Int):=by omega
 obtain⟨w5,a5,h5⟩:=lD.rowI ai;have mem:R[i]∈R:=List.getElem_mem ai;obtain⟨b1,b2⟩:=hr _ mem;simp only[Z3,seval,-ah,ai,ak,h5];refine zER g hs hR ⟨w5,a5,rfl⟩ b1 (by omega) nU m8 hg fun v5 f5=>?_
 have el:=(zAX g.s g.F hg b1).len;have pX:=g.s.le;obtain⟨w6,a6,rfl⟩:=f5;simp only[Z3,seval,-ah];refine zAs rfl (by omega) ?_
 by_cases hz:isZ (evS O P C D R[i])
 ·simp only[Z3,seval,-ah,hz,decide_true,wrapS ai (by omega:R.length<=4611686018427387904)]
  refine⟨_,by omega,i+1,by omega,rfl,rfl,?_⟩
  intro r ck;rw[List.take_succ_eq_append_getElem ai]at ck
  rcases List.mem_append.1 ck with h|h
  ·exact aW r h
  ·rw[List.mem_singleton.1 h];exact hz
 ·simp only[Z3,seval,-ah,hz,decide_false]
  exact hk _ (fl fun h=>hz (h _ mem))
theorem zBE(hp:zM O P C)(hR:IsPr vO vP vC O P C)(g:LG O' P' C')(bc:IsPr bV bQ bW O' P' C')(hD:FII vD D)(m8:D.length=O.length)(hg:∀y∈D,gS O' y)
  (hk:∀t:Bool,(t=true↔zB7 O P C O' P' C' D)->K (.bool t) σ):zA Tryz.prog 68 [.agg [vO,vP,vC],.agg [bV,bQ,bW],vD] σ K:=by
 have fl:∀{A:Prop},¬A->((false=true)↔A):=fun h=>⟨fun x=>(by cases x),fun x=>absurd x h⟩
 have g0:=hR.O.one;have g1:=hR.P.one;have g2:=hR.C.one;have q0:=bc.O.one;have q1:=bc.P.one;have q2:=bc.C.one;have dG:=hD.one;have s:=hp.shp;have h6:=s.le;refine zA.gh ?_;refine zB mix Tryz.func68 ?_;simp only[Z3,seval,-ah,g0,g1,g2,q0,q1,q2,dG];generalize hH:(σ.new [vO,vP,vC]).new [bV,bQ,bW]=H;have kH:Keep σ H:=by rw[<-hH];exact(zD _ _).new _
 have r1:H.rd σ.next 0 3=some [vO,vP,vC]:=by rw[<-hH];simp only[Z3,seval,-ah]
 have r2:H.rd (σ.next+1) 0 3=some [bV,bQ,bW]:=by rw[<-hH];simp only[Z3,seval,-ah]
 clear hH;simp only[Z3,seval,-ah,r1,g0,g1,g2,dG];refine zBF hp hR fun vR R lC ⟨bE,aj⟩ fQ=>?_
 obtain⟨wR,aR,rR,rfl,lD⟩:=lC;simp only[Z3,seval,-ah,dG];refine zC (fun m vs h=>∃(i:Nat),i<=R.length∧m=R.length-i∧vs=[vD,.ptr (σ.next+1) 0,.fz wR aR R.length rR,.int .i64 i]∧h=H∧∀r∈R.take i,isZ (evS O' P' C' D r)) R.length ?_ ?_
 ·exact⟨0,Nat.zero_le _,rfl,rfl,rfl,fun r hr=>by simp at hr⟩
 rintro m vs h ⟨i,hi,rfl,rfl,rfl,aW⟩
 simp only[Z3,seval,-ah,dG];refine iteI (fun ai=>?_) fun aE=>?_
 rotate_left
 ·rw[List.take_of_length_le (by omega)]at aW
  exact Gh.fin0 kH trivial (hk _ ⟨fun _=>fun r hr=>aW r (aj r hr),fun _=>rfl⟩)
 have ak:(i:Int)<(R.length:Int):=by omega
 obtain⟨w5,a5,h5⟩:=lD.rowI ai;have mem:R[i]∈R:=List.getElem_mem ai;obtain⟨b1,b2⟩:=(bE _ mem).facts s;rw[<-m8]at b1
 simp only[Z3,seval,-ah,dG,ai,ak,h5,r2,q0,q1,q2,zL,zN];refine zE6 g.s g.co bc ⟨w5,a5,rfl⟩ b1 (by omega) hD (by omega) hg fun v5 f5=>?_
 have el:=(zAX g.s g.F hg b1).len;have pX:=g.s.le;obtain⟨w6,a6,rfl⟩:=f5;simp only[Z3,seval,-ah,dG,zL,zN];refine zEK rfl (by omega) ?_
 by_cases hz:isZ (evS O' P' C' D R[i])
 ·simp only[Z3,seval,-ah,dG,hz,decide_true,wrapS ai (by omega:R.length<=4611686018427387904),zL,zN]
  refine⟨_,by omega,i+1,by omega,rfl,rfl,?_⟩
  intro r ck;rw[List.take_succ_eq_append_getElem ai]at ck
  rcases List.mem_append.1 ck with h|h
  ·exact aW r h
  ·rw[List.mem_singleton.1 h];exact hz
 ·simp only[Z3,seval,-ah,dG,hz,decide_false,zL,zN]
  exact Gh.fin0 kH trivial (hk _ (fl fun h=>hz (h _ (bE _ mem))))
def szU(O:List Int):List (List Int)->Int
 |[]=>1
 |v::u=>at_ O (dep v)*szU O u
theorem zAG(O:List Int)(v:List Int):∀u,szU O (u++[v])=szU O u*at_ O (dep v)
 |[]=>by simp[szU]
 |w::u=>by simp only[List.cons_append,szU];rw[zAG O v u,Int.mul_assoc]
theorem ZC(h:∀v∈u,1<=at_ O (dep v)∧at_ O (dep v)<=7):∀i,i<=u.length->1<=szU O (u.take i)∧szU O (u.take i)<=(7:Int) ^ i
 |0,_=>by simp[szU]
 |i+1,hi=>by
  obtain⟨h1,h2⟩:=ZC h i (by omega)
  obtain⟨h3,h4⟩:=h _ (List.getElem_mem (show i<u.length by omega))
  rw[List.take_succ_eq_append_getElem (by omega),zAG,Int.pow_succ]
  refine⟨?_,?_⟩
  ·have:=Int.mul_le_mul h1 h3 (by omega) (by omega)
   omega
  ·exact Int.mul_le_mul h2 h4 (by omega) (Int.pow_nonneg (by omega))
theorem pow7b:∀{i:Nat},i<=6->(7:Int) ^ i<=117649
 |0,_=>by decide
 |1,_=>by decide
 |2,_=>by decide
 |3,_=>by decide
 |4,_=>by decide
 |5,_=>by decide
 |6,_=>by decide
theorem qL{H:List Int->Prop}(s:Shp O P C)(hu:CanG O H u):(∀v∈u,1<=at_ O (dep v)∧at_ O (dep v)<=7)∧∀v∈u,v.length=O.length∧dep v<O.length:=
 ⟨fun v hv=>by have:=s.pr (dep v) (hu.one v hv).2.1;omega,fun v hv=>⟨(hu.one v hv).1.len,(hu.one v hv).2.1⟩⟩
theorem sizeOf_ok{H:List Int->Prop}(s:Shp O P C)(hs:PtrG σ sp vO vP vC)(hO:FI vO O)(hU:FII vU u)(hu:CanG O H u)(eU:u.length<=6)(hk:K (.int .i64 (szU O u)) σ):zA Tryz.prog 138 [.ptr sp 0,vU] σ K:=by
 have bJ:=s.le;obtain⟨b1,b2⟩:=qL s hu;obtain⟨w0,a0,rfl⟩:=hO;have e0:σ.rd1 sp 0=some (.fz w0 a0 O.length (pis O)):=by rw[zF hs.obj];rfl
 refine zB mix Tryz.func138 ?_;simp only[Z3,seval,-ah,hU.one];refine Qk hU (fun v hv=>by have:=b2 v hv;omega) (by omega) fun o=>?_
 simp only[Z3,seval,-ah];have dl:(deps u).length=u.length:=by simp[deps]
 refine zC (fun m vs h=>∃(i:Nat),i<=u.length∧m=u.length-i∧vs=[.ptr sp 0,.int .i64 (szU O (u.take i)),.fz true o u.length (pis (deps u)),.int .i64 u.length,.int .i64 i]∧h=σ) u.length ?_ ?_
 ·exact⟨0,Nat.zero_le _,rfl,rfl,rfl⟩
 rintro m vs h ⟨i,hi,rfl,rfl,rfl⟩
 simp only[Z3,seval,-ah];refine iteI (fun ai=>?_) fun aE=>?_
 rotate_left
 ·rw[List.take_of_length_le (by omega)]
  exact hk
 have ak:(i:Int)<(u.length:Int):=by omega
 have mem:=List.getElem_mem ai;have hd:=(b2 _ mem).2;have gC:((dep u[i]:Nat):Int)<(O.length:Int):=by omega
 have gd:(pis (deps u))[i]? = some (.int .i64 (dep u[i]:Nat)):=by
  rw[zG,gi (by rw[dl];exact ai)]
  simp[deps]
 have gO:(pis O)[dep u[i]]? = some (.int .i64 O[dep u[i]]):=by rw[zG,gi hd];rfl
 obtain⟨c1,c2⟩:=ZC b1 i hi;obtain⟨c3,c4⟩:=ZC b1 (i+1) ai;have p1:=pow7b (show i<=6 by omega)
 have p2:=pow7b (show i+1<=6 by omega)
 have es:szU O (u.take i)*O[dep u[i]]=szU O (u.take (i+1)):=by rw[List.take_succ_eq_append_getElem ai,zAG,at_eq hd]
 have wm:IntKind.i64.wrap (szU O (u.take (i+1)))=szU O (u.take (i+1)):=wrap64 (by omega) (by omega)
 simp only[Z3,seval,-ah,ai,ak,gd,e0,hd,gC,gO,es,wm,wrapS ai (by omega:u.length<=4611686018427387904)]
 exact⟨_,by omega,i+1,by omega,rfl,rfl⟩
theorem Qf{H:List Int->Prop}(s:Shp O P C)(hR:IsPr vO vP vC O P C)(hU:FII vU u)(hu:CanG O H u)(eU:u.length<=6)(hk:K (.int .i64 (szU O u)) σ):zA Tryz.prog 69 [.agg [vO,vP,vC],vU] σ K:=by
 have bJ:=s.le;have g0:=hR.O.one;have g1:=hR.P.one;have g2:=hR.C.one;obtain⟨b1,b2⟩:=qL s hu;obtain⟨⟨w0,a0,rfl⟩,_,_⟩:=hR;obtain⟨wU,aU,rU,rfl,sJ⟩:=hU;refine zA.gh ?_;refine zB mix Tryz.func69 ?_;simp only[Z3,seval,-ah,g0,g1,g2];generalize hH:σ.new [PV.fz w0 a0 O.length (pis O),vP,vC]=H';have kH:Keep σ H':=by rw[<-hH];exact zD _ _
 have e0:H'.rd1 σ.next 0=some (.fz w0 a0 O.length (pis O)):=by rw[<-hH];simp only[Z3,seval,-ah]
 clear hH;refine zC (fun m vs h=>∃(i:Nat),i<=u.length∧m=u.length-i∧vs=[.fz wU aU u.length rU,.ptr σ.next 0,.int .i64 (szU O (u.take i)),.int .i64 i]∧h=H') u.length ?_ ?_
 ·exact⟨0,Nat.zero_le _,rfl,rfl,rfl⟩
 rintro m vs h ⟨i,hi,rfl,rfl,rfl⟩
 simp only[Z3,seval,-ah];refine iteI (fun ai=>?_) fun aE=>?_
 rotate_left
 ·rw[List.take_of_length_le (by omega)]
  exact Gh.fin0 kH trivial hk
 have ak:(i:Int)<(u.length:Int):=by omega
 have mem:=List.getElem_mem ai;obtain⟨hl,hd⟩:=b2 _ mem;have gC:((dep u[i]:Nat):Int)<(O.length:Int):=by omega
 obtain⟨w5,a5,h5⟩:=sJ.rowI ai;have gO:(pis O)[dep u[i]]? = some (.int .i64 O[dep u[i]]):=by rw[zG,gi hd];rfl
 obtain⟨c1,c2⟩:=ZC b1 i hi;obtain⟨c3,c4⟩:=ZC b1 (i+1) ai;have p1:=pow7b (show i<=6 by omega)
 have p2:=pow7b (show i+1<=6 by omega)
 have es:szU O (u.take i)*O[dep u[i]]=szU O (u.take (i+1)):=by rw[List.take_succ_eq_append_getElem ai,zAG,at_eq hd]
 have wm:IntKind.i64.wrap (szU O (u.take (i+1)))=szU O (u.take (i+1)):=wrap64 (by omega) (by omega)
 simp only[Z3,seval,-ah,ai,ak,h5,e0,zL,zN];refine zAy rfl (by omega) ?_
 simp only[Z3,seval,-ah,ai,ak,e0,hd,gC,gO,es,wm,zL,zN,wrapS ai (by omega:u.length<=4611686018427387904)]
 exact⟨_,by omega,i+1,by omega,rfl,rfl⟩
end Go.Proofs
namespace Go.Proofs
open Go.Ab Go.Lie Go.Grp
variable{O x y z:List Int}{P:List (List Int)}{C:List (List (List Int))}{u w out:List (List Int)}{k t:Nat}
abbrev gpw(O:List Int)(P:List (List Int))(C:List (List (List Int)))(v:List Int)(k:Nat):List Int:=pw (gm O P C) (zv O) v k
def PrU(O:List Int)(P:List (List Int))(C:List (List (List Int))):List (List Int)->List Int->Prop
 |[],y=>y=zv O
 |v::u,y=>∃k:Nat,k<nx O (dep v)∧∃y',PrU O P C u y'∧y=gm O P C (gpw O P C v k) y'
def exR(O:List Int)(P:List (List Int))(C:List (List (List Int)))(x v:List Int)(k:Nat):List (List Int):=(List.range k).map fun t=>gm O P C x (gpw O P C v t)
def exN(O:List Int)(P:List (List Int))(C:List (List (List Int)))(out:List (List Int))(v:List Int):List (List Int):=out.flatMap fun x=>exR O P C x v (nx O (dep v))
def exA(O:List Int)(P:List (List Int))(C:List (List (List Int)))(out u:List (List Int)):List (List Int):=u.foldl (exN O P C) out
theorem zIB:(exR O P C x y k).length=k:=by simp[exR]
theorem zIC:(exN O P C out y).length=out.length*nx O (dep y):=by
 unfold exN
 induction out with
 |nil=>simp
 |cons z out ih=>rw[List.flatMap_cons,List.length_append,ih,zIB,List.length_cons,Nat.add_mul,Nat.one_mul,Nat.add_comm]
theorem zMr(h:∀v∈u,1<=at_ O (dep v)):((exA O P C out u).length:Int)=out.length*szU O u:=by
 induction u generalizing out with
 |nil=>simp[exA,szU]
 |cons v u ih=>
  have:=ih (out:=exN O P C out v) fun w hw=>h w (List.mem_cons_of_mem _ hw)
  show(((exA O P C (exN O P C out v) u).length:Nat):Int)=_
  rw[this,zIC,szU];have e:((nx O (dep v):Nat):Int)=at_ O (dep v):=Int.toNat_of_nonneg (by have:=h v (List.mem_cons_self ..);omega)
  rw[Int.natCast_mul,e,Int.mul_assoc]
section
variable(F:Full O P C O.length)
include F
theorem zNX(ho:∀x∈out,gS O x)(hv:gS O y):∀x∈exN O P C out y,gS O x:=fun x hx=>by
 obtain⟨z,hz,h1⟩:=List.mem_flatMap.1 hx;obtain⟨t,ht,rfl⟩:=List.mem_map.1 h1;exact F.g.cl (ho z hz) (F.g.pw hv t)
theorem PrU.inS:∀{u:List (List Int)} {y},(∀v∈u,gS O v)->PrU O P C u y->gS O y
 |[],_,_,h=>by rw[show _=zv O from h];exact F.g.one
 |v::u,y,hu,⟨k,_,y',h,e⟩=>by
  rw[e];exact F.g.cl (F.g.pw (hu v (List.mem_cons_self ..)) k) (PrU.inS (fun w hw=>hu w (List.mem_cons_of_mem _ hw)) h)
theorem zEr:∀{u out:List (List Int)},(∀x∈out,gS O x)->(∀v∈u,gS O v)->∀y,y∈exA O P C out u↔∃z∈out,∃y',PrU O P C u y'∧y=gm O P C z y'
 |[],out,ho,_,y=>by
  constructor
  ·intro h
   exact⟨y,h,zv O,rfl,(F.g.r1 (ho y h)).symm⟩
  ·rintro⟨z,hz,y',e,rfl⟩
   rw[show y'=zv O from e,F.g.r1 (ho z hz)];exact hz
 |v::u,out,ho,hu,y=>by
  have hv:=hu v (List.mem_cons_self ..);have xg:=fun w hw=>hu w (List.mem_cons_of_mem v hw)
  refine(zEr (zNX F ho hv) xg y).trans ⟨?_,?_⟩
  ·rintro⟨z,hz,y',h,rfl⟩
   obtain⟨x,hx,h1⟩:=List.mem_flatMap.1 hz;obtain⟨t,ht,rfl⟩:=List.mem_map.1 h1;exact⟨x,hx,_,⟨t,List.mem_range.1 ht,y',h,rfl⟩,F.g.as (ho x hx) (F.g.pw hv t) (PrU.inS F xg h)⟩
  ·rintro⟨x,hx,_,⟨t,ht,y',h,rfl⟩,rfl⟩
   exact⟨_,List.mem_flatMap.2 ⟨x,hx,List.mem_map.2 ⟨t,List.mem_range.2 ht,rfl⟩⟩,y',h,(F.g.as (ho x hx) (F.g.pw hv t) (PrU.inS F xg h)).symm⟩
theorem PrU.gc{H:List Int->Prop}(hH:gB O P C H):∀{u:List (List Int)} {y},(∀v∈u,H v)->PrU O P C u y->H y
 |[],_,_,h=>by rw[show _=zv O from h];exact hH.one
 |v::u,y,hu,⟨k,_,y',h,e⟩=>by
  rw[e];exact hH.cl (hH.pw (hu v (List.mem_cons_self ..)) k) (PrU.gc hH (fun w hw=>hu w (List.mem_cons_of_mem _ hw)) h)
end
theorem zBQ(g:LG O P C)(ht:t<O.length)(hx:TT O t x)(hv:TT O t y)(h1:at_ y t=1):∃z,gS O z∧TT O (t+1) z∧x=gm O P C (gpw O P C y (at_ x t).toNat) z∧z=gm O P C (ginv (gS O) (gm O P C) (zv O) (gpw O P C y (at_ x t).toNat)) x:=by
 have s:=g.s;have F:=g.F;have G:=F.g;have xS:gS O x:=hx.mono (Nat.zero_le _);have yS:gS O y:=hv.mono (Nat.zero_le _);obtain⟨p1,p2⟩:=Z9 s F g.cent ht hv (at_ x t).toNat;have bx:=hx.bd t ht;have pS:=G.pw yS (at_ x t).toNat;have iS:=(G.inv_in pS).1;refine⟨_,G.cl iS xS,?_,?_,rfl⟩;rotate_left
 ·rw[<-G.as pS iS xS,G.inv_r pS,G.l1 xS]
 have zT:TT O t (gm O P C (ginv (gS O) (gm O P C) (zv O) (gpw O P C y (at_ x t).toNat)) x):=tt_cl s F g.cent (by omega) (zFj s F g.cent (by omega) p1) hx
 have e:gm O P C (gpw O P C y (at_ x t).toNat) (gm O P C (ginv (gS O) (gm O P C) (zv O) (gpw O P C y (at_ x t).toNat)) x)=x:=by rw[<-G.as pS iS xS,G.inv_r pS,G.l1 xS]
 generalize gm O P C (ginv (gS O) (gm O P C) (zv O) (gpw O P C y (at_ x t).toNat)) x=z at *
 obtain⟨g1,g2⟩:=qV s (d:=O.length) (b:=gpw O P C y (at_ x t).toNat) (a:=z) (t:=t) (vM _) (by omega) ht (by rw[Nat.sub_self];exact pS) zT
 have e':mu O P C O.length (gpw O P C y (at_ x t).toNat) z=x:=e;rw[e',p2,h1,Int.mul_one,Int.toNat_of_nonneg bx.1,Int.emod_eq_of_lt bx.1 bx.2]at g2
 have z0:=zBl bx (zT.bd t ht) g2.symm;refine⟨zT.len,zT.bd,fun j hj=>?_⟩
 rcases Nat.lt_or_ge j t with h|h
 ·exact zT.zero j h
 ·obtain rfl:j=t:=by omega
  exact z0
theorem zMy(g:LG O P C)(hu:zR O P C u):∀(w pre:List (List Int)),u=pre++w->∀x,GC O P C u x->(∀v∈pre,dep v<dep x)->PrU O P C w x:=by
 have F:=g.F;have hS:=GC.sub F hu.1;intro w
 induction w with
 |nil=>
  intro pre e x hx hd;rcases Nat.lt_or_ge (dep x) O.length with h|h
  ·obtain⟨v,hv,ev⟩:=hu.2.all x hx h
   rw[e,List.append_nil]at hv
   have:=hd v hv
   omega
  ·exact Zx (hS.inS hx) h
 |cons v w ih=>
  intro pre e x hx hd;have xS:=hS.inS hx;have hv:v∈u:=by rw[e];simp
  obtain⟨v1,v2,v3⟩:=hu.2.one v hv;have asc:=hu.2.asc;rw[e]at asc
  obtain⟨_,a2,a3⟩:=List.pairwise_append.1 asc;rw[List.pairwise_cons]at a2
  have aE:dep v<=dep x:=by
   rcases Nat.lt_or_ge (dep x) O.length with h|h
   ·obtain⟨v',gk,ev⟩:=hu.2.all x hx h
    rw[e]at gk
    rcases List.mem_append.1 gk with h1|h1
    ·have:=hd v' h1;omega
    ·rcases List.mem_cons.1 h1 with rfl|h1
     ·omega
     ·have:=a2.1 v' h1;omega
   ·omega
  have xT:TT O (dep v) x:=⟨xS.len,xS.bd,fun j hj=>qW (by omega)⟩
  obtain⟨z,zS,zT,e1,e2⟩:=zBQ g v2 xT (ZM v1) v3;have hz:GC O P C u z:=by
   rw[e2];exact hS.cl (hS.inv (hS.pw (GC.mem hv) _)) hx
  have bx:=xT.bd _ v2;refine⟨(at_ x (dep v)).toNat,by show(at_ x (dep v)).toNat<(at_ O (dep v)).toNat;omega,z,ih (pre++[v]) (by rw[e];simp) z hz fun v' gk=>?_,e1⟩
  have:=Grp.dep_ge zT v2
  rcases List.mem_append.1 gk with h|h
  ·have:=a3 v' h v (List.mem_cons_self ..);omega
  ·rw[List.mem_singleton.1 h];omega
theorem zEs(g:LG O P C)(hu:zR O P C u):∀x,x∈exA O P C [zv O] u↔GC O P C u x:=fun x=>by
 have F:=g.F;have hS:=GC.sub F hu.1;refine(zEr F (out:=[zv O]) (fun x hx=>by rw[List.mem_singleton.1 hx];exact F.g.one) hu.1 x).trans ⟨?_,?_⟩
 ·rintro⟨z,hz,y,h,rfl⟩
  rw[List.mem_singleton.1 hz,F.g.l1 (PrU.inS F hu.1 h)];exact PrU.gc F hS (fun v hv=>GC.mem hv) h
 ·intro h
  exact⟨zv O,List.mem_singleton.2 rfl,x,zMy g hu u [] rfl x h (fun v hv=>by cases hv),(F.g.l1 (hS.inS h)).symm⟩
end Go.Proofs
namespace Go.Proofs
open Go.Ab Go.Lie Go.Grp
variable{σ h:PHeap}{K:PV->PHeap->Prop}{O x y z:List Int}{P:List (List Int)}{C:List (List (List Int))}{u w out Z:List (List Int)}{k t sp:Nat}{vO vP vC vU:PV}{cs dK:List PV}
def rowOf:PV->List Int
 | .fz _ _ _ cs=>cs.map fun c=>match c with | .int _ k=>k|_=>0
 |_=>[]
theorem zFr{v:PV}(h:FI v x):rowOf v=x:=by
 obtain⟨w,a,rfl⟩:=h;show List.map _ (List.map _ x)=x;rw[List.map_map];exact List.map_id' x
theorem zLz(h:All2 FI cs Z):Z=cs.map rowOf:=by
 refine List.ext_getElem? fun i=>?_
 rw[List.getElem?_map];rcases Nat.lt_or_ge i Z.length with hi|hi
 ·have hc:i<cs.length:=by rw[h.1];exact hi
  rw[vX hc,vX hi];exact congrArg some (zFr (h.2 i _ _ (vX hc) (vX hi))).symm
 ·rw[List.getElem?_eq_none hi,List.getElem?_eq_none (by rw[h.1];exact hi)];rfl
theorem zDi(h:All2 FI cs Z):∀c∈cs,FI c (rowOf c)∧rowOf c∈Z:=fun c hc=>by
 obtain⟨i,hi,rfl⟩:=List.mem_iff_getElem.1 hc;have hz:i<Z.length:=by rw[<-h.1];exact hi
 have:=h.2 i _ _ (vX hi) (vX hz)
 rw[zFr this];exact⟨this,List.getElem_mem hz⟩
theorem zKj(h:All2 FI cs Z)(p:dK.Perm cs):All2 FI dK (dK.map rowOf)∧(dK.map rowOf).Perm Z:=by
 refine⟨⟨by rw[List.length_map],fun i a b ha hb=>?_⟩,?_⟩
 ·rw[List.getElem?_map,ha]at hb
  cases hb;exact(zDi h a (p.mem_iff.1 (List.mem_of_getElem? ha))).1
 ·rw[zLz h];exact p.map _
theorem zKk(h:All2 FI cs Z)(hl:∀x∈Z,x.length<=1000):CellR cs:=fun c hc=>⟨_,(zDi h c hc).1,hl _ (zDi h c hc).2⟩
set_option maxHeartbeats 1600000 in
theorem zFY(g:LG O P C)(hs:PtrG σ sp vO vP vC)(hR:IsPr vO vP vC O P C)(hU:FII vU u)(hu:zR O P C u)(cG:szU O u<50)
  (hk:∀v Z,FII v Z->(∀x,x∈Z↔GC O P C u x)->Z.length<50->K v σ):zA Tryz.prog 203 [.ptr sp 0,vU] σ K:=by
 have s:=g.s;have F:=g.F;have bJ:=s.le;have eU:=hu.len;have ie:=hU;have aV:=hR;have lX:=hs;obtain⟨b1,b2⟩:=qL s hu.2;obtain⟨⟨wO,aO,rfl⟩,jH,jJ⟩:=hR;obtain⟨wl,al,rl,rfl,bK⟩:=hU;have dw:=hs.lt;have cH:σ.rd1 sp 0=some (.fz wO aO O.length (pis O)):=by unfold PHeap.rd1;rw[hs.obj];rfl
 refine zA.pwf fun w0=>zA.gh ?_
 refine zB mix Tryz.func203 ?_;simp only[Z3,seval,-ah,cH,mk8 (n:=O.length) (by omega),mkL (n:=O.length) (by omega),List.length_replicate,zZ]
 refine Qk ie (fun v hv=>by have:=b2 v hv;omega) (by omega) fun vp=>?_
 simp only[Z3,seval,-ah];have Es:(pis (List.replicate O.length 0))=pis (zv O):=rfl;refine qK (fun m vs h'=>∃(i n:Nat) (vo:PV) (cs:List PV),i<=u.length∧m=u.length-i∧vs=[.ptr sp 0,.fz wl al u.length rl,vo,.fz true vp u.length (pis (deps u)),.int .i64 u.length,.int .i64 i]∧Keep σ h'∧PSl σ.next 1 h' vo n cs∧n=(exA O P C [zv O] (u.take i)).length∧All2 FI cs (exA O P C [zv O] (u.take i))) u.length ?_ ?_
 ·refine .fzh σ.next (pis (List.replicate O.length 0)) (by simp only[Z3,seval,-ah]) (zK 0 _) fun o=>.here ⟨0,1,.sl (σ.next+1) 0 1 (.known 1),[.fz true (.sl o 0 O.length (.known O.length)) O.length (pis (List.replicate O.length 0))],by omega,by omega,?_,?_,?_,rfl,?_⟩
  ·simp only[Z3,seval,-ah]
   have n1:¬sp=σ.next:=by omega
   simp[sbs,sb,n1]
  ·exact Keep.sub w0 (Keep.kill ((zD σ _).new _) (by omega)) (by omega)
  ·refine⟨σ.next+1,.known 1,rfl,.inr rfl,?_,rfl,by omega,by show σ.next+1<σ.next+2;omega⟩
   have e4:((σ.new (pis (List.replicate O.length 0))).new [PV.sl σ.next 0 O.length (Cap.known O.length)]).obj (σ.next+1)=some [PV.sl σ.next 0 O.length (Cap.known O.length)]:=by simp only[Z3,seval,-ah]
   simp only[PHeap.sub,PHeap.kill,if_neg (show ¬σ.next+1=σ.next by omega)]
   rw[e4];simp[sbs,sb,capOK]
  ·refine @All2.snoc _ _ FI [] [] _ _ (All2.nil _) ⟨true,.sl o 0 O.length (.known O.length),?_⟩
   simp[zv]
 rintro m vs h0 ⟨i,n,vo,cs,hi,rfl,rfl,dh,ho,hn,dJ⟩
 have CL:h0.rd1 sp 0=some (.fz wO aO O.length (pis O)):=by unfold PHeap.rd1;rw[dh.obj _ dw,hs.obj];rfl
 have rW:∀w:List (List Int),(∀v∈w,v∈u)->((exA O P C [zv O] w).length:Int)=szU O w:=fun w hw=>by
  rw[zMr (fun v hv=>(b1 v (hw v hv)).1)];simp
 simp only[Z3,seval,-ah];refine iteI (fun ai=>?_) fun aE=>?_
 rotate_left
 ·obtain rfl:i=u.length:=by omega
  rw[List.take_length]at dJ hn
  obtain⟨so,cap,rfl,bZ,q2,q3,q4,q5⟩:=ho;have hlen:=rW u (fun v hv=>hv)
  have inS:∀x∈exA O P C [zv O] u,gS O x:=fun x hx=>(GC.sub F hu.1).inS ((zEs g hu x).1 hx)
  simp only[Z3,seval,-ah];refine zL1 q2 q5 (by omega) (by rw[dJ.1];omega) (zKk dJ fun x hx=>by have:=(inS x hx).len;omega) fun L' hp=>?_
  obtain⟨p1,p2⟩:=zKj dJ hp;have fF:=hp.length_eq;simp only[Z3,seval,-ah];refine Gh.finF (dh.set q4 L') (by rw[zg,if_pos rfl]) q4 (p1.bI 0) bZ.ok fun o=>?_
  refine hk _ (L'.map rowOf) ⟨true,.sl o 0 n cap,L',?_,p1⟩ (fun x=>(p2.mem_iff).trans (zEs g hu x)) (by rw[List.length_map];have:=dJ.1;omega)
  rw[List.length_map,fF,q3];simp
 have mem:=List.getElem_mem ai;obtain⟨fY,hd⟩:=b2 _ mem;have gd:(pis (deps u))[i]? = some (.int .i64 (dep u[i]:Nat)):=by
  rw[zG,gi (by simp[deps];exact ai)]
  simp[deps]
 have ak:(i:Int)<(u.length:Int):=by omega
 simp only[Z3,seval,-ah,ai,ak,gd,ho.acc.pLen];have up:∀{z:List Int},gS O z->TT O (O.length-O.length) z:=fun h=>by rw[Nat.sub_self];exact h
 have oY:∀x∈exA O P C [zv O] (u.take i),gS O x:=fun x hx=>by
  obtain⟨z,hz,y,h1,rfl⟩:=(zEr F (out:=[zv O]) (fun x hx=>by rw[List.mem_singleton.1 hx];exact F.g.one) (fun v hv=>hu.1 v (List.mem_of_mem_take hv)) x).1 hx
  rw[List.mem_singleton.1 hz];exact F.g.cl F.g.one (PrU.inS F (fun v hv=>hu.1 v (List.mem_of_mem_take hv)) h1)
 have EY:1<=n∧n<=117649:=by
  have e:=rW (u.take i) fun v hv=>List.mem_of_mem_take hv
  have bd:=ZC b1 i hi;have p7:=pow7b (show i<=6 by omega)
  omega
 have hnext:exA O P C [zv O] (u.take (i+1))=exN O P C (exA O P C [zv O] (u.take i)) u[i]:=by
  unfold exA;rw[List.take_succ_eq_append_getElem ai,List.foldl_append];rfl
 obtain⟨wv,av,xo⟩:=bK.rowI ai;have vS:=hu.1 _ mem;have bv:=b1 _ mem;generalize exA O P C [zv O] (u.take i)=Z0 at *
 generalize hv:u[i]=v at *
 have ek:at_ O (dep v)=((nx O (dep v):Nat):Int):=(Int.toNat_of_nonneg (by omega)).symm
 have gO:(pis O)[dep v]? = some (.int .i64 ((nx O (dep v):Nat):Int)):=by
  rw[zG,gi hd,<-ek,at_eq hd];rfl
 have EN:1<=nx O (dep v)∧nx O (dep v)<=7:=by omega
 have Dr:=inb hd;have eR:Z0.length=n:=hn.symm;refine zC (fun m vs h1=>∃(j mm:Nat) (vn:PV) (rows:List PV),j<=n∧m=n-j∧vs=[.ptr sp 0,.fz wl al u.length rl,.int .i64 i,.int .i64 (dep v:Nat),vn,.fz true vp u.length (pis (deps u)),.int .i64 u.length,.int .i64 i,vo,.int .i64 n,.int .i64 j]∧Keep h0 h1∧PAcc h0.next 1 h1 vn mm rows∧mm=(exN O P C (Z0.take j) v).length∧All2 FI rows (exN O P C (Z0.take j) v)) n ?_ ?_
 ·exact⟨0,0,_,[],by omega,by omega,rfl,Keep.refl _,PAcc.nil _ _ _,by simp[exN],by simpa [exN]using All2.nil _⟩
 rintro m vs h1 ⟨j,mm,vn,rows,hj,rfl,rfl,dI,jg,lG,dx⟩
 have sX:mm=j*nx O (dep v):=by rw[lG,zIC,List.length_take];congr 1;omega
 simp only[Z3,seval,-ah];refine iteI (fun Da=>?_) fun Da=>?_
 rotate_left
 ·obtain rfl:j=n:=by omega
  rw[List.take_of_length_le (by omega)]at dx lG
  simp only[Z3,seval,-ah,wrapS ai (by omega:u.length<=4611686018427387904)]
  have aF:0<mm:=by rw[sX];exact Nat.mul_pos (by omega) (by omega)
  refine⟨_,?_,.here ⟨i+1,mm,vn,rows,by omega,rfl,rfl,dh.trans dI,?_,by rw[hnext];exact lG,by rw[hnext];exact dx⟩⟩
  ·omega
  ·rcases(jg.low dh.next)with ⟨_,e,_⟩|a
   ·omega
   ·exact a
 have ye:(j:Int)<(n:Int):=by omega
 have yg:j<Z0.length:=by omega
 obtain⟨so,cap,rfl,bZ,q2,q3,q4,q5⟩:=ho;obtain⟨wx,ax,pR⟩:=dJ.rowI yg;have e1:h1.rd1 so j=some (.fz wx ax Z0[j].length (pis Z0[j])):=by rw[zF (by rw[dI.obj _ q5];exact q2)];exact pR
 have xx:h1.rd1 sp 0=some (.fz wO aO O.length (pis O)):=by unfold PHeap.rd1;rw[dI.obj _ (Nat.lt_of_lt_of_le dw dh.next),dh.obj _ dw,hs.obj];rfl
 have xS:=oY _ (List.getElem_mem yg);have sV:exN O P C (Z0.take (j+1)) v=exN O P C (Z0.take j) v++exR O P C Z0[j] v (nx O (dep v)):=by
  unfold exN;rw[List.take_succ_eq_append_getElem yg,List.flatMap_append];simp
 simp only[Z3,seval,-ah,ye,e1,xx,gO,Dr,hd];generalize eK:Z0[j]=x0 at *
 refine zC (fun m vs h2=>∃(t m2:Nat) (vn vx:PV) (gI:List PV),t<=nx O (dep v)∧m=nx O (dep v)-t∧vs=[.ptr sp 0,.fz wl al u.length rl,.int .i64 i,.int .i64 (dep v:Nat),vn,vx,.fz true vp u.length (pis (deps u)),.int .i64 u.length,.int .i64 i,.sl so 0 n cap,.int .i64 n,.int .i64 j,.int .i64 ((nx O (dep v):Nat):Int),.int .i64 t]∧Keep h0 h2∧PAcc h0.next 1 h2 vn m2 gI∧m2=mm+t∧FI vx (gm O P C x0 (gpw O P C v t))∧All2 FI gI (exN O P C (Z0.take j) v++exR O P C x0 v t)) (nx O (dep v)) ?_ ?_
 ·exact⟨0,mm,vn,_,rows,by omega,by omega,rfl,dI,jg,rfl,by rw[show gpw O P C v 0=zv O from rfl,F.g.r1 xS];exact⟨_,_,rfl⟩,by simpa [exR]using dx⟩
 rintro m vs h2 ⟨t,m2,BU,vx,gI,ht,rfl,rfl,dC,AU,jy,fx,kv⟩
 have D0:gS O (gm O P C x0 (gpw O P C v t)):=F.g.cl xS (F.g.pw vS t);simp only[Z3,seval,-ah];refine iteI (fun pN=>?_) fun pN=>?_
 rotate_left
 ·obtain rfl:t=nx O (dep v):=by omega
  simp only[Z3,seval,-ah,wrapS (show j<n by omega) (by omega:n<=4611686018427387904)]
  exact⟨_,by omega,j+1,m2,BU,gI,by omega,rfl,rfl,dC,AU,by rw[sV,List.length_append,zIB,<-lG];exact jy,by rw[sV];exact kv⟩
 have Bw:=fx;obtain⟨w5,a5,rfl⟩:=fx;have xh:m2<=1000000:=by
  have:mm<=117649*7:=by rw[sX];exact Nat.mul_le_mul (by omega) (by omega)
  omega
 simp only[Z3,seval,-ah];refine PAcc.push (bytes:=24) dC AU (by omega) (by omega) fun v' h3 k3 a3=>?_
 simp only[Z3,seval,-ah,ai,ak,xo];refine Qe s F (lX.keep (dh.trans k3)) aV (up D0) (up vS) Bw ⟨wv,av,rfl⟩ fun vy fy=>?_
 simp only[Z3,seval,-ah,wrapS pN (by omega:nx O (dep v)<=4611686018427387904)]
 refine⟨_,by omega,t+1,m2+1,v',vy,gI++[.fz w5 a5 (gm O P C x0 (gpw O P C v t)).length (pis (gm O P C x0 (gpw O P C v t)))],by omega,rfl,rfl,k3,a3.acc,by omega,?_,?_⟩
 ·have e:gm O P C x0 (gpw O P C v (t+1))=gm O P C (gm O P C x0 (gpw O P C v t)) v:=(F.g.as xS (F.g.pw vS t) vS).symm
  rw[e];exact fy
 ·have e:exR O P C x0 v (t+1)=exR O P C x0 v t++[gm O P C x0 (gpw O P C v t)]:=by
   unfold exR;rw[List.range_succ,List.map_append];rfl
  rw[e,<-List.append_assoc];exact kv.snoc Bw
end Go.Proofs
namespace Go.Proofs
open Go.Ab Go.Lie Go.Grp
variable{σ h:PHeap}{K:PV->PHeap->Prop}{O x:List Int}{P:List (List Int)}{C:List (List (List Int))}{u w Z A:List (List Int)}{k t sp:Nat}{vO vP vC vU vW:PV}{cs:List PV}
def TrivM(O:List Int)(P:List (List Int))(C:List (List (List Int)))(u w:List (List Int)):Prop:=∀x,GC O P C u x->GC O P C w x->x=zv O
theorem TrivM.comm:TrivM O P C u w↔TrivM O P C w u:=⟨fun h x a b=>h x b a,fun h x a b=>h x b a⟩
theorem zNW(F:Full O P C O.length):gB O P C fun x=>x=zv O:=
 ⟨fun e=>by rw[e];exact F.g.one,rfl,fun e e'=>by rw[e,e'];exact F.g.l1 F.g.one,fun e=>by rw[e];exact(F.g.inv_eq F.g.one F.g.one (F.g.l1 F.g.one)).symm⟩
theorem zGm(F:Full O P C O.length)(hA:∀x∈A,gS O x)(h:CanG O (GC O P C A) u):u.length=0↔∀x∈A,x=zv O:=by
 constructor
 ·intro e x hx
  rcases Nat.lt_or_ge (dep x) O.length with hd|hd
  ·obtain⟨v,hv,_⟩:=h.all x (GC.mem hx) hd
   rw[List.eq_nil_of_length_eq_zero e]at hv
   cases hv
  ·exact Zx (hA x hx) hd
 ·intro e
  cases u with
  |nil=>rfl
  |cons v u=>
   have h1:=h.mem v (List.mem_cons_self ..);have h2:v=zv O:=h1 _ (zNW F) e;have h3:=(h.one v (List.mem_cons_self ..)).2.2;rw[h2,show at_ (zv O) (dep (zv O))=0 from qz _ _]at h3
   omega
theorem zD2:∀i,i<=O.length->prodL (O.take i)=ordF O i
 |0,_=>by simp[prodL,ordF]
 |i+1,hi=>by
  have h:i<O.length:=by omega
  rw[Zl h,zD2 i (by omega),ordF,at_eq h]
theorem zM.ord(h:zM O P C):ordF O O.length<=729:=by
 have e:=zD2 (O:=O) O.length (vM _);rw[List.take_length]at e
 rw[<-e];exact h.2.2.2.2.1
theorem zE4{a b:Int}(ha:1<=a)(gf:a<=b)(h:a*b<=729):a<50:=by
 rcases Int.lt_or_le a 50 with h1|h1
 ·exact h1
 ·have:50*50<=a*b:=Int.mul_le_mul h1 (by omega) (by omega) (by omega)
  omega
set_option maxHeartbeats 1600000 in
theorem zMj(g:LG O P C)(hs:PtrG σ sp vO vP vC)(hR:IsPr vO vP vC O P C)(hU:FII vU u)(hu:zR O P C u)(hW:FII vW w)(hw:zR O P C w)(cG:szU O u*szU O w<=729)
  (hk:∀v L,FII v L->(L.length=0↔TrivM O P C u w)->K v σ):zA Tryz.prog 155 [.ptr sp 0,vU,vW] σ K:=by
 have s:=g.s;have F:=g.F;have bJ:=s.le;have eU:=hu.len;have fH:=hw.len;have aV:=hR;have hp:=zM.isp g.pr;have hO:=hR.O;obtain⟨pz,u5⟩:=qL s hu.2;obtain⟨py,u4⟩:=qL s hw.2;have pu:=ZC pz u.length (vM _);have mD:=ZC py w.length (vM _);rw[List.take_length]at pu mD
 refine zA.gh ?_;refine zB mix Tryz.func155 ?_;simp only[Z3,seval,-ah];refine sizeOf_ok s hs hO hU hu.2 (by omega) ?_
 simp only[Z3,seval,-ah];refine sizeOf_ok s hs hO hW hw.2 (by omega) ?_
 simp only[Z3,seval,-ah];refine iteI (fun ta=>?_) fun hle=>?_
 rotate_left
 focus
  have AK:=zE4 pu.1 (by omega) cG
  clear cG hle pu mD pz u5 py u4 eU fH;have fA:=hU;have sA:=hu;have fB:=hW;have sB:=hw;clear hU hu hW hw;generalize u=a at *
  generalize w=b at *
  generalize vU=va at *
  generalize vW=vb at *
 rotate_left
 focus
  have AK:=zE4 mD.1 (by omega) (Int.mul_comm (szU O w) (szU O u) ▸ cG)
  have hk:=fun v L f e=>hk v L f (Iff.trans e TrivM.comm)
  clear cG ta pu mD pz u5 py u4 eU fH;have fA:=hW;have sA:=hw;have fB:=hU;have sB:=hu;clear hU hu hW hw;generalize w=a at *
  generalize u=b at *
  generalize vW=va at *
  generalize vU=vb at *
 all_goals
  refine zBD s hs hR fun ss sb h1 k1 n1 n2 q1=>?_
  simp only[Z3,seval,-ah];refine zFY g (hs.keep k1) hR fA sA AK fun vZ Z fZ mZ lZ=>?_
  have Eb:=fZ;obtain⟨wz,az,rz,rfl,pQ⟩:=fZ;simp only[Z3,seval,-ah];refine zC (fun m vs h'=>∃(i:Nat) (rb':List PV) (D':List (Option (List Int))),i<=Z.length∧m=Z.length-i∧vs=[.ptr sp 0,vb,.ptr ss 0,.fz wz az Z.length rz,.int .i64 Z.length,.int .i64 i]∧Keep (h1.set sb rb') h'∧All2 (DRow O.length) rb' D'∧OkD O D'∧QI O P C D' []∧
   (∀N,gB O P C N->(InD N D'↔∀q∈Z.take i,GC O P C b q->N q))) Z.length ?_ ?_
  ·refine⟨0,_,_,by omega,by omega,rfl,Keep.self q1.bobj (Keep.refl _),⟨by simp,fun k c r hc hr=>?_⟩,OkD.start O.length rfl,QI.start _,fun N hN=>⟨fun _ q hq=>(by cases hq),fun _=>InD.start _⟩⟩
   rw[List.getElem?_replicate]at hc hr
   split at hc
   ·rename_i h
    rw[if_pos h]at hr
    cases hc;cases hr;exact .inl ⟨rfl,rfl⟩
   ·cases hc
  rintro m vs h' ⟨i,rb',D',hi,rfl,rfl,aq,dZ,ig,tH,lJ⟩
  simp only[Z3,seval,-ah];refine iteI (fun ai=>?_) fun aE=>?_
  rotate_left
  ·obtain rfl:i=Z.length:=by omega
   rw[List.take_length]at lJ
   refine zCX s F g.cent ((q1.setB rb').keep aq) hR ig dZ fun v L f1 cd=>?_
   simp only[Z3,seval,-ah];refine Gh.fin0 ((k1.set n2 rb').trans aq) (f1.bel _) (hk v L f1 ?_)
   classical
   have cg:=cd.can s F g.cent ig tH (L:=Z.filter fun q=>decide (GC O P C b q)) fun N hN=>(lJ N hN).trans ⟨fun h q hq=>by
    obtain⟨h1,h2⟩:=List.mem_filter.1 hq;exact h q h1 (of_decide_eq_true h2),fun h q h1 h2=>h q (List.mem_filter.2 ⟨h1,decide_eq_true h2⟩)⟩
   refine(zGm F (fun x hx=>(GC.sub F sA.1).inS ((mZ x).1 (List.mem_filter.1 hx).1)) cg).trans ⟨fun h x h1 h2=>h x (List.mem_filter.2 ⟨(mZ x).2 h1,decide_eq_true h2⟩),fun h x hx=>?_⟩
   obtain⟨h1,h2⟩:=List.mem_filter.1 hx;exact h x ((mZ x).1 h1) (of_decide_eq_true h2)
  obtain⟨wx,ax,pR⟩:=pQ.rowI ai;have ak:(i:Int)<(Z.length:Int):=by omega
  have mz:=List.getElem_mem ai;have xS:=(GC.sub F sA.1).inS ((mZ _).1 mz);have ko:PtrG h' sp vO vP vC:=(hs.keep ((k1.set n2 rb').trans aq));simp only[Z3,seval,-ah,ai,ak,pR];refine Qh g ko hR fB sB xS ⟨wx,ax,rfl⟩ fun t ht=>?_
  have tk:Z.take (i+1)=Z.take i++[Z[i]]:=List.take_succ_eq_append_getElem ai;cases t with
  |false=>
   have nt:¬GC O P C b Z[i]:=fun h=>by have:=ht.2 h;cases this
   simp only[Z3,seval,-ah,wrapS ai (by omega:Z.length<=4611686018427387904)]
   exact⟨_,by omega,i+1,rb',D',by omega,rfl,rfl,aq,dZ,ig,tH,fun N hN=>(lJ N hN).trans (by
    rw[tk];exact⟨fun h q hq hb=>(List.mem_append.1 hq).elim (fun h1=>h q h1 hb) (fun h1=>absurd (List.mem_singleton.1 h1 ▸ hb) nt),fun h q hq=>h q (List.mem_append_left _ hq)⟩)⟩
  |true=>
   have yt:GC O P C b Z[i]:=ht.1 rfl;simp only[Z3,seval,-ah];have B5:¬ss=h'.next:=by have:=aq.next;have:=q1.lt;have e:(h1.set sb rb').next=h1.next:=rfl;omega
   have jN:capOK (.known 1) 1=true:=rfl;refine zA.frz (s:=h'.next) (cs:=[PV.fz wx ax Z[i].length (pis Z[i])]) (by rw[zH,if_pos rfl]) ⟨trivial,trivial⟩ fun o=>?_
   simp only[sbs,Go.Ab.sb,jN,and_self,if_true,nm_eq,B5,if_false];have kH:Keep h' ((h'.new [PV.fz wx ax Z[i].length (pis Z[i])]).kill h'.next):=(zD _ _).kill (vM _);refine zKm (L:=[Z[i]]) s F g.cent hp ((q1.setB rb').keep (aq.trans kH)) hR ig dZ tH ⟨true,_,[PV.fz wx ax Z[i].length (pis Z[i])],rfl,@All2.snoc _ _ FI [] [] _ _ (All2.nil _) ⟨wx,ax,rfl⟩⟩ (fun x hx=>by rw[List.mem_singleton.1 hx];exact xS) (by simp) fun t2 Al D2 gl yT jK ld _ _=>?_
   simp only[Z3,seval,-ah,wrapS ai (by omega:Z.length<=4611686018427387904)]
   have kS:=(aq.trans kH).setB (s:=sb) Al;rw[zf]at kS
   exact⟨_,by omega,i+1,Al,D2,by omega,rfl,rfl,kS,gl,yT,jK,fun N hN=>(ld N hN).trans (by
    rw[lJ N hN,tk];exact⟨fun h q hq hb=>(List.mem_append.1 hq).elim (fun h1=>h.1 q h1 hb) (fun h1=>h.2 q h1),fun h=>⟨fun q hq=>h q (List.mem_append_left _ hq),fun q hq=>h q (List.mem_append_right _ hq) (List.mem_singleton.1 hq ▸ yt)⟩⟩)⟩
end Go.Proofs
namespace Go.Proofs
open Go.Ab Go.Lie Go.Grp
variable{σ:PHeap}{K:PV->PHeap->Prop}{O:List Int}{P:List (List Int)}{C:List (List (List Int))}{vO vP vC vU:PV}{u:List (List Int)}{x:List Int}{sp:Nat}
def NorG(O:List Int)(P:List (List Int))(C:List (List (List Int)))(u:List (List Int)):Prop:=∀g∈ZB O,∀x∈u,GC O P C u (gcnj O P C x g)
theorem zEz(s:Shp O P C):∀g∈ZB O,gS O g:=fun g hg=>by
 obtain⟨i,hi,rfl⟩:=List.mem_map.1 hg;exact s.unit (by simpa using hi) (Nat.zero_le _)
theorem zHj(g:LG O P C)(hs:PtrG σ sp vO vP vC)(hR:IsPr vO vP vC O P C)(hU:FII vU u)(hu:zR O P C u)(hk:∀t:Bool,(t=true↔NorG O P C u)->K (.bool t) σ):zA Tryz.prog 142 [.ptr sp 0,vU] σ K:=by
 have fl:∀{A:Prop},¬A->((false=true)↔A):=fun h=>⟨fun x=>(by cases x),fun x=>absurd x h⟩
 have up:∀{z:List Int},gS O z->TT O (O.length-O.length) z:=fun h=>by rw[Nat.sub_self];exact h
 have dn:∀{z:List Int},TT O (O.length-O.length) z->gS O z:=fun h=>by rw[Nat.sub_self]at h;exact h
 have s:=g.s;have F:=g.F;have bJ:=s.le;have eU:=hu.len;have yq:=zEz s;have qn:=hU;obtain⟨wu,au,ru,rfl,ks⟩:=hU;refine zB mix Tryz.func142 ?_;simp only[Z3,seval,-ah];refine zFU s hs hR fun vG hG=>?_
 have De:(ZB O).length=O.length:=by simp[ZB]
 unfold NorG at hk
 generalize ZB O=G at *
 obtain⟨wg,ag,rg,rfl,CJ⟩:=hG;simp only[Z3,seval,-ah];refine zC (fun m vs h=>∃i:Nat,i<=G.length∧m=G.length-i∧vs=[.ptr sp 0,.fz wu au u.length ru,.fz wg ag G.length rg,.int .i64 G.length,.int .i64 i]∧σ=h∧∀g∈G.take i,∀x∈u,GC O P C u (gcnj O P C x g)) G.length ⟨0,by omega,by omega,rfl,rfl,fun g hg=>by simp at hg⟩ ?_
 rintro m vs h ⟨i,hi,rfl,rfl,rfl,aj⟩
 simp only[Z3,seval,-ah];refine iteI (fun ai=>?_) fun aE=>?_
 rotate_left
 ·have bn:i=G.length:=by omega
  subst bn;rw[List.take_length]at aj
  exact hk _ ⟨fun _=>aj,fun _=>rfl⟩
 obtain⟨w4,a4,hr⟩:=CJ.rowI ai;have A6:=yq _ (List.getElem_mem ai);simp only[Z3,seval,-ah,ai,hr];refine zC (fun m vs h=>∃k:Nat,k<=u.length∧m=u.length-k∧vs=[.ptr sp 0,.fz wu au u.length ru,.fz w4 a4 G[i].length (pis G[i]),.fz wg ag G.length rg,.int .i64 G.length,.int .i64 i,.fz wu au u.length ru,.int .i64 u.length,.int .i64 k]∧σ=h∧∀x∈u.take k,GC O P C u (gcnj O P C x G[i])) u.length ⟨0,by omega,by omega,rfl,rfl,fun x hx=>by simp at hx⟩ ?_
 rintro m vs h ⟨k,dI,rfl,rfl,rfl,bw⟩
 simp only[Z3,seval,-ah];refine iteI (fun aI=>?_) fun aE=>?_
 rotate_left
 ·have eP:k=u.length:=by omega
  subst eP;rw[List.take_length]at bw
  simp only[Z3,seval,-ah,wrapS ai (by omega:G.length<=4611686018427387904)]
  refine⟨_,by omega,i+1,by omega,rfl,rfl,fun y hy=>?_⟩
  rw[List.take_succ_eq_append_getElem ai,List.mem_append,List.mem_singleton]at hy
  rcases hy with hy|rfl
  ·exact aj y hy
  ·exact bw
 obtain⟨w5,a5,nV⟩:=ks.rowI aI;have jR:=hu.1 _ (List.getElem_mem aI);simp only[Z3,seval,-ah,aI,nV];refine QO s F hs hR (up jR) (up A6) ⟨w5,a5,rfl⟩ ⟨w4,a4,rfl⟩ fun v1 z h1 h2 f1=>?_
 obtain rfl:z=gcnj O P C u[k] G[i]:=F.g.cnj_eq jR A6 (dn h1) h2;simp only[Z3,seval,-ah];refine Qh g hs hR qn hu (dn h1) f1 fun t ht=>?_
 cases t with
 |false=>
  simp only[Z3,seval,-ah];refine hk _ (fl fun h=>?_)
  have:=ht.2 (h _ (List.getElem_mem ai) _ (List.getElem_mem aI))
  cases this
 |true=>
 have e:=ht.1 rfl;simp only[Z3,seval,-ah,wrapS aI (by omega:u.length<=4611686018427387904)]
 refine⟨_,by omega,k+1,by omega,rfl,rfl,fun y hy=>?_⟩
 rw[List.take_succ_eq_append_getElem aI,List.mem_append,List.mem_singleton]at hy
 rcases hy with hy|rfl
 ·exact bw y hy
 ·exact e
end Go.Proofs
namespace Go.Proofs
open Go.Ab Go.Lie Go.Grp Go.Mx
variable{σ:PHeap}{K:PV->PHeap->Prop}{x y:List Int}{vv:PV}{O:List Int}{P:List (List Int)}{C:List (List (List Int))}{vO vP vC:PV}
open Classical in
theorem zBs(hR:IsPr vO vP vC O P C)(lx:O.length<=1048576)(bO:∀o∈O,isP o)(hy:FI vv y)(hb:y.length<=1048576)(hk:∀t:Bool,(t=true↔isExp O y)->K (.bool t) σ):zA Tryz.prog 62 [.agg [vO,vP,vC],vv] σ K:=by
 have h0:=hR.O.one;have h1:=hR.P.one;have h2:=hR.C.one;refine zA.gh ?_;refine zB mix Tryz.func62 ?_;simp only[Z3,seval,-ah,h0,h1,h2];refine ZU (t:=0) (by omega) (Nat.zero_le _) hR.O lx bO hy hb fun t ht=>?_
 simp only[Z3,seval,-ah];exact Gh.fin0 (zD σ _) trivial (hk _ (ht.trans ⟨fun h=>h.1,fun h=>⟨h,fun x hx=>by simp at hx⟩⟩))
end Go.Proofs
namespace Go.Proofs
open Go.Ab Go.Lie Go.Grp
variable{σ h:PHeap}{K:PV->PHeap->Prop}{O x y w:List Int}{P:List (List Int)}{C:List (List (List Int))}{vO vP vC vZ:PV}{L Z:List (List Int)}{sp:Nat}
def memP(O:List Int)(P:List (List Int))(C:List (List (List Int)))(Z:List (List Int)):Prop:=
 (zM O P C∧Cons O P C)∧∃x w L,Z=x::w::L∧L.length<=6∧isExp O x∧(∀y∈L,isExp O y)∧wOk L.length w∧evS O P C L w=x
theorem zCq(hs:PtrG σ sp vO vP vC)(hR:IsPr vO vP vC O P C)(sz:SzP O P C)(hZ:FII vZ Z)(c7:SzL Z)(hk:∀t:Bool,(t=true↔memP O P C Z)->K (.bool t) σ):zA Tryz.prog 80 [.ptr sp 0,vZ] σ K:=by
 have fl:∀{A:Prop},¬A->((false=true)↔A):=fun h=>⟨fun x=>(by cases x),fun x=>absurd x h⟩
 obtain⟨wZ,aZ,rZ,rfl,gT⟩:=hZ;refine zA.gh ?_;refine zB mix Tryz.func80 ?_
 by_cases c2:(Z.length:Int)<2
 ·simp only[Z3,seval,-ah,c2]
  exact Gh.fin0 (Keep.refl σ) trivial (hk _ (fl fun⟨_,x,w,L,e,_⟩=>by rw[e]at c2;simp only[List.length_cons]at c2;omega))
 by_cases c8:(8:Int)<(Z.length:Int)
 ·simp only[Z3,seval,-ah,c2,c8]
  exact Gh.fin0 (Keep.refl σ) trivial (hk _ (fl fun⟨_,x,w,L,e,h6,_⟩=>by rw[e]at c8;simp only[List.length_cons]at c8;omega))
 obtain⟨x,w,L,rfl⟩:∃x w L,Z=x::w::L:=by
  match Z,c2 with
  |[],h=>simp at h
  |[_],h=>simp at h
  |x::w::L,_=>exact⟨x,w,L,rfl⟩
 have eR:(x::w::L).length=L.length+2:=rfl;have o7:L.length<=6:=by rw[eR]at c8;omega
 obtain⟨r0,r1,rL,rfl⟩:∃r0 r1 rL,rZ=r0::r1::rL:=by
  have:=gT.1
  match rZ,this with
  |[],h=>simp at h
  |[_],h=>simp at h
  |r0::r1::rL,_=>exact⟨r0,r1,rL,rfl⟩
 obtain⟨h0,dP⟩:=All2.tl gT;obtain⟨h1,qt⟩:=All2.tl dP;have hL:All2 FI rL L:=qt;have c9:=h0.one;have jq:=h1.one;have c0:r0.cells=[r0]:=by obtain⟨w5,a5,rfl⟩:=h0;rfl
 have yP:Bels 0 rL:=hL.bI 0;have bK:rL.length=L.length:=hL.1;have nh:=c7.2 x (by simp)
 have ni:=c7.2 w (by simp)
 rw[eR]at c2 c8 ⊢
 have d2:¬(((L.length+2:Nat):Int)<2):=c2;have d8:¬(8<((L.length+2:Nat):Int)):=c8;have z0:(0:Int)<((L.length+2:Nat):Int):=by omega
 have z1:(1:Int)<((L.length+2:Nat):Int):=by omega
 have z2:(2:Int)<=((L.length+2:Nat):Int):=by omega
 have u7:2<=L.length+2:=by omega
 have e2:L.length+2-2=L.length:=by omega
 have e3:List.take L.length rL=rL:=List.take_of_length_le (by omega)
 simp only[Z3,seval,-ah,d2,d8,z0,z1,z2,u7,e2,e3,c9,jq,List.drop_succ_cons,List.drop_zero];refine zDn bK yP (by omega) fun v1 jn k1 q1=>?_
 simp only[Z3,seval,-ah,c9,c0];refine PQ.push (bytes:=24) (σb:=σ) k1 q1 (by omega) (by omega) fun v2 h2 k2 q2=>?_
 obtain⟨qa,qb,qc⟩|⟨s2,off,cap,row,rfl,f2,v7,vj,Co,b2,l2⟩:=q2
 ·omega
 have pP:PtrG h2 sp vO vP vC:=hs.keep k2;simp only[Z3,seval,-ah];have yN:All2 FI (rL++[r0]) (L++[x]):=hL.snoc h0;have kF:(L++[x]).length=L.length+1:=by simp
 have nE:SzL (L++[x]):=⟨by rw[kF];omega,fun y hy=>by
  rcases List.mem_append.1 hy with hy|hy
  ·exact c7.2 y (by simp[hy])
  ·rw[List.mem_singleton.1 hy];exact nh⟩
 have ae:∀{K':PV->PHeap->Prop},(∀t:Bool,(t=true↔(zM O P C∧Cons O P C)∧∀y∈L++[x],isExp O y)->K' (.bool t) h2)->zA Tryz.prog 130 [.ptr sp 0,.sl s2 off (L.length+1) cap] h2 K':=fun {K'} bU=>by
  have:=zBv (σ:=h2) (K:=K') (xs:=L++[x]) (cap:=cap) v7 (by rw[kF];exact vj) yN pP hR sz nE fun t ht=>bU t ht
  rw[kF]at this;exact this
 have inv:memP O P C (x::w::L)->(zM O P C∧Cons O P C)∧isExp O x∧(∀y∈L,isExp O y)∧wOk L.length w∧evS O P C L w=x:=fun⟨g,x',w',L',e,_,a,b,c,d⟩=>by
  simp only[List.cons.injEq]at e
  obtain⟨rfl,rfl,rfl⟩:=e;exact⟨g,a,b,c,d⟩
 refine ae fun t ht=>?_
 cases t with
 |false=>
  simp only[Z3,seval,-ah];exact Gh.fin0 k2 trivial (hk _ (fl fun h=>by
   obtain⟨g,a,b,_⟩:=inv h
   have:false=true:=ht.2 ⟨g,fun y hy=>by
    rcases List.mem_append.1 hy with hy|hy
    ·exact b y hy
    ·rw[List.mem_singleton.1 hy];exact a⟩
   cases this))
 |true=>
 obtain⟨gp,hex⟩:=ht.1 rfl;have g:LG O P C:=⟨gp.1,gp.2⟩;have hx:gS O x:=(hex x (by simp)).gS
 have hg:∀y∈L,gS O y:=fun y hy=>(hex y (by simp[hy])).gS
 simp only[Z3,seval,-ah];refine zFf h1 (by omega) ni fun t hw=>?_
 cases t with
 |false=>
  simp only[Z3,seval,-ah];exact Gh.fin0 k2 trivial (hk _ (fl fun h=>by
   obtain⟨_,_,_,c,_⟩:=inv h
   have:=hw.2 c
   cases this))
 |true=>
 have lN:=hw.1 rfl;simp only[Z3,seval,-ah,jq];refine zER g pP hR h1 lN.1 (by have:=lN.2;omega) hL (by omega) hg fun v5 f5=>?_
 obtain⟨w0,a0,rfl⟩:=h0;obtain⟨w5,a5,rfl⟩:=f5;simp only[Z3,seval,-ah];have el:=(zAX g.s g.F hg lN.1).len;have pX:=g.s.le;refine Qc rfl rfl (by omega) ?_
 simp only[Z3,seval,-ah];refine Gh.fin0 k2 trivial (hk _ ?_);rw[decide_eq_true_iff];exact⟨fun h=>⟨gp,x,w,L,rfl,o7,hex x (by simp),fun y hy=>hex y (by simp[hy]),lN,h⟩,fun h=>(inv h).2.2.2.2⟩
theorem zFP(hR:IsPr vO vP vC O P C)(sz:SzP O P C)(hZ:FII vZ Z)(c7:SzL Z)(hk:∀t:Bool,(t=true↔memP O P C Z)->K (.bool t) σ):zA Tryz.prog 26 [.agg [vO,vP,vC],vZ] σ K:=by
 have fl:∀{A:Prop},¬A->((false=true)↔A):=fun h=>⟨fun x=>(by cases x),fun x=>absurd x h⟩
 have g0:=hR.O.one;have g1:=hR.P.one;have g2:=hR.C.one;obtain⟨wZ,aZ,rZ,rfl,gT⟩:=hZ;have yG:=c7.l;refine zA.gh ?_;refine qB mix Tryz.func26 ?_;simp only[Z3,seval,-ah,g0,g1,g2];generalize hH:σ.new [vO,vP,vC]=H;have kH:Keep σ H:=by rw[<-hH];exact zD _ _
 have r3:H.rd σ.next 0 3=some [vO,vP,vC]:=by rw[<-hH];simp only[Z3,seval,-ah]
 clear hH;simp only[Z3,seval,-ah,r3,g0,g1,g2];refine q9 hR sz fun t ht=>?_
 cases t with
 |false=>
  simp only[Z3,seval,-ah];exact Gh.fin0 kH trivial (hk _ (fl fun h=>by have:=ht.2 h.1;cases this))
 |true=>
 have gp:=ht.1 rfl;have g:LG O P C:=⟨gp.1,gp.2⟩
 by_cases c2:(Z.length:Int)<2
 ·simp only[Z3,seval,-ah,c2]
  exact Gh.fin0 kH trivial (hk _ (fl fun⟨_,x,w,L,e,_⟩=>by rw[e]at c2;simp only[List.length_cons]at c2;omega))
 have w8:IntKind.i64.wrap ((Z.length:Int)-2)=(Z.length:Int)-2:=wrap64 (by omega) (by omega)
 by_cases c8:(6:Int)<(Z.length:Int)-2
 ·simp only[Z3,seval,-ah,c2,c8,w8]
  exact Gh.fin0 kH trivial (hk _ (fl fun⟨_,x,w,L,e,h6,_⟩=>by rw[e]at c8;simp only[List.length_cons]at c8;omega))
 obtain⟨x,w,L,rfl⟩:∃x w L,Z=x::w::L:=by
  match Z,c2 with
  |[],h=>simp at h
  |[_],h=>simp at h
  |x::w::L,_=>exact⟨x,w,L,rfl⟩
 have eR:(x::w::L).length=L.length+2:=rfl;rw[eR]at c2 c8 w8 yG ⊢
 have o7:L.length<=6:=by omega
 obtain⟨r0,r1,rL,rfl⟩:∃r0 r1 rL,rZ=r0::r1::rL:=by
  have:=gT.1
  match rZ,this with
  |[],h=>simp at h
  |[_],h=>simp at h
  |r0::r1::rL,_=>exact⟨r0,r1,rL,rfl⟩
 obtain⟨h0,dP⟩:=All2.tl gT;obtain⟨h1,qt⟩:=All2.tl dP;have hL:All2 FI rL L:=qt;have c9:=h0.one;have jq:=h1.one;have bK:rL.length=L.length:=hL.1;have nh:=c7.2 x (by simp)
 have ni:=c7.2 w (by simp)
 have z0:(0:Int)<((L.length+2:Nat):Int):=by omega
 have z1:(1:Int)<((L.length+2:Nat):Int):=by omega
 have z2:(2:Int)<=((L.length+2:Nat):Int):=by omega
 have u7:2<=L.length+2:=by omega
 have e2:L.length+2-2=L.length:=by omega
 have e3:List.take L.length rL=rL:=List.take_of_length_le (by omega)
 have inv:memP O P C (x::w::L)->(zM O P C∧Cons O P C)∧isExp O x∧(∀y∈L,isExp O y)∧wOk L.length w∧evS O P C L w=x:=fun⟨g,x',w',L',e,_,a,b,c,d⟩=>by
  simp only[List.cons.injEq]at e
  obtain⟨rfl,rfl,rfl⟩:=e;exact⟨g,a,b,c,d⟩
 have bO:∀o∈O,isP o:=zM.isp gp.1
 have pX:=g.s.le;have bF:SzL L:=⟨by omega,fun y hy=>c7.2 y (by simp[hy])⟩
 simp only[Z3,seval,-ah,c2,c8,w8,z0,z1,z2,u7,e2,e3,c9,jq,r3,List.drop_succ_cons,List.drop_zero];refine zBs hR (by omega) bO h0 nh fun t hx=>?_
 cases t with
 |false=>
  simp only[Z3,seval,-ah];exact Gh.fin0 kH trivial (hk _ (fl fun h=>by have:=hx.2 (inv h).2.1;cases this))
 |true=>
 have hex:=hx.1 rfl;simp only[Z3,seval,-ah,r3];refine Zn hR (by omega) bO ⟨_,_,_,rfl,hL⟩ bF fun t hy=>?_
 cases t with
 |false=>
  simp only[Z3,seval,-ah];exact Gh.fin0 kH trivial (hk _ (fl fun h=>by have:=hy.2 (inv h).2.2.1;cases this))
 |true=>
 have tw:=hy.1 rfl;have hg:∀y∈L,gS O y:=fun y h=>(tw y h).gS
 simp only[Z3,seval,-ah,jq,z1];refine zHh h1 (by omega) ni fun t hw=>?_
 cases t with
 |false=>
  simp only[Z3,seval,-ah];exact Gh.fin0 kH trivial (hk _ (fl fun h=>by have:=hw.2 (inv h).2.2.2.1;cases this))
 |true=>
 have lN:=hw.1 rfl;simp only[Z3,seval,-ah,r3,c9,jq,z0,z1];refine zE6 g.s gp.2 hR h1 lN.1 (by have:=lN.2;omega) ⟨_,_,_,rfl,hL⟩ (by omega) hg fun v5 f5=>?_
 obtain⟨w0,a0,rfl⟩:=h0;obtain⟨w5,a5,rfl⟩:=f5;have el:=(zAX g.s g.F hg lN.1).len;simp only[Z3,seval,-ah,z0];refine qw rfl rfl (by omega) ?_
 simp only[Z3,seval,-ah];refine Gh.fin0 kH trivial (hk _ ?_);rw[decide_eq_true_iff];exact⟨fun h=>⟨gp,x,w,L,rfl,o7,hex,tw,lN,h⟩,fun h=>(inv h).2.2.2.2⟩
end Go.Proofs
namespace Go.Proofs
open Go.Ab Go.Lie Go.Grp
variable{σ h:PHeap}{K:PV->PHeap->Prop}{O x y w:List Int}{P:List (List Int)}{C:List (List (List Int))}{vO vP vC vL vU vZ:PV}{L u Z:List (List Int)}{sp:Nat}
def outP(O:List Int)(P:List (List Int))(C:List (List (List Int)))(Z:List (List Int)):Prop:=
 (zM O P C∧Cons O P C)∧∃x L u,Z=x::[(L.length:Int)]::(L++u)∧L.length<=6∧isExp O x∧(∀y∈L,isExp O y)∧zR O P C u∧(∀y∈L,GC O P C u y)∧¬GC O P C u x
theorem zBa{m:Int}{l1:List Int}{T:List (List Int)}(h:outP O P C (x::l1::T)):∃L u,l1=[(L.length:Int)]∧T=L++u∧L.length<=6:=by
 obtain⟨_,x',L,u,e,h6,_⟩:=h;simp only[List.cons.injEq]at e
 exact⟨L,u,e.2.1,e.2.2,h6⟩
theorem qd(h:outP O P C (x::[(L.length:Int)]::(L++u))):(zM O P C∧Cons O P C)∧isExp O x∧(∀y∈L,isExp O y)∧zR O P C u∧(∀y∈L,GC O P C u y)∧¬GC O P C u x:=by
 obtain⟨g,x',L',u',e,h6,a,b,c,d,f⟩:=h;simp only[List.cons.injEq,and_true]at e
 obtain⟨rfl,e1,e2⟩:=e;have hl:L.length=L'.length:=by omega
 obtain⟨rfl,rfl⟩:=List.append_inj e2 hl;exact⟨g,a,b,c,d,f⟩
theorem zCO(hs:PtrG σ sp vO vP vC)(hR:IsPr vO vP vC O P C)(sz:SzP O P C)(hZ:FII vZ Z)(c7:SzL Z)(hk:∀t:Bool,(t=true↔outP O P C Z)->K (.bool t) σ):zA Tryz.prog 81 [.ptr sp 0,vZ] σ K:=by
 have fl:∀{A:Prop},¬A->((false=true)↔A):=fun h=>⟨fun x=>(by cases x),fun x=>absurd x h⟩
 have lI:=c7.l;obtain⟨wZ,aZ,rZ,rfl,gT⟩:=hZ;refine zA.gh ?_;refine zB mix Tryz.func81 ?_
 by_cases c2:(Z.length:Int)<2
 ·simp only[Z3,seval,-ah,c2]
  exact Gh.fin0 (Keep.refl σ) trivial (hk _ (fl fun⟨_,x,L,u,e,_⟩=>by rw[e]at c2;simp only[List.length_cons]at c2;omega))
 obtain⟨x,l1,T,rfl⟩:∃x w L,Z=x::w::L:=by
  match Z,c2 with
  |[],h=>simp at h
  |[_],h=>simp at h
  |x::w::L,_=>exact⟨x,w,L,rfl⟩
 have eR:(x::l1::T).length=T.length+2:=rfl;obtain⟨r0,r1,rT,rfl⟩:∃r0 r1 rL,rZ=r0::r1::rL:=by
  have:=gT.1
  match rZ,this with
  |[],h=>simp at h
  |[_],h=>simp at h
  |r0::r1::rL,_=>exact⟨r0,r1,rL,rfl⟩
 obtain⟨h0,dP⟩:=All2.tl gT;obtain⟨h1,oZ⟩:=All2.tl dP;have hT:All2 FI rT T:=oZ;have c9:=h0.one;have c0:r0.cells=[r0]:=by obtain⟨w5,a5,rfl⟩:=h0;rfl
 obtain⟨w1,a1,rfl⟩:=h1;rw[eR]at c2 lI ⊢
 obtain⟨N,hN⟩:∃N,N=T.length+2:=⟨_,rfl⟩
 have d2:¬((N:Int)<2):=by omega
 have z0:(0:Int)<(N:Int):=by omega
 have z1:(1:Int)<(N:Int):=by omega
 have m2:IntKind.i64.wrap ((N:Int)-2)=(N:Int)-2:=wrap64 (by omega) (by omega)
 rw[<-hN]
 by_cases c1:l1.length=1
 rotate_left
 ·have eT:¬((l1.length:Int)=1):=by omega
  simp only[Z3,seval,-ah,d2,z0,z1,c9,eT];exact Gh.fin0 (Keep.refl σ) trivial (hk _ (fl fun h=>by obtain⟨L,u,e,_⟩:=zBa (m:=0) h;rw[e]at c1;exact c1 rfl))
 obtain⟨m,rfl⟩:∃m,l1=[m]:=by
  match l1,c1 with
  |[m],_=>exact⟨m,rfl⟩
 have g1:(pis [m])[0]? = some (.int .i64 m):=rfl;have eT:(((1:Nat):Int)=1)=True:=by simp
 have jQ:(0:Int)<((1:Nat):Int):=by decide
 have ol:[m].length=1:=rfl;rw[ol];simp only[Z3,seval,-ah,d2,z0,z1,c9,m2,g1,eT,jQ];refine qx ?_
 by_cases aW:0<=m∧m<=min 6 ((N:Int)-2)
 rotate_left
 ·simp only[Z3,seval,-ah,aW,decide_false]
  exact Gh.fin0 (Keep.refl σ) trivial (hk _ (fl fun h=>by
   obtain⟨L,u,e,e2,h6⟩:=zBa (m:=0) h;simp only[List.cons.injEq,and_true]at e
   have:=congrArg List.length e2
   rw[List.length_append]at this
   omega))
 obtain⟨L,u,rfl,rfl⟩:∃L u,m=((L.length:Nat):Int)∧T=L++u:=⟨T.take m.toNat,T.drop m.toNat,by rw[List.length_take];omega,(List.take_append_drop _ _).symm⟩
 have ld:N=L.length+u.length+2:=by rw[hN,List.length_append]
 have o7:L.length<=6:=by omega
 have hL:All2 FI (rT.take L.length) L:=by have:=hT.take L.length;rwa[List.take_left]at this
 have hU:All2 FI (rT.drop L.length) u:=by have:=hT.drop L.length;rwa[List.drop_left]at this
 have yP:Bels 0 (rT.take L.length):=hL.bI 0;have bK:(rT.take L.length).length=L.length:=hL.1;have w2:IntKind.i64.wrap (2+(L.length:Int))=((2+L.length:Nat):Int):=by rw[wrap64 (by omega) (by omega)];omega
 have b1:((2+L.length:Nat):Int)<=(N:Int):=by omega
 have pB:2+L.length<=N:=by omega
 have b2:(2:Int)<=((2+L.length:Nat):Int):=by omega
 have pA:2<=2+L.length:=by omega
 have b3:2+L.length-2=L.length:=by omega
 have b4:N-(2+L.length)=u.length:=by omega
 have b5:(2:Int)<=(N:Int):=by omega
 have b6:List.drop (2+L.length) (r0::PV.fz w1 a1 1 (pis [(L.length:Int)])::rT)=rT.drop L.length:=by rw[Nat.add_comm];rfl
 have b7:List.take u.length (rT.drop L.length)=rT.drop L.length:=List.take_of_length_le (by rw[hU.1];exact vM _)
 simp only[Z3,seval,-ah,aW,d2,z0,z1,c9,m2,g1,eT,jQ,w2,b1,pB,b2,pA,b3,b4,b5,b6,b7,List.drop_succ_cons,List.drop_zero];generalize pM:PV.fz false (pslA 1 aZ 2 (2+L.length)) L.length (List.take L.length rT)=vL;generalize mJ:PV.fz false (pslA 1 aZ (2+L.length) N) u.length (List.drop L.length rT)=vU;have fU:FII vU u:=by rw[<-mJ];exact⟨false,_,_,rfl,hU⟩
 have fL:FII vL L:=by rw[<-pM];exact⟨false,_,_,rfl,hL⟩
 have bN:=fU.one;have dL:=fL.one;have cU:vU.cells=[vU]:=by rw[<-mJ];rfl
 have gg:SzL u:=⟨by omega,fun y hy=>c7.2 y (by simp[hy])⟩
 have nh:=c7.2 x (by simp)
 rw[<-pM];refine zDn bK yP (by omega) fun v1 jn k1 q1=>?_
 rw[pM];simp only[Z3,seval,-ah,c9,c0,bN,dL];refine PQ.push (bytes:=24) (σb:=σ) k1 q1 (by omega) (by omega) fun v2 h2 k2 q2=>?_
 obtain⟨qa,qb,qc⟩|⟨s2,off,cap,row,rfl,f2,v7,vj,Co,Fe,l2⟩:=q2
 ·omega
 have pP:PtrG h2 sp vO vP vC:=hs.keep k2;have yN:All2 FI (rT.take L.length++[r0]) (L++[x]):=hL.snoc h0;have kF:(L++[x]).length=L.length+1:=by simp
 have nE:SzL (L++[x]):=⟨by rw[kF];omega,fun y hy=>by
  rcases List.mem_append.1 hy with hy|hy
  ·exact c7.2 y (by simp[hy])
  ·rw[List.mem_singleton.1 hy];exact nh⟩
 have ae:∀{K':PV->PHeap->Prop},(∀t:Bool,(t=true↔(zM O P C∧Cons O P C)∧∀y∈L++[x],isExp O y)->K' (.bool t) h2)->zA Tryz.prog 130 [.ptr sp 0,.sl s2 off (L.length+1) cap] h2 K':=fun {K'} bU=>by
  have:=zBv (σ:=h2) (K:=K') (xs:=L++[x]) (cap:=cap) v7 (by rw[kF];exact vj) yN pP hR sz nE fun t ht=>bU t ht
  rw[kF]at this;exact this
 simp only[Z3,seval,-ah,bN,dL];refine ae fun t ht=>?_
 cases t with
 |false=>
  simp only[Z3,seval,-ah,bN,dL];exact Gh.fin0 k2 trivial (hk _ (fl fun h=>by
   obtain⟨g,a,b,_⟩:=qd h
   have:false=true:=ht.2 ⟨g,fun y hy=>by
    rcases List.mem_append.1 hy with hy|hy
    ·exact b y hy
    ·rw[List.mem_singleton.1 hy];exact a⟩
   cases this))
 |true=>
 obtain⟨gp,hex⟩:=ht.1 rfl;have g:LG O P C:=⟨gp.1,gp.2⟩;have hx:gS O x:=(hex x (by simp)).gS
 have hg:∀y∈L,gS O y:=fun y hy=>(hex y (by simp[hy])).gS
 simp only[Z3,seval,-ah,bN,cU,dL];refine zEw (σ:=h2.new [vU]) (sl:=h2.next) (by rw[zH,if_pos rfl]) g (pP.new _) hR sz fU gg fun t hu=>?_
 cases t with
 |false=>
  simp only[Z3,seval,-ah,bN,dL];exact Gh.fin0 (k2.new _) trivial (hk _ (fl fun h=>by have:=hu.2 (qd h).2.2.2.1;cases this))
 |true=>
 have nF:=hu.1 rfl;simp only[Z3,seval,-ah,bN,dL,c9];refine Qh g (pP.new _) hR fU nF hx h0 fun t hm=>?_
 cases t with
 |true=>
  simp only[Z3,seval,-ah,bN,dL,c9];exact Gh.fin0 (k2.new _) trivial (hk _ (fl fun h=>(qd h).2.2.2.2.2 (hm.1 rfl)))
 |false=>
 have xM:¬GC O P C u x:=fun h=>by have:=hm.2 h;cases this
 rw[<-pM];simp only[Z3,seval,-ah,bN];generalize hG:h2.new [vU]=G at *
 have kG:Keep σ G:=by rw[<-hG];exact k2.new _
 have CH:PtrG G sp vO vP vC:=hs.keep kG;refine zC (fun m vs h=>∃(i:Nat),i<=L.length∧m=L.length-i∧vs=[.ptr sp 0,vU,.fz false (pslA 1 aZ 2 (2+L.length)) L.length (List.take L.length rT),.int .i64 L.length,.int .i64 i]∧h=G∧∀y∈L.take i,GC O P C u y) L.length ?_ ?_
 ·exact⟨0,Nat.zero_le _,rfl,rfl,rfl,fun y hy=>by simp at hy⟩
 rintro m vs h ⟨i,hi,rfl,rfl,rfl,aj⟩
 simp only[Z3,seval,-ah,bN];refine iteI (fun ai=>?_) fun aE=>?_
 rotate_left
 ·rw[List.take_of_length_le (by omega)]at aj
  exact Gh.fin0 kG trivial (hk _ ⟨fun _=>⟨gp,x,L,u,rfl,o7,hex x (by simp),fun y hy=>hex y (by simp[hy]),nF,aj,xM⟩,fun _=>rfl⟩)
 have ak:(i:Int)<(L.length:Int):=by omega
 obtain⟨w4,a4,hr⟩:=hL.rowI ai;simp only[Z3,seval,-ah,ai,ak,hr,bN];refine Qh g CH hR fU nF (hg _ (List.getElem_mem ai)) ⟨w4,a4,rfl⟩ fun t jy=>?_
 cases t with
 |false=>
  simp only[Z3,seval,-ah,bN];exact Gh.fin0 kG trivial (hk _ (fl fun h=>by have:=jy.2 ((qd h).2.2.2.2.1 _ (List.getElem_mem ai));cases this))
 |true=>
 simp only[Z3,seval,-ah,bN,wrapS ai (by omega:L.length<=4611686018427387904)]
 refine⟨_,by omega,i+1,by omega,rfl,rfl,fun y hy=>?_⟩
 rw[List.take_succ_eq_append_getElem ai]at hy
 rcases List.mem_append.1 hy with hy|hy
 ·exact aj y hy
 ·rw[List.mem_singleton.1 hy];exact jy.1 rfl
end Go.Proofs
namespace Go.Proofs
open Go.Ab Go.Lie Go.Grp
variable{σ h:PHeap}{K:PV->PHeap->Prop}{O x y w:List Int}{P:List (List Int)}{C:List (List (List Int))}{vO vP vC vx vL vU vZ:PV}{L u Z:List (List Int)}
theorem zBe(g:LG O P C)(hR:IsPr vO vP vC O P C)(hU:FII vU u)(hu:zR O P C u)(hx:gS O x)(bq:FI vx x)(hk:∀t:Bool,(t=true↔GC O P C u x)->K (.bool t) σ):zA Tryz.prog 67 [.agg [vO,vP,vC],vU,vx] σ K:=
 zKG g hR (GC.sub g.F hu.1) hU hu.2 hx bq hk
theorem zEn(hR:IsPr vO vP vC O P C)(sz:SzP O P C)(hZ:FII vZ Z)(c7:SzL Z)(hk:∀t:Bool,(t=true↔outP O P C Z)->K (.bool t) σ):zA Tryz.prog 27 [.agg [vO,vP,vC],vZ] σ K:=by
 have fl:∀{A:Prop},¬A->((false=true)↔A):=fun h=>⟨fun x=>(by cases x),fun x=>absurd x h⟩
 have q0:=hR.O.one;have q1:=hR.P.one;have q2:=hR.C.one;have lI:=c7.l;obtain⟨wZ,aZ,rZ,rfl,gT⟩:=hZ;refine zA.gh ?_;refine zB mix Tryz.func27 ?_;simp only[Z3,seval,-ah,q0,q1,q2];generalize hH:σ.new [vO,vP,vC]=H;have kH:Keep σ H:=by rw[<-hH];exact zD _ _
 have r3:H.rd σ.next 0 3=some [vO,vP,vC]:=by rw[<-hH];simp only[Z3,seval,-ah]
 clear hH;simp only[Z3,seval,-ah,r3,q0,q1,q2];refine q9 hR sz fun t ht=>?_
 cases t with
 |false=>
  simp only[Z3,seval,-ah];exact Gh.fin0 kH trivial (hk _ (fl fun h=>by have:=ht.2 h.1;cases this))
 |true=>
 have gp:=ht.1 rfl;have g:LG O P C:=⟨gp.1,gp.2⟩
 by_cases c2:(Z.length:Int)<2
 ·simp only[Z3,seval,-ah,c2]
  exact Gh.fin0 kH trivial (hk _ (fl fun⟨_,x,L,u,e,_⟩=>by rw[e]at c2;simp only[List.length_cons]at c2;omega))
 obtain⟨x,l1,T,rfl⟩:∃x w L,Z=x::w::L:=by
  match Z,c2 with
  |[],h=>simp at h
  |[_],h=>simp at h
  |x::w::L,_=>exact⟨x,w,L,rfl⟩
 have eR:(x::l1::T).length=T.length+2:=rfl;obtain⟨r0,r1,rT,rfl⟩:∃r0 r1 rL,rZ=r0::r1::rL:=by
  have:=gT.1
  match rZ,this with
  |[],h=>simp at h
  |[_],h=>simp at h
  |r0::r1::rL,_=>exact⟨r0,r1,rL,rfl⟩
 obtain⟨h0,dP⟩:=All2.tl gT;obtain⟨h1,oZ⟩:=All2.tl dP;have hT:All2 FI rT T:=oZ;have c9:=h0.one;obtain⟨w1,a1,rfl⟩:=h1;rw[eR]at c2 lI ⊢
 obtain⟨N,hN⟩:∃N,N=T.length+2:=⟨_,rfl⟩
 have d2:¬((N:Int)<2):=by omega
 have z0:(0:Int)<(N:Int):=by omega
 have z1:(1:Int)<(N:Int):=by omega
 have m2:IntKind.i64.wrap ((N:Int)-2)=(N:Int)-2:=wrap64 (by omega) (by omega)
 rw[<-hN]
 by_cases c1:l1.length=1
 rotate_left
 ·have eT:¬((l1.length:Int)=1):=by omega
  simp only[Z3,seval,-ah,d2,z0,z1,c9,eT];exact Gh.fin0 kH trivial (hk _ (fl fun h=>by obtain⟨L,u,e,_⟩:=zBa (m:=0) h;rw[e]at c1;exact c1 rfl))
 obtain⟨m,rfl⟩:∃m,l1=[m]:=by
  match l1,c1 with
  |[m],_=>exact⟨m,rfl⟩
 have g1:(pis [m])[0]? = some (.int .i64 m):=rfl;have eT:(((1:Nat):Int)=1)=True:=by simp
 have jQ:(0:Int)<((1:Nat):Int):=by decide
 have ol:[m].length=1:=rfl;rw[ol];have bad:¬(0<=m∧m<=6∧m<=(N:Int)-2)->¬outP O P C (x::[m]::T):=fun hb h=>by
  obtain⟨L,u,e,e2,h6⟩:=zBa (m:=0) h;simp only[List.cons.injEq,and_true]at e
  have:=congrArg List.length e2
  rw[List.length_append]at this
  omega
 simp only[Z3,seval,-ah,d2,z0,z1,c9,m2,g1,eT,jQ];refine QY ?_
 by_cases aW:0<=m∧m<=6
 rotate_left
 ·simp only[Z3,seval,-ah,aW,decide_false]
  exact Gh.fin0 kH trivial (hk _ (fl (bad fun h=>aW ⟨h.1,h.2.1⟩)))
 by_cases AZ:(N:Int)-2<m
 ·simp only[Z3,seval,-ah,aW,AZ,m2,decide_true,d2,z0,z1,g1,eT,jQ]
  exact Gh.fin0 kH trivial (hk _ (fl (bad fun h=>by omega)))
 obtain⟨L,u,rfl,rfl⟩:∃L u,m=((L.length:Nat):Int)∧T=L++u:=⟨T.take m.toNat,T.drop m.toNat,by rw[List.length_take];omega,(List.take_append_drop _ _).symm⟩
 have ld:N=L.length+u.length+2:=by rw[hN,List.length_append]
 have o7:L.length<=6:=by omega
 have hL:All2 FI (rT.take L.length) L:=by have:=hT.take L.length;rwa[List.take_left]at this
 have hU:All2 FI (rT.drop L.length) u:=by have:=hT.drop L.length;rwa[List.drop_left]at this
 have w2:IntKind.i64.wrap (2+(L.length:Int))=((2+L.length:Nat):Int):=by rw[wrap64 (by omega) (by omega)];omega
 have b1:((2+L.length:Nat):Int)<=(N:Int):=by omega
 have pB:2+L.length<=N:=by omega
 have b2:(2:Int)<=((2+L.length:Nat):Int):=by omega
 have pA:2<=2+L.length:=by omega
 have b3:2+L.length-2=L.length:=by omega
 have b4:N-(2+L.length)=u.length:=by omega
 have b5:(2:Int)<=(N:Int):=by omega
 have b6:List.drop (2+L.length) (r0::PV.fz w1 a1 1 (pis [(L.length:Int)])::rT)=rT.drop L.length:=by rw[Nat.add_comm];rfl
 have b7:List.take u.length (rT.drop L.length)=rT.drop L.length:=List.take_of_length_le (by rw[hU.1];exact vM _)
 simp only[Z3,seval,-ah,aW,AZ,d2,z0,z1,c9,m2,g1,eT,jQ,w2,b1,pB,b2,pA,b3,b4,b5,b6,b7,r3,List.drop_succ_cons,List.drop_zero];generalize pM:PV.fz false (pslA 1 aZ 2 (2+L.length)) L.length (List.take L.length rT)=vL;generalize mJ:PV.fz false (pslA 1 aZ (2+L.length) N) u.length (List.drop L.length rT)=vU;have fU:FII vU u:=by rw[<-mJ];exact⟨false,_,_,rfl,hU⟩
 have fL:FII vL L:=by rw[<-pM];exact⟨false,_,_,rfl,hL⟩
 have bN:=fU.one;have dL:=fL.one;have gg:SzL u:=⟨by omega,fun y hy=>c7.2 y (by simp[hy])⟩
 have bF:SzL L:=⟨by omega,fun y hy=>c7.2 y (by simp[hy])⟩
 have nh:=c7.2 x (by simp)
 have bO:∀o∈O,isP o:=zM.isp gp.1
 have pX:=g.s.le;refine zBs hR (by omega) bO h0 nh fun t hx=>?_
 cases t with
 |false=>
  simp only[Z3,seval,-ah,bN,dL];exact Gh.fin0 kH trivial (hk _ (fl fun h=>by have:=hx.2 (qd h).2.1;cases this))
 |true=>
 have hex:=hx.1 rfl;simp only[Z3,seval,-ah,r3,bN,dL];refine Zn hR (by omega) bO fL bF fun t hy=>?_
 cases t with
 |false=>
  simp only[Z3,seval,-ah,bN,dL];exact Gh.fin0 kH trivial (hk _ (fl fun h=>by have:=hy.2 (qd h).2.2.1;cases this))
 |true=>
 have tw:=hy.1 rfl;have hg:∀y∈L,gS O y:=fun y h=>(tw y h).gS
 simp only[Z3,seval,-ah,r3,bN,dL];refine zDW g hR fU gg fun t hu=>?_
 cases t with
 |false=>
  simp only[Z3,seval,-ah,bN,dL];exact Gh.fin0 kH trivial (hk _ (fl fun h=>by have:=hu.2 (qd h).2.2.2.1;cases this))
 |true=>
 have nF:=hu.1 rfl;simp only[Z3,seval,-ah,bN,dL];refine zC (fun m vs h=>∃(i:Nat),i<=L.length∧m=L.length-i∧vs=[.fz wZ aZ N (r0::PV.fz w1 a1 1 (pis [(L.length:Int)])::rT),.ptr σ.next 0,vL,vU,.int .i64 i]∧h=H∧∀y∈L.take i,GC O P C u y) L.length ?_ ?_
 ·exact⟨0,Nat.zero_le _,rfl,rfl,rfl,fun y hy=>by simp at hy⟩
 rintro m vs h ⟨i,hi,rfl,rfl,rfl,aj⟩
 obtain⟨wL,aL,rL,rfl,eW⟩:=fL;simp only[Z3,seval,-ah,bN];refine iteI (fun ai=>?_) fun aE=>?_
 rotate_left
 ·rw[List.take_of_length_le (by omega)]at aj
  simp only[Z3,seval,-ah,z0,r3,c9,bN];refine zBe g hR fU nF hex.gS h0 fun t hm=>?_
  cases t with
  |false=>
   simp only[Z3,seval,-ah];exact Gh.fin0 kH trivial (hk _ ⟨fun _=>⟨gp,x,L,u,rfl,o7,hex,tw,nF,aj,fun h=>by have:=hm.2 h;cases this⟩,fun _=>rfl⟩)
  |true=>
   simp only[Z3,seval,-ah];exact Gh.fin0 kH trivial (hk _ (fl fun h=>(qd h).2.2.2.2.2 (hm.1 rfl)))
 have ak:(i:Int)<(L.length:Int):=by omega
 obtain⟨w4,a4,hr⟩:=eW.rowI ai;simp only[Z3,seval,-ah,ai,ak,hr,bN,r3];refine zBe g hR fU nF (hg _ (List.getElem_mem ai)) ⟨w4,a4,rfl⟩ fun t jy=>?_
 cases t with
 |false=>
  simp only[Z3,seval,-ah,bN];exact Gh.fin0 kH trivial (hk _ (fl fun h=>by have:=jy.2 ((qd h).2.2.2.2.1 _ (List.getElem_mem ai));cases this))
 |true=>
 simp only[Z3,seval,-ah,bN,wrapS ai (by omega:L.length<=4611686018427387904)]
 refine⟨_,by omega,i+1,by omega,rfl,rfl,fun y hy=>?_⟩
 rw[List.take_succ_eq_append_getElem ai]at hy
 rcases List.mem_append.1 hy with hy|hy
 ·exact aj y hy
 ·rw[List.mem_singleton.1 hy];exact jy.1 rfl
end Go.Proofs
namespace Go.Proofs
open Go.Ab Go.Lie Go.Grp
variable{σ h:PHeap}{K:PV->PHeap->Prop}{O x z:List Int}{P:List (List Int)}{C:List (List (List Int))}{u w A:List (List Int)}{t sp:Nat}{vO vP vC vU vW:PV}
theorem zEM(g:LG O P C)(hs:PtrG σ sp vO vP vC)(hR:IsPr vO vP vC O P C)(hU:FII vU u)(hu:zR O P C u)(hW:FII vW w)(hw:zR O P C w)
  (hk:∀t:Bool,(t=true↔szU O u*szU O w=ordF O O.length∧TrivM O P C u w)->K (.bool t) σ):zA Tryz.prog 94 [.ptr sp 0,vU,vW] σ K:=by
 have fl:∀{A:Prop},¬A->((false=true)↔A):=fun h=>⟨fun x=>(by cases x),fun x=>absurd x h⟩
 have s:=g.s;have bJ:=s.le;have eU:=hu.len;have fH:=hw.len;have ho:=g.pr.ord;obtain⟨pz,u5⟩:=qL s hu.2;obtain⟨py,u4⟩:=qL s hw.2;have pu:=ZC pz u.length (vM _);have mD:=ZC py w.length (vM _);rw[List.take_length]at pu mD
 have p7:=pow7b (show u.length<=6 by omega)
 have q7:=pow7b (show w.length<=6 by omega)
 have wm:IntKind.i64.wrap (szU O u*szU O w)=szU O u*szU O w:=by
  have h1:szU O u*szU O w<=117649*117649:=Int.mul_le_mul (by omega) (by omega) (by omega) (by omega)
  have h2:0<=szU O u*szU O w:=Int.mul_nonneg (by omega) (by omega)
  exact wrap64 (by omega) (by omega)
 refine zB mix Tryz.func94 ?_;simp only[Z3,seval,-ah];refine sizeOf_ok s hs hR.O hU hu.2 (by omega) ?_
 simp only[Z3,seval,-ah];refine sizeOf_ok s hs hR.O hW hw.2 (by omega) ?_
 simp only[Z3,seval,-ah,wm];refine QC s hs hR.O ?_
 by_cases e:szU O u*szU O w=ordF O O.length
 rotate_left
 ·simp only[Z3,seval,-ah,wm,e,decide_false]
  exact hk false (fl fun h=>e h.1)
 ·simp only[Z3,seval,-ah,wm,e,decide_true]
  refine zMj g hs hR hU hu hW hw (by rw[e];exact ho) fun v L f1 hL=>?_
  obtain⟨w1,a1,r1,rfl,uz⟩:=f1
  by_cases h0:L.length=0
  ·have z:((L.length:Nat):Int)=0:=by omega
   simp only[Z3,seval,-ah,z,decide_true];exact hk true ⟨fun _=>⟨e,hL.1 h0⟩,fun _=>rfl⟩
  ·have z:¬((L.length:Nat):Int)=0:=by omega
   simp only[Z3,seval,-ah,h0,z,decide_false];exact hk false (fl fun h=>h0 (hL.2 h.2))
theorem zEx{wL:Bool}{aL:AV}{LL:List (List (List Int))}{rF:List PV}(hs:PtrG σ sp vO vP vC)(hR:IsPr vO vP vC O P C)(sz:SzP O P C)(DH:All2 FII rF LL)(hl:LL.length<=1000)(gg:∀U∈LL,SzL U)
  (hk:∀t:Bool,(t=true↔(zM O P C∧Cons O P C)∧∀U∈LL,zR O P C U)->K (.bool t) σ):zA Tryz.prog 135 [.ptr sp 0,.fz wL aL LL.length rF] σ K:=by
 have fl:∀{A:Prop},¬A->((false=true)↔A):=fun h=>⟨fun x=>(by cases x),fun x=>absurd x h⟩
 have r3:σ.rd sp 0 3=some [vO,vP,vC]:=by rw[zb hs.obj];rfl
 have aV:=hR;obtain⟨⟨w0,a0,rfl⟩,_,_⟩:=hR;have r1:σ.rd1 sp 0=some (.fz w0 a0 O.length (pis O)):=by rw[zF hs.obj];rfl
 refine zB mix Tryz.func135 ?_;simp only[Z3,seval,-ah,r3];refine zq aV sz fun t ht=>?_
 cases t with
 |false=>
  simp only[Z3,seval,-ah];exact hk false (fl fun h=>by have:=ht.2 h.1;cases this)
 |true=>
 have gp:=ht.1 rfl;have g:LG O P C:=⟨gp.1,gp.2⟩;have s:=g.s;have F:=g.F;have bJ:=s.le;clear ht;simp only[Z3,seval,-ah];refine zC (fun m us h'=>∃i:Nat,i<=LL.length∧m=LL.length-i∧us=[.ptr sp 0,.fz wL aL LL.length rF,.int .i64 LL.length,.int .i64 i]∧σ=h'∧∀U∈LL.take i,zR O P C U) LL.length ?_ ?_
 ·exact⟨0,by omega,by omega,rfl,rfl,fun U hU=>by cases hU⟩
 rintro m us h' ⟨i,hi,rfl,rfl,rfl,aj⟩
 simp only[Z3,seval,-ah];refine iteI (fun cD=>?_) fun cD=>?_
 rotate_left
 ·rw[List.take_of_length_le (by omega)]at aj
  exact hk true ⟨fun _=>⟨gp,aj⟩,fun _=>rfl⟩
 have yo:(i:Int)<(LL.length:Int):=by omega
 obtain⟨c,hc,fc⟩:=DH.get cD;have mU:=List.getElem_mem cD;have gg:=gg _ mU;have ie:=fc;have BX:LL.take (i+1)=LL.take i++[LL[i]]:=List.take_succ_eq_append_getElem cD;generalize LL[i]=u at *
 have eU:=gg.l;obtain⟨wu,au,ru,rfl,ks⟩:=fc;have qe:(List.drop i rF)[0]? = some (.fz wu au u.length ru):=by rw[List.getElem?_drop];exact hc
 simp only[Z3,seval,-ah,cD,yo,hc,r1];refine iteI (fun ta=>?_) fun hle=>?_
 ·refine hk _ (fl fun h=>?_)
  have:=(h.2 _ mU).len
  omega
 have x9:u.length<=O.length:=by omega
 refine zC (fun m us h'=>∃j:Nat,j<=u.length∧m=u.length-j∧us=[.ptr sp 0,.fz wu au u.length ru,.fz wL aL LL.length rF,.int .i64 LL.length,.int .i64 i,.fz wu au u.length ru,.int .i64 u.length,.int .i64 j]∧σ=h'∧∀x∈u.take j,isExp O x) u.length ?_ ?_
 ·exact⟨0,by omega,by omega,rfl,rfl,fun x hx=>by simp at hx⟩
 rintro m us h' ⟨j,hj,rfl,rfl,rfl,cW⟩
 simp only[Z3,seval,-ah];refine iteI (fun ai=>?_) fun aE=>?_
 rotate_left
 ·obtain rfl:j=u.length:=by omega
  rw[List.take_length]at cW
  have kO:∀x∈u,gS O x:=fun x hx=>(cW x hx).gS
  simp only[Z3,seval,-ah];refine zAW g hs aV ie kO (by omega) fun v z hv hz=>?_
  simp only[Z3,seval,-ah];have di:=hz.len;refine zC2 hv ie (by omega) (fun x hx=>by have:=(hz.one x hx).1.len;omega) fun t ht=>?_
  cases t with
  |false=>
   simp only[Z3,seval,-ah];refine hk _ (fl fun h=>?_)
   have:=ht.2 (hz.unique s F (GC.sub F kO) (h.2 _ mU).2)
   cases this
  |true=>
   have e:=ht.1 rfl;simp only[Z3,seval,-ah,wrapS cD (by omega:LL.length<=4611686018427387904)]
   refine⟨_,by omega,i+1,by omega,rfl,rfl,fun U hU=>?_⟩
   rw[BX]at hU
   rcases List.mem_append.1 hU with h|h
   ·exact aj U h
   ·rw[List.mem_singleton.1 h];exact⟨kO,by rw[e]at hz;exact hz⟩
 obtain⟨w4,a4,hr⟩:=ks.rowI ai;have jR:=gg.r _ (List.getElem_mem ai);simp only[Z3,seval,-ah,ai,hr];refine ZE hs aV.O (by omega) (zM.isp g.pr) ⟨w4,a4,rfl⟩ jR fun t ht=>?_
 cases t with
 |false=>
  simp only[Z3,seval,-ah];refine hk _ (fl fun h=>?_)
  have:=ht.2 (zGW.2 ((h.2 _ mU).1 _ (List.getElem_mem ai)))
  cases this
 |true=>
 have h1:=ht.1 rfl;simp only[Z3,seval,-ah,wrapS ai (by omega:u.length<=4611686018427387904)]
 refine⟨_,by omega,j+1,by omega,rfl,rfl,fun x hx=>?_⟩
 rw[List.take_succ_eq_append_getElem ai,List.mem_append,List.mem_singleton]at hx
 rcases hx with hx|hx
 ·exact cW x hx
 ·rw[hx];exact h1
end Go.Proofs
