/- . -/
import Derived.Test.YtjlpbpfaihhamaaGreatAP28
open Nat renaming le_refl→vM
open Int renaming reduceNatCast'->ah
set_option maxRecDepth 100000
namespace Go.Grp
end Go.Grp
set_option linter.unusedSimpArgs false
set_option linter.unusedVariables false
namespace Go.Proofs
open Go.Ab Go.Lie Go.Grp
variable{σ:PHeap}{K:PV->PHeap->Prop}{O:List Int}{P:List (List Int)}{C:List (List (List Int))}{vO vP vC vf va vb:PV}{x f a b:List Int}{d sp:Nat}
theorem zDq{v:PV}{sp:Nat}(hf:f=[])(si:FI vf f)(hk:K (.tup []) σ):zA Tryz.prog 177 [.ptr sp 0,v,vf] σ K:=by
 obtain⟨wf,af,rfl⟩:=si;subst hf;refine zB mix Tryz.func177 ?_;simp only[Z3,seval,-ah];refine zC (fun m vs h'=>m=0∧vs=[.ptr sp 0,v,.fz wf af ([]:List Int).length (pis []),.int .i64 (([]:List Int).length:Nat),.int .i64 (0:Nat)]∧σ=h') 0 ⟨rfl,rfl,rfl⟩ ?_
 rintro m vs h' ⟨rfl,rfl,rfl⟩
 simp only[Z3,seval,-ah];exact hk
theorem zC9(s:Shp O P C)(F:Full O P C d)(hs:PtrG σ sp vO vP vC)(hR:IsPr vO vP vC O P C)(ha:TT O (O.length-d) a)(hb:TT O (O.length-d) b)(dN:FI va a)(dq:FI vb b)(hk:ResI σ K (mu O P C d a b)):
  zA Tryz.prog 191 [.ptr sp 0,va,vb] σ K:=by
 have bJ:=s.le;have eg:=ha.len;have cN:=(F.gp.cl ha hb).len;have aC:sp≠σ.next:=Nat.ne_of_lt hs.lt;obtain⟨wa,aa,rfl⟩:=dN;refine zA.gh ?_;refine zB mix Tryz.func191 ?_;simp only[Z3,seval,-ah];refine zBn rfl (by omega) ⟨fun h0=>?_,fun cap hc=>?_⟩
 ·have hM:b=[]:=List.eq_nil_of_length_eq_zero (by rw[hb.len,<-eg,h0];rfl)
  simp only[Z3,seval,-ah];refine zDq hM dq ?_;simp only[Z3,seval,-ah];exact Gh.fin0 (Keep.refl σ) trivial (hk.1 (List.eq_nil_of_length_eq_zero (by show(mu O P C d a b).length=0;rw[cN,<-eg,h0];rfl)))
 ·rw[eg]at hc
  rw[eg];simp only[Z3,seval,-ah];refine qh s F (hs.new _) hR (x:=a) (by simp only[Z3,seval,-ah]) (by simp only[Z3,seval,-ah]) aC hc ha hb dq ?_
  simp only[Z3,seval,-ah];rw[show O.length=(mu O P C d a b).length from cN.symm]at hc ⊢
  exact Gh.finS (zD σ _) (by simp only[Z3,seval,-ah]) (vM _) (zK _ _) (hk.2 cap hc)
theorem Qe(s:Shp O P C)(F:Full O P C d)(hs:PtrG σ sp vO vP vC)(hR:IsPr vO vP vC O P C)(ha:TT O (O.length-d) a)(hb:TT O (O.length-d) b)(dN:FI va a)(dq:FI vb b)(hk:∀v,FI v (mu O P C d a b)->K v σ):
  zA Tryz.prog 191 [.ptr sp 0,va,vb] σ K:=zA.fzI (fun K'=>zC9 s F hs hR ha hb dN dq) fun a=>hk _ ⟨_,_,rfl⟩
theorem zF2(s:Shp O P C)(F:Full O P C d)(hs:PtrG σ sp vO vP vC)(hR:IsPr vO vP vC O P C)(ha:TT O (O.length-d) a)(dN:FI va a){k:Int}(dh:0<=k∧k<=1000000)(hk:ResI σ K (pw (mu O P C d) (zv O) a k.toNat)):
  zA Tryz.prog 195 [.ptr sp 0,va,.int .i64 k] σ K:=by
 have bJ:=s.le;have eg:=ha.len;have M:=F.gp.toMon;have aC:sp≠σ.next:=Nat.ne_of_lt hs.lt;have sj:=dN;obtain⟨wa,aa,rfl⟩:=dN;rw[eg]at sj ⊢
 refine zA.gh ?_;refine zB mix Tryz.func195 ?_;simp only[Z3,seval,-ah,List.length_replicate,zZ,mk8 (n:=O.length) (by omega),mkL (n:=O.length) (by omega)]
 refine zC (fun m vs h'=>∃q:Nat,q<=k.toNat∧m=k.toNat-q∧vs=[.ptr sp 0,.fz wa aa O.length (pis a),.sl σ.next 0 O.length (.known O.length),.int .i64 k,.int .i64 q]∧h'=σ.new (pis (pw (mu O P C d) (zv O) a q))) k.toNat ?_ ?_
 ·exact⟨0,by omega,by omega,rfl,rfl⟩
 rintro m vs h' ⟨q,hq,rfl,rfl,rfl⟩
 simp only[Z3,seval,-ah];refine iteI (fun ai=>?_) fun aE=>?_
 ·have cP:q<k.toNat:=by omega
  have hp:=M.pw ha q;refine qh s F (hs.new _) hR (x:=pw (mu O P C d) (zv O) a q) (by simp only[Z3,seval,-ah]) (by simp only[Z3,seval,-ah]) aC (.inr rfl) hp ha sj ?_
  simp only[Z3,seval,-ah,wrapS cP (by omega:k.toNat<=4611686018427387904)]
  exact⟨_,by omega,q+1,by omega,rfl,rfl,rfl⟩
 ·have l7:q=k.toNat:=by omega
  subst l7;have cN:=(M.pw ha k.toNat).len;have hc:full 1 (.known O.length) (pw (mu O P C d) (zv O) a k.toNat).length:=.inr (by rw[cN])
  refine Gh.finS (zD σ _) (by simp only[Z3,seval,-ah];rfl) (vM _) (zK _ _) ?_
  have:=hk.2 _ hc
  rwa[cN]at this
theorem zDR(s:Shp O P C)(F:Full O P C d)(hs:PtrG σ sp vO vP vC)(hR:IsPr vO vP vC O P C)(ha:TT O (O.length-d) a)(dN:FI va a){k:Int}(dh:0<=k∧k<=1000000)(hk:∀v,FI v (pw (mu O P C d) (zv O) a k.toNat)->K v σ):
  zA Tryz.prog 195 [.ptr sp 0,va,.int .i64 k] σ K:=zA.fzI (fun K'=>zF2 s F hs hR ha dN dh) fun a=>hk _ ⟨_,_,rfl⟩
theorem mu_step(s:Shp O P C){i:Nat}(hd:O.length-d<=i)(hle:d<=O.length)(hi:i<O.length)(hx:TT O i x):TT O i (mu O P C d x (Grp.unit O i))∧at_ (mu O P C d x (Grp.unit O i)) i=if at_ x i+1=at_ O i then 0 else at_ x i+1:=by
 have hu:TT O i (Grp.unit O i):=s.unit hi (vM _);obtain⟨e,he⟩:∃e,O.length-i=e+1:=⟨O.length-i-1,by omega⟩
 have bn:O.length-(e+1)=i:=by omega
 have e1:mu O P C d x (Grp.unit O i)=mu O P C (e+1) x (Grp.unit O i):=by
  have:=zKD s (d:=e+1) (k:=d-(e+1)) (u:=x) (v:=Grp.unit O i) (by omega) (by rw[bn];exact hx) (by rw[bn];exact hu)
  rwa[show e+1+(d-(e+1))=d by omega]at this
 have h1:=mu_tt s (d:=e+1) (a:=x) (b:=Grp.unit O i) (by omega) (by rw[bn];exact hx) (by rw[bn];exact hu)
 rw[bn]at h1
 rw[e1];refine⟨h1,?_⟩;have bx:=hx.bd i hi;have bO:=s.pr i hi;have eF:at_ (Grp.unit O i) i=1:=by rw[at_set (by simp;exact hi),if_pos rfl]
 have aF:=s.pos hi;have hm:∀a b,TT O (i+1) a->TT O (i+1) b->TT O (i+1) (mu O P C e a b):=fun a b ha hb=>by
  have:=mu_tt s (d:=e) (a:=a) (b:=b) (by omega) (by rwa[show O.length-e=i+1 by omega]) (by rwa[show O.length-e=i+1 by omega])
  rwa[show O.length-e=i+1 by omega]at this
 have ir:=hm _ _ (zBG (fun x _=>QL s hm x) (nx (Grp.unit O i) i) (hx.set0 hi aF)) (hu.set0 hi aF)
 simp only[mu,bn];rw[eF]
 split
 ·have pK:=hm _ _ (s.pw i hi) ir
  rw[at_set (by rw[pK.len];exact hi),if_pos rfl]
  split<;>omega
 ·rw[at_set (by rw[ir.len];exact hi),if_pos rfl,if_neg (by omega)]
end Go.Proofs
namespace Go.Proofs
open Go.Ab Go.Lie Go.Grp
variable{σ:PHeap}{K:PV->PHeap->Prop}{O:List Int}{P:List (List Int)}{C:List (List (List Int))}{vO vP vC vx va vb:PV}{x y a b:List Int}{rP rC:List PV}{d j sp:Nat}
theorem zKO(s:Shp O P C)(F:Full O P C d)(hs:PtrG σ sp vO vP vC)(hR:IsPr vO vP vC O P C)(ha:TT O (O.length-d) a)(dN:FI va a)(hk:∀z,TT O (O.length-d) z->mu O P C d a z=zv O->ResI σ K z):
  zA Tryz.prog 176 [.ptr sp 0,va] σ K:=by
 have bJ:=s.le;have hle:=F.le;have eg:=ha.len;have M:=F.gp.toMon;have aC:sp≠σ.next:=Nat.ne_of_lt hs.lt;have n8:sp≠σ.next+1:=by have:=hs.lt;omega
 obtain⟨wa,aa,rfl⟩:=dN;refine zA.gh ?_;refine zB mix Tryz.func176 ?_;simp only[Z3,seval,-ah];refine zBn rfl (by omega) ⟨fun h0=>?_,fun cap hc=>?_⟩
 ·have DG:O=[]:=List.eq_nil_of_length_eq_zero (by rw[<-eg,h0];rfl)
  subst DG;subst h0;simp only[Z3,seval,-ah,mk8 (n:=0) (by omega),mkL (n:=0) (by omega)]
  refine zC (fun m vs h'=>m=0∧vs=[.ptr sp 0,.fz true .nils 0 [],.sl σ.next 0 0 (.known 0),.int .i64 (0:Nat),.int .i64 (0:Nat)]∧h'=σ.new []) 0 ⟨rfl,rfl,rfl⟩ ?_
  rintro m vs h' ⟨rfl,rfl,rfl⟩
  simp only[Z3,seval,-ah];have Dt:d=0:=by simpa using hle
  exact Gh.finS (cs:=pis []) (zD σ _) (by simp only[Z3,seval,-ah];rfl) (vM _) (zK _ _) ((hk [] (s.zv _) (by subst Dt;rfl)).2 _ (.inr rfl))
 rw[eg]at hc
 rw[eg];simp only[Z3,seval,-ah,List.length_replicate,zZ,mk8 (n:=O.length) (by omega),mkL (n:=O.length) (by omega)]
 refine zC (fun m vs h'=>∃(i:Nat) (r z:List Int),i<=O.length∧m=O.length-i∧vs=[.ptr sp 0,.sl σ.next 0 O.length cap,.sl (σ.next+1) 0 O.length (.known O.length),.int .i64 O.length,.int .i64 i]∧h'=(σ.new (pis r)).new (pis z)∧TT O (O.length-d) r∧TT O i r∧TT O (O.length-d) z∧mu O P C d a z=r) O.length ?_ ?_
 ·exact⟨0,a,zv O,by omega,by omega,rfl,rfl,ha,ha.mono (Nat.zero_le _),s.zv _,M.r1 ha⟩
 rintro m vs h' ⟨i,r,z,hi,rfl,rfl,rfl,hr,nR,hz,hinv⟩
 simp only[Z3,seval,-ah];refine iteI (fun ai=>?_) fun aE=>?_
 rotate_left
 ·have bn:i=O.length:=by omega
  subst bn;have pT:r=zv O:=nR.ext (s.zv _) fun j h1 h2=>by omega
  rw[pT]at hinv
  have di:=hz.len
  have:=(hk z hz hinv).2 (.known O.length) (.inr (by rw[di]))
  rw[di]at this
  exact Gh.finS (s:=σ.next+1) ((zD σ _).new _) (by simp only[Z3,seval,-ah]) (by omega) (zK _ _) this
 simp only[Z3,seval,-ah];have bO:=s.pr i ai;refine zC (fun m vs h'=>∃(r z:List Int),m=((at_ O i-at_ r i) % at_ O i).toNat∧vs=[.ptr sp 0,.sl σ.next 0 O.length cap,.sl (σ.next+1) 0 O.length (.known O.length),.int .i64 i,.int .i64 O.length,.int .i64 i]∧h'=(σ.new (pis r)).new (pis z)∧TT O (O.length-d) r∧TT O i r∧TT O (O.length-d) z∧mu O P C d a z=r) _ ⟨r,z,rfl,rfl,rfl,hr,nR,hz,hinv⟩ ?_
 rintro m vs h' ⟨r,z,rfl,rfl,rfl,hr,nR,hz,hinv⟩
 have bK:i<r.length:=by rw[hr.len];exact ai
 have br:=hr.bd i ai;simp only[Z3,seval,-ah,ai,pisAt bK];refine iteI (fun heq=>?_) fun kE=>?_
 ·simp only[Z3,seval,-ah,wrapS ai (by omega:O.length<=4611686018427387904)]
  refine⟨_,by omega,i+1,r,z,by omega,rfl,rfl,rfl,hr,?_,hz,hinv⟩
  refine⟨nR.len,nR.bd,fun t ht=>?_⟩
  by_cases e:t=i
  ·subst e;exact heq
  ·exact nR.zero t (by omega)
 ·have uM:O.length-d<=i:=by
   rcases Nat.lt_or_ge i (O.length-d)with h|h
   ·exact absurd (hr.zero i h) kE
   ·exact h
  have hu:TT O (O.length-d) (Grp.unit O i):=s.unit ai uM;obtain⟨m1,m2⟩:=mu_step s uM hle ai nR;refine ZA s F O.length uM ai (by omega) _ _ sp σ.next cap r vO vP vC ((hs.new _).new _) hR (by simp only[Z3,seval,-ah]) (by simp only[Z3,seval,-ah];omega) aC hc hr ?_
  simp only[Z3,seval,-ah];refine ZA s F O.length uM ai (by omega) _ _ sp (σ.next+1) (.known O.length) z vO vP vC ((hs.new _).new _) hR (by simp only[Z3,seval,-ah]) (by simp only[Z3,seval,-ah]) n8 (.inr rfl) hz ?_
  simp only[Z3,seval,-ah];refine⟨_,?_,_,_,rfl,rfl,M.cl hr hu,m1,M.cl hz hu,by rw[<-M.as ha hz hu,hinv]⟩
  rw[m2]
  split
  ·rename_i e
   rw[Int.sub_zero,Int.emod_self]
   have:(at_ O i-at_ r i) % at_ O i=at_ O i-at_ r i:=Int.emod_eq_of_lt (by omega) (by omega)
   omega
  ·rename_i e
   have h1:(at_ O i-at_ r i) % at_ O i=at_ O i-at_ r i:=Int.emod_eq_of_lt (by omega) (by omega)
   have h2:(at_ O i-(at_ r i+1)) % at_ O i=at_ O i-(at_ r i+1):=Int.emod_eq_of_lt (by omega) (by omega)
   omega
theorem zCP(s:Shp O P C)(F:Full O P C d)(hs:PtrG σ sp vO vP vC)(hR:IsPr vO vP vC O P C)(ha:TT O (O.length-d) a)(dN:FI va a)(hk:∀v z,TT O (O.length-d) z->mu O P C d a z=zv O->FI v z->K v σ):
  zA Tryz.prog 176 [.ptr sp 0,va] σ K:=
 zA.gh (zKO s F hs hR ha dN fun z h1 h2=>⟨fun h0=>Gh.fin0 (Keep.refl σ) trivial (hk _ z h1 h2 ⟨true,.nils,by rw[h0];rfl⟩),fun cap hc=>Gh.finF (zD σ _) (by simp only[Z3,seval,-ah]) (vM _) (zK _ _) hc.ok fun o=>hk _ z h1 h2 ⟨true,.sl o 0 z.length cap,rfl⟩⟩)
theorem zGi(s:Shp O P C)(F:Full O P C d)(hs:PtrG σ sp vO vP vC)(hR:IsPr vO vP vC O P C)(ha:TT O (O.length-d) a)(hb:TT O (O.length-d) b)(dN:FI va a)(dq:FI vb b)(hk:∀z,TT O (O.length-d) z->mu O P C d b z=mu O P C d a b->ResI σ K z):
  zA Tryz.prog 183 [.ptr sp 0,va,vb] σ K:=by
 have M:=F.gp.toMon;refine zA.gh ?_;refine zB mix Tryz.func183 ?_;simp only[Z3,seval,-ah];refine zCP s F hs hR hb dq fun v1 z1 h1 h2 f1=>?_
 simp only[Z3,seval,-ah];refine Qe s F hs hR ha hb dN dq fun v2 f2=>?_
 simp only[Z3,seval,-ah];have gf:=M.cl ha hb;have hz:=M.cl h1 gf;have hr:=hk _ hz (by rw[<-M.as hb h1 gf,h2,M.l1 gf])
 refine zC9 s F hs hR h1 gf f1 f2 ⟨fun h0=>?_,fun cap hc=>?_⟩
 ·simp only[Z3,seval,-ah]
  exact Gh.ret (hr.1 h0)
 ·simp only[Z3,seval,-ah]
  exact Gh.ret (hr.2 cap hc)
theorem QO(s:Shp O P C)(F:Full O P C d)(hs:PtrG σ sp vO vP vC)(hR:IsPr vO vP vC O P C)(ha:TT O (O.length-d) a)(hb:TT O (O.length-d) b)(dN:FI va a)(dq:FI vb b)(hk:∀v z,TT O (O.length-d) z->mu O P C d b z=mu O P C d a b->FI v z->K v σ):
  zA Tryz.prog 183 [.ptr sp 0,va,vb] σ K:=
 zA.gh (zGi s F hs hR ha hb dN dq fun z h1 h2=>⟨fun h0=>Gh.fin0 (Keep.refl σ) trivial (hk _ z h1 h2 ⟨true,.nils,by rw[h0];rfl⟩),fun cap hc=>Gh.finF (zD σ _) (by simp only[Z3,seval,-ah]) (vM _) (zK _ _) hc.ok fun o=>hk _ z h1 h2 ⟨true,.sl o 0 z.length cap,rfl⟩⟩)
theorem Q0(s:Shp O P C)(F:Full O P C d){i:Nat}(hi:O.length=d+(i+1))(hs:PtrG σ sp vO vP vC)(hR:IsPr vO vP vC O P C)(hx:TT O 0 x)(bq:FI vx x)(hk:∀v,FI v (Grp.img O C (mu O P C d) i x)->K v σ):
  zA Tryz.prog 215 [.ptr sp 0,.int .i64 i,vx] σ K:=by
 have bJ:=s.le;have dz:=hx.len;have aH:i<O.length:=by omega
 have M:=F.gp.toMon;have aC:sp≠σ.next:=Nat.ne_of_lt hs.lt;have aV:=hR;have lX:=hs;have iX:O.length-d=i+1:=by omega
 obtain⟨⟨w0,a0,rfl⟩,⟨w1,a1,rP,rfl,hP⟩,⟨w3,a3,rC,rfl,hC⟩⟩:=hR;obtain⟨w5,a5,rs,bB,dO⟩:=cvRow s hC aH;have cn:i<C.length:=by rw[s.cl];exact aH
 have e2:σ.rd1 sp 2=some (.fz w3 a3 C.length rC):=by rw[zF hs.obj];rfl
 have dS:IntKind.i64.wrap ((i:Int)+1)=((i+1:Nat):Int):=wrapS aH (by omega)
 obtain⟨wx,ax,rfl⟩:=bq;rw[dz];have om:O.length-1-i=d:=by omega
 rw[om]at bB dO
 refine zA.gh ?_;refine zB mix Tryz.func215 ?_;simp only[Z3,seval,-ah,List.length_replicate,zZ,mk8 (n:=O.length) (by omega),mkL (n:=O.length) (by omega),e2,aC,cn,bB]
 refine zC (fun m vs h'=>∃(k:Nat) (y:List Int),k<=d∧m=d-k∧vs=[.ptr sp 0,.int .i64 i,.fz wx ax O.length (pis x),.sl σ.next 0 O.length (.known O.length),.fz w5 a5 d rs,.int .i64 d,.int .i64 k]∧h'=σ.new (pis y)∧TT O (i+1) y∧fo (mu O P C d) (cvec C i) (nx x) (i+(1+k)) (d-k) y=Grp.img O C (mu O P C d) i x) d ?_ ?_
 ·exact⟨0,zv O,by omega,by omega,rfl,rfl,s.zv _,by rw[Grp.img,om];rfl⟩
 rintro m vs h' ⟨k,y,pY,rfl,rfl,rfl,hy,bG⟩
 simp only[Z3,seval,-ah];refine iteI (fun ai=>?_) fun aE=>?_
 rotate_left
 ·have eP:d-k=0:=by omega
  rw[eP]at bG
  rw[<-bG]at hk
  exact Gh.finF (zD σ _) (by simp only[Z3,seval,-ah];rfl) (vM _) (zK _ _) (by simp[capOK]) fun o=>hk _ (FI.mk hy.len)
 have dE:i+(1+k)<O.length:=by omega
 have yc:i+(1+k)<x.length:=by omega
 have bk:=hx.bd (i+(1+k)) dE;have BA:=s.pr _ dE;have cA:((nx x (i+(1+k)):Nat):Int)=at_ x (i+(1+k)):=Int.toNat_of_nonneg bk.1;obtain⟨w7,a7,cZ⟩:=dO k ai;have bm:=s.cj i (i+(1+k)) (by omega) dE
 have e3:IntKind.i64.wrap (((i+1:Nat):Int)+(k:Int))=((i+(1+k):Nat):Int):=by rw[wrap64 (by omega) (by omega)];omega
 rw[show d-k=(d-k-1)+1 by omega]at bG
 simp only[Z3,seval,-ah,ai,cZ,dS,e3,dE,pisAt yc];refine zC (fun m vs h'=>∃(q:Nat) (y:List Int),q<=nx x (i+(1+k))∧m=nx x (i+(1+k))-q∧vs=[.ptr sp 0,.int .i64 i,.fz wx ax O.length (pis x),.sl σ.next 0 O.length (.known O.length),.fz w7 a7 O.length (pis (cvec C i (i+(1+k)))),.fz w5 a5 d rs,.int .i64 d,.int .i64 k,.int .i64 (at_ x (i+(1+k))),.int .i64 q]∧h'=σ.new (pis y)∧TT O (i+1) y∧fo (mu O P C d) (cvec C i) (nx x) (i+(1+k)+1) (d-k-1) (rep (mu O P C d) (cvec C i (i+(1+k))) (nx x (i+(1+k))-q) y)=Grp.img O C (mu O P C d) i x) (nx x (i+(1+k))) ?_ ?_
 ·exact⟨0,y,by omega,by omega,rfl,rfl,hy,bG⟩
 rintro m vs h' ⟨q,y,AN,rfl,rfl,rfl,hy,bG⟩
 simp only[Z3,seval,-ah];refine iteI (fun aI=>?_) fun gv=>?_
 ·have cP:q<nx x (i+(1+k)):=by omega
  refine qh s F (lX.new _) aV (x:=y) (by simp only[Z3,seval,-ah]) (by simp only[Z3,seval,-ah]) aC (.inr rfl) (by rw[iX];exact hy) (by rw[iX];exact bm) (FI.mk bm.len) ?_
  simp only[Z3,seval,-ah,wrapS cP (by omega:nx x (i+(1+k))<=4611686018427387904)]
  have AW:=M.cl (a:=y) (b:=cvec C i (i+(1+k))) (by rw[iX];exact hy) (by rw[iX];exact bm)
  rw[iX]at AW
  refine⟨_,by omega,q+1,_,by omega,rfl,rfl,rfl,AW,?_⟩
  rw[show nx x (i+(1+k))-q=(nx x (i+(1+k))-(q+1))+1 by omega]at bG
  exact bG
 ·have l7:q=nx x (i+(1+k)):=by omega
  subst l7;rw[Nat.sub_self]at bG
  simp only[Z3,seval,-ah,wrapS ai (by omega:d<=4611686018427387904)]
  refine⟨_,by omega,k+1,y,by omega,rfl,rfl,rfl,hy,?_⟩
  rw[show d-(k+1)=d-k-1 by omega]
  exact bG
end Go.Proofs
namespace Go.Proofs
open Go.Ab Go.Lie Go.Grp
variable{σ:PHeap}{K:PV->PHeap->Prop}{O:List Int}{P:List (List Int)}{C:List (List (List Int))}{vO vP vC:PV}{s:Nat}{x:List Int}{rP rC:List PV}
theorem zHf(s:Shp O P C){d i:Nat}(hi:O.length=d+(i+1))(B:Beh O P C d)(hR:IsPr vO vP vC O P C)
  (hk:∀f0 f1 f2 f3:Int,(f0=0↔Lv O P C i)->K (.agg [.int .i64 f0,.int .i64 f1,.int .i64 f2,.int .i64 f3]) σ):zA Tryz.prog 204 [.agg [vO,vP,vC],.int .i64 i] σ K:=by
 have bJ:=s.le;have aV:=hR;have aH:i<O.length:=by omega
 have fG:AtOK O P C d (i+1):=QX s (by omega)
 have M:=B.gp.toMon;rw[show O.length-d=i+1 by omega]at M
 have ed:O.length-1-i=d:=by omega
 have yes:((∀q,q<d->pw (mu O P C d) (zv O) (cvec C i (i+(1+q))) (nx O (i+(1+q)))=Grp.img O C (mu O P C d) i (pvec P (i+(1+q))))->
   (∀q r,q+(1+r)<d->mu O P C d (cvec C i (i+(1+(q+(1+r))))) (cvec C i (i+(1+q)))=mu O P C d (cvec C i (i+(1+q))) (Grp.img O C (mu O P C d) i (cvec C (i+(1+q)) (i+(1+(q+(1+r)))))))->
   Grp.img O C (mu O P C d) i (pvec P i)=pvec P i->
   (∀q,q<d->mu O P C d (pvec P i) (iter (Grp.img O C (mu O P C d) i) (nx O i) (unitL O.length (i+(1+q))))=mu O P C d (unitL O.length (i+(1+q))) (pvec P i))->Lv O P C i):=fun h1 h2 h3 h4=>by
  refine⟨fun j g1 g2=>?_,fun j k g1 g2 g3=>?_,?_,fun j g1 g2=>?_⟩
  ·have:=h1 (j-i-1) (by omega);rw[show i+(1+(j-i-1))=j by omega]at this;rw[ed];exact this
  ·have:=h2 (j-i-1) (k-j-1) (by omega);rw[show i+(1+(j-i-1))=j by omega,show i+(1+(j-i-1+(1+(k-j-1))))=k by omega]at this;rw[ed];exact this
  ·rw[ed];exact h3
  ·have:=h4 (j-i-1) (by omega);rw[show i+(1+(j-i-1))=j by omega]at this;rw[ed];exact this
 obtain⟨⟨w0,a0,rfl⟩,⟨w1,a1,rP,rfl,hP⟩,⟨w3,a3,rC,rfl,hC⟩⟩:=hR;obtain⟨w5,a5,rs,bB,dO⟩:=cvRow s hC aH;have cn:i<C.length:=by rw[s.cl];exact aH
 have dd:i<P.length:=by rw[s.pl];exact aH
 refine zA.gh ?_;have fin:∀{f0 f1 f2 f3:Int} {σ':PHeap},(f0=0↔Lv O P C i)->Keep σ σ'->Gh σ K (.agg [.int .i64 f0,.int .i64 f1,.int .i64 f2,.int .i64 f3]) σ':=fun h k=>Gh.fin0 k ⟨trivial,trivial,trivial,trivial,trivial⟩ (hk _ _ _ _ h)
 have no:∀{f0:Int},f0≠0->¬Lv O P C i->(f0=0↔Lv O P C i):=fun h g=>⟨fun x=>absurd x h,fun x=>absurd x g⟩
 refine qB mix Tryz.func204 ?_;simp only[Z3,seval,-ah];have aq:∀cs:List PV,Keep σ ((σ.new [.fz w0 a0 O.length (pis O),.fz w1 a1 P.length rP,.fz w3 a3 C.length rC]).new cs):=fun cs=>(zD σ _).new _
 have dS:IntKind.i64.wrap ((i:Int)+1)=((i+1:Nat):Int):=wrapS aH (by omega)
 -- first condition
 simp only[Z3,seval,-ah,dS];refine zC (fun m vs h'=>∃q:Nat,q<=d∧m=d-q∧vs=[.int .i64 i,.ptr σ.next 0,.ptr (σ.next+1) 0,.int .i64 O.length,.int .i64 i,.int .i64 ((i+(1+q):Nat):Int)]∧
  h'=(σ.new [.fz w0 a0 O.length (pis O),.fz w1 a1 P.length rP,.fz w3 a3 C.length rC]).new [.int .i64 0,.int .i64 0,.int .i64 0,.int .i64 0]∧∀q',q'<q->pw (mu O P C d) (zv O) (cvec C i (i+(1+q'))) (nx O (i+(1+q')))=Grp.img O C (mu O P C d) i (pvec P (i+(1+q')))) d ?_ ?_
 ·exact⟨0,by omega,by omega,rfl,rfl,fun q h=>by omega⟩
 rintro m vs h' ⟨q,hq,rfl,rfl,rfl,aj⟩
 simp only[Z3,seval,-ah];refine iteI (fun ai=>?_) fun aE=>?_
 ·have c6:i+(1+q)<O.length:=by omega
  have oF:i+(1+q)<P.length:=by rw[s.pl];exact c6
  obtain⟨w6,a6,cZ⟩:=dO q (by omega)
  obtain⟨w7,a7,cE⟩:=pvRow s hP c6;have dD:q<O.length-1-i:=by omega
  have bm:=s.cj i (i+(1+q)) (by omega) (by omega)
  have bM:=s.pw (i+(1+q)) c6;have hO:=s.pr _ c6;have e3:IntKind.i64.wrap (((i+(1+q):Nat):Int)-(i:Int))=((1+q:Nat):Int):=by rw[wrap64 (by omega) (by omega)];omega
  have e4:IntKind.i64.wrap (((1+q:Nat):Int)-1)=(q:Int):=by rw[wrap64 (by omega) (by omega)];omega
  have e5:IntKind.i64.wrap (((i+(1+q):Nat):Int)+1)=((i+(1+(q+1)):Nat):Int):=by rw[wrap64 (by omega) (by omega)];omega
  simp only[Z3,seval,-ah,dS,cn,bB,e3,e4,dD,cZ,c6,pisAt c6];refine zAT s (by omega) fG M aV bm (FI.mk bm.len) (by omega) fun v hv=>?_
  simp only[Z3,seval,-ah,dS,cn,bB,e3,e4,dD,cZ,c6,pisAt c6,oF,cE];refine Zu s (by omega) fG aV (bM.mono (Nat.zero_le _)) (FI.mk bM.len) fun v2 bu=>?_
  obtain⟨w8,a8,rfl⟩:=hv;obtain⟨w9,a9,rfl⟩:=bu;simp only[Z3,seval,-ah,oF,cE];refine qw rfl rfl (by have:=(M.pw bm (at_ O (i+(1+q))).toNat).len;omega) ?_
  by_cases he:pw (mu O P C d) (zv O) (cvec C i (i+(1+q))) (nx O (i+(1+q)))=Grp.img O C (mu O P C d) i (pvec P (i+(1+q)))
  ·simp only[Z3,seval,-ah,eq_true he,e5]
   refine⟨_,by omega,q+1,by omega,rfl,rfl,fun q' h=>?_⟩
   by_cases e:q'=q
   ·subst e;exact he
   ·exact aj q' (by omega)
  ·simp only[Z3,seval,-ah,he]
   exact fin (no (by decide) fun L=>he (by have:=L.pow (i+(1+q)) (by omega) c6;rwa[ed]at this)) (aq _)
 have mN:q=d:=by omega
 subst mN
 -- second condition
 simp only[Z3,seval,-ah,dS];refine zC (fun m vs h'=>∃q':Nat,q'<=q∧m=q-q'∧vs=[.int .i64 i,.ptr σ.next 0,.ptr (σ.next+1) 0,.int .i64 O.length,.int .i64 i,.int .i64 ((i+(1+q'):Nat):Int)]∧
  h'=(σ.new [.fz w0 a0 O.length (pis O),.fz w1 a1 P.length rP,.fz w3 a3 C.length rC]).new [.int .i64 0,.int .i64 0,.int .i64 0,.int .i64 0]∧
  ∀t r,t<q'->t+(1+r)<q->mu O P C q (cvec C i (i+(1+(t+(1+r))))) (cvec C i (i+(1+t)))=mu O P C q (cvec C i (i+(1+t))) (Grp.img O C (mu O P C q) i (cvec C (i+(1+t)) (i+(1+(t+(1+r))))))) q ?_ ?_
 ·exact⟨0,by omega,by omega,rfl,rfl,fun t r h=>by omega⟩
 rintro m vs h' ⟨t,ht,rfl,rfl,rfl,bw⟩
 simp only[Z3,seval,-ah];refine iteI (fun ai=>?_) fun aE=>?_
 ·have c6:i+(1+t)<O.length:=by omega
  have mR:i+(1+t)<C.length:=by rw[s.cl];exact c6
  obtain⟨w6,a6,cZ⟩:=dO t (by omega)
  obtain⟨w7,a7,B6,gl,nQ⟩:=cvRow s hC c6;have dD:t<O.length-1-i:=by omega
  have bm:=s.cj i (i+(1+t)) (by omega) (by omega)
  have e3:IntKind.i64.wrap (((i+(1+t):Nat):Int)-(i:Int))=((1+t:Nat):Int):=by rw[wrap64 (by omega) (by omega)];omega
  have e4:IntKind.i64.wrap (((1+t:Nat):Int)-1)=(t:Int):=by rw[wrap64 (by omega) (by omega)];omega
  have e5:IntKind.i64.wrap (((i+(1+t):Nat):Int)+1)=((i+(1+(t+1)):Nat):Int):=by rw[wrap64 (by omega) (by omega)];omega
  simp only[Z3,seval,-ah,e5];refine zC (fun m vs h'=>∃r:Nat,t+(1+r)<=q∧m=q-(t+(1+r))∧vs=[.int .i64 i,.ptr σ.next 0,.ptr (σ.next+1) 0,.int .i64 O.length,.int .i64 i,.int .i64 ((i+(1+t):Nat):Int),.int .i64 ((i+(1+(t+(1+r))):Nat):Int)]∧
   h'=(σ.new [.fz w0 a0 O.length (pis O),.fz w1 a1 P.length rP,.fz w3 a3 C.length rC]).new [.int .i64 0,.int .i64 0,.int .i64 0,.int .i64 0]∧
   ∀r',r'<r->t+(1+r')<q->mu O P C q (cvec C i (i+(1+(t+(1+r'))))) (cvec C i (i+(1+t)))=mu O P C q (cvec C i (i+(1+t))) (Grp.img O C (mu O P C q) i (cvec C (i+(1+t)) (i+(1+(t+(1+r'))))))) (q-(t+1)) ?_ ?_
  ·exact⟨0,by omega,by omega,rfl,rfl,fun r' h=>by omega⟩
  rintro m vs h' ⟨r,hr,rfl,rfl,rfl,h9⟩
  simp only[Z3,seval,-ah];refine iteI (fun aI=>?_) fun gv=>?_
  ·have lH:i+(1+(t+(1+r)))<O.length:=by omega
   obtain⟨w8,a8,kx⟩:=dO (t+(1+r)) (by omega)
   obtain⟨w9,a9,iJ⟩:=nQ r (by omega)
   rw[show i+(1+t)+(1+r)=i+(1+(t+(1+r))) by omega]at iJ
   have jE:=s.cj i (i+(1+(t+(1+r)))) (by omega) lH
   have kW:=s.cj (i+(1+t)) (i+(1+(t+(1+r)))) (by omega) lH
   have ee:t+(1+r)<O.length-1-i:=by omega
   have kL:r<O.length-1-(i+(1+t)):=by omega
   have f3:IntKind.i64.wrap (((i+(1+(t+(1+r))):Nat):Int)-(i:Int))=((1+(t+(1+r)):Nat):Int):=by rw[wrap64 (by omega) (by omega)];omega
   have f4:IntKind.i64.wrap (((1+(t+(1+r)):Nat):Int)-1)=((t+(1+r):Nat):Int):=by rw[wrap64 (by omega) (by omega)];omega
   have f5:IntKind.i64.wrap (((i+(1+(t+(1+r))):Nat):Int)+1)=((i+(1+(t+(1+(r+1)))):Nat):Int):=by rw[wrap64 (by omega) (by omega)];omega
   have f6:IntKind.i64.wrap (((i+(1+(t+(1+r))):Nat):Int)-((i+(1+t):Nat):Int))=((1+r:Nat):Int):=by rw[wrap64 (by omega) (by omega)];omega
   have f7:IntKind.i64.wrap (((1+r:Nat):Int)-1)=(r:Int):=by rw[wrap64 (by omega) (by omega)];omega
   simp only[Z3,seval,-ah,dS,cn,bB,e3,e4,f3,f4,f6,f7,dD,cZ,ee,kx,mR,gl,kL,iJ];refine Zu s (by omega) fG aV (kW.mono (Nat.zero_le _)) (FI.mk kW.len) fun v hv=>?_
   have hz:=QL s (i:=i) (m:=mu O P C q) (fun a b ha hb=>M.cl ha hb) (cvec C (i+(1+t)) (i+(1+(t+(1+r)))))
   simp only[Z3,seval,-ah,dS,cn,bB,e3,e4,f3,f4,f6,f7,dD,cZ,ee,kx,mR,gl,kL,iJ];refine fG aV jE bm (FI.mk jE.len) (FI.mk bm.len) fun v2 bu=>?_
   simp only[Z3,seval,-ah,dS];refine fG aV bm hz (FI.mk bm.len) hv fun v3 fE=>?_
   obtain⟨BQ,Er,rfl⟩:=bu;obtain⟨BP,Ep,rfl⟩:=fE;simp only[Z3,seval,-ah];refine qw rfl rfl (by have:=(M.cl jE bm).len;omega) ?_
   by_cases he:mu O P C q (cvec C i (i+(1+(t+(1+r))))) (cvec C i (i+(1+t)))=mu O P C q (cvec C i (i+(1+t))) (Grp.img O C (mu O P C q) i (cvec C (i+(1+t)) (i+(1+(t+(1+r))))))
   ·simp only[Z3,seval,-ah,eq_true he,f5]
    refine⟨_,by omega,r+1,by omega,rfl,rfl,fun r' h1 h2=>?_⟩
    by_cases e:r'=r
    ·subst e;exact he
    ·exact h9 r' (by omega) h2
   ·simp only[Z3,seval,-ah,he]
    exact fin (no (by decide) fun L=>he (by have:=L.cj (i+(1+t)) (i+(1+(t+(1+r)))) (by omega) (by omega) lH;rwa[ed]at this)) (aq _)
  ·simp only[Z3,seval,-ah,e5]
   refine⟨_,by omega,t+1,by omega,rfl,rfl,fun t' r' h1 h2=>?_⟩
   by_cases e:t'=t
   ·subst e;exact h9 r' (by omega) h2
   ·exact bw t' r' (by omega) h2
 -- third condition
 obtain⟨w6,a6,cE⟩:=pvRow s hP aH;have bM:=s.pw i aH;simp only[Z3,seval,-ah,dd,cE];refine Zu s (by omega) fG aV (bM.mono (Nat.zero_le _)) (FI.mk bM.len) fun v hv=>?_
 obtain⟨w7,a7,rfl⟩:=hv;simp only[Z3,seval,-ah];refine qw rfl bM.len.symm (by have:=(QL s (i:=i) (m:=mu O P C q) (fun a b ha hb=>M.cl ha hb) (pvec P i)).len;omega) ?_
 by_cases mh:Grp.img O C (mu O P C q) i (pvec P i)=pvec P i
 rotate_left
 ·simp only[Z3,seval,-ah,mh]
  exact fin (no (by decide) fun L=>mh (by have:=L.fix;rwa[ed]at this)) (aq _)
 simp only[Z3,seval,-ah,eq_true mh,dS]
 -- o8 condition
 refine zC (fun m vs h'=>∃q':Nat,q'<=q∧m=q-q'∧vs=[.int .i64 i,.ptr σ.next 0,.ptr (σ.next+1) 0,.int .i64 O.length,.int .i64 i,.fz w6 a6 O.length (pis (pvec P i)),.int .i64 ((i+(1+q'):Nat):Int)]∧
  h'=(σ.new [.fz w0 a0 O.length (pis O),.fz w1 a1 P.length rP,.fz w3 a3 C.length rC]).new [.int .i64 0,.int .i64 0,.int .i64 0,.int .i64 0]∧
  ∀t,t<q'->mu O P C q (pvec P i) (iter (Grp.img O C (mu O P C q) i) (nx O i) (unitL O.length (i+(1+t))))=mu O P C q (unitL O.length (i+(1+t))) (pvec P i)) q ?_ ?_
 ·exact⟨0,by omega,by omega,rfl,rfl,fun t h=>by omega⟩
 rintro m vs h' ⟨t,ht,rfl,rfl,rfl,h8⟩
 simp only[Z3,seval,-ah];refine iteI (fun ai=>?_) fun aE=>?_
 rotate_left
 ·exact fin ⟨fun _=>yes aj (fun t' r' h=>bw t' r' (by omega) h) mh (fun t' h=>h8 t' (by omega)),fun _=>rfl⟩ (aq _)
 have c6:i+(1+t)<O.length:=by omega
 have hO:=s.pr i aH;have e5:IntKind.i64.wrap (((i+(1+t):Nat):Int)+1)=((i+(1+(t+1)):Nat):Int):=by rw[wrap64 (by omega) (by omega)];omega
 have uu:TT O (i+1) (unitL O.length (i+(1+t))):=s.unit c6 (by omega)
 simp only[Z3,seval,-ah];refine zI3 (by omega) c6 fun v hv=>?_
 simp only[Z3,seval,-ah];refine zC (fun m vs h'=>∃(k:Nat) (v2:PV) (A:List Int),k<=nx O i∧m=nx O i-k∧vs=[.int .i64 i,.ptr σ.next 0,.ptr (σ.next+1) 0,.int .i64 O.length,.int .i64 i,.fz w6 a6 O.length (pis (pvec P i)),.int .i64 ((i+(1+t):Nat):Int),v,v2,.int .i64 k]∧
  h'=(σ.new [.fz w0 a0 O.length (pis O),.fz w1 a1 P.length rP,.fz w3 a3 C.length rC]).new [.int .i64 0,.int .i64 0,.int .i64 0,.int .i64 0]∧FI v2 A∧TT O (i+1) A∧iter (Grp.img O C (mu O P C q) i) (nx O i-k) A=iter (Grp.img O C (mu O P C q) i) (nx O i) (unitL O.length (i+(1+t)))) (nx O i) ?_ ?_
 ·exact⟨0,v,_,by omega,by omega,rfl,rfl,hv,uu,rfl⟩
 rintro m vs h' ⟨k,v2,A,eC,rfl,rfl,rfl,bu,hA,hit⟩
 have cA:((nx O i:Nat):Int)=at_ O i:=Int.toNat_of_nonneg (by omega)
 simp only[Z3,seval,-ah,pisAt aH,aH];refine iteI (fun aI=>?_) fun gv=>?_
 ·have cP:k<nx O i:=by omega
  refine Zu s (by omega) fG aV (hA.mono (Nat.zero_le _)) bu fun v3 fE=>?_
  simp only[Z3,seval,-ah,wrapS cP (by omega:nx O i<=4611686018427387904)]
  refine⟨_,by omega,k+1,v3,_,by omega,rfl,rfl,fE,QL s (fun a b ha hb=>M.cl ha hb) _,?_⟩
  rw[show nx O i-k=(nx O i-(k+1))+1 by omega]at hit
  exact hit
 have eP:k=nx O i:=by omega
 subst eP;rw[Nat.sub_self]at hit
 have tN:A=iter (Grp.img O C (mu O P C q) i) (nx O i) (unitL O.length (i+(1+t))):=hit;subst tN;simp only[Z3,seval,-ah,dS];refine fG aV bM hA (FI.mk bM.len) bu fun v3 fE=>?_
 simp only[Z3,seval,-ah,dS];refine fG aV uu bM hv (FI.mk bM.len) fun v4 ur=>?_
 obtain⟨w8,a8,rfl⟩:=fE;obtain⟨w9,a9,rfl⟩:=ur;simp only[Z3,seval,-ah];refine qw rfl rfl (by have:=(M.cl bM hA).len;omega) ?_
 by_cases he:mu O P C q (pvec P i) (iter (Grp.img O C (mu O P C q) i) (nx O i) (unitL O.length (i+(1+t))))=mu O P C q (unitL O.length (i+(1+t))) (pvec P i)
 ·simp only[Z3,seval,-ah,eq_true he,e5]
  refine⟨_,by omega,t+1,by omega,rfl,rfl,fun t' h=>?_⟩
  by_cases e:t'=t
  ·subst e;exact he
  ·exact h8 t' (by omega)
 ·simp only[Z3,seval,-ah,he]
  exact fin (no (by decide) fun L=>he (by have:=L.inn (i+(1+t)) (by omega) c6;rwa[ed]at this)) (aq _)
end Go.Proofs
namespace Go.Proofs
open Go.Ab Go.Lie Go.Grp
variable{σ:PHeap}{K:PV->PHeap->Prop}{O:List Int}{P:List (List Int)}{C:List (List (List Int))}{vO vP vC:PV}{s:Nat}{x:List Int}{rP rC:List PV}
theorem zHg(s:Shp O P C)(hR:IsPr vO vP vC O P C)
  (hk:∀f0 f1 f2 f3:Int,(f0=0↔Cons O P C)->K (.agg [.int .i64 f0,.int .i64 f1,.int .i64 f2,.int .i64 f3]) σ):zA Tryz.prog 156 [.agg [vO,vP,vC]] σ K:=by
 have bJ:=s.le;have aV:=hR;obtain⟨⟨w0,a0,rfl⟩,⟨w1,a1,rP,rfl,hP⟩,⟨w3,a3,rC,rfl,hC⟩⟩:=hR;refine zA.gh ?_;have fin:∀{f0 f1 f2 f3:Int} {σ':PHeap},(f0=0↔Cons O P C)->Keep σ σ'->Gh σ K (.agg [.int .i64 f0,.int .i64 f1,.int .i64 f2,.int .i64 f3]) σ':=fun h k=>Gh.fin0 k ⟨trivial,trivial,trivial,trivial,trivial⟩ (hk _ _ _ _ h)
 have Cz:IntKind.i64.wrap ((O.length:Int)-1)=(O.length:Int)-1:=wrap64 (by omega) (by omega)
 refine zB mix Tryz.func156 ?_;simp only[Z3,seval,-ah,Cz];refine zC (fun m vs h'=>∃k:Nat,k<=O.length∧m=k∧vs=[.ptr σ.next 0,.ptr (σ.next+1) 0,.int .i64 ((k:Int)-1)]∧Keep ((σ.new [.fz w0 a0 O.length (pis O),.fz w1 a1 P.length rP,.fz w3 a3 C.length rC]).new [.int .i64 0,.int .i64 0,.int .i64 0,.int .i64 0]) h'∧∀j,k<=j->j<O.length->Lv O P C j) O.length ?_ ?_
 ·exact⟨O.length,vM _,rfl,rfl,Keep.refl _,fun j h1 h2=>by omega⟩
 rintro m vs h' ⟨k,lH,rfl,rfl,dI,aj⟩
 have aq:Keep σ h':=((zD σ _).new _).trans dI;have jg:σ.next+2<=h'.next:=dI.next;have sS:h'.obj σ.next=some [.fz w0 a0 O.length (pis O),.fz w1 a1 P.length rP,.fz w3 a3 C.length rC]:=by rw[dI.obj _ (by simp[PHeap.new];omega)];simp[PHeap.new]
 have sR:h'.obj (σ.next+1)=some [.int .i64 0,.int .i64 0,.int .i64 0,.int .i64 0]:=by rw[dI.obj _ (by simp[PHeap.new])];simp[PHeap.new]
 have dY:h'.rd σ.next 0 3=some [.fz w0 a0 O.length (pis O),.fz w1 a1 P.length rP,.fz w3 a3 C.length rC]:=by simp[PHeap.rd,sS]
 have lz:∀f0 f1 f2 f3:Int,h'.wr (σ.next+1) 0 [.int .i64 f0,.int .i64 f1,.int .i64 f2,.int .i64 f3]=some (h'.set (σ.next+1) [.int .i64 f0,.int .i64 f1,.int .i64 f2,.int .i64 f3]):=fun f0 f1 f2 f3=>by
  have:∀cs:List PV,cs.length=4->cs.all PV.one=true->h'.wr (σ.next+1) 0 cs=some (h'.set (σ.next+1) cs):=fun cs hl ho=>by
   simp only[PHeap.wr,sR,Option.bind_some,ho,hl];simp[PHeap.set,List.drop_eq_nil_of_le,hl]
  exact this _ rfl rfl
 have xO:¬σ.next=h'.next:=by omega
 have n8:¬σ.next+1=h'.next:=by omega
 rcases Nat.eq_zero_or_pos m with rfl|bj
 ·simp only[Z3,seval,-ah,show ¬((0:Int)<=((0:Nat):Int)-1) by omega,lz]
  exact fin ⟨fun _ j hj=>aj j (Nat.zero_le _) hj,fun _=>rfl⟩ (aq.set (by omega) _)
 obtain⟨i,rfl⟩:∃i,m=i+1:=⟨m-1,by omega⟩
 have e:((i+1:Nat):Int)-1=(i:Int):=by omega
 rw[e];have aH:i<O.length:=lH;have jS:IntKind.i64.wrap ((i:Int)-1)=(i:Int)-1:=wrap64 (by omega) (by omega)
 have B:Beh O P C (O.length-(i+1)):=zKg s (by omega) fun j h1 h2=>aj j (by omega) h2
 simp only[Z3,seval,-ah,dY];refine zHf s (d:=O.length-(i+1)) (by omega) B aV fun f0 f1 f2 f3 hf=>?_
 simp only[Z3,seval,-ah];refine iteI (fun h0=>?_) fun h0=>?_
 ·simp only[Z3,seval,-ah,jS]
  refine⟨i,by omega,i,by omega,rfl,rfl,dI.new _,fun j h1 h2=>?_⟩
  by_cases e:j=i
  ·subst e;exact hf.1 h0
  ·exact aj j (by omega) h2
 ·simp only[Z3,seval,-ah,xO,n8,lz]
  exact fin ⟨fun h=>absurd h h0,fun h=>absurd (hf.2 (h i aH)) h0⟩ ((aq.set (by omega) _).new _)
theorem zDX(s:Shp O P C)(hR:IsPr vO vP vC O P C)(hk:∀t:Bool,(t=true↔Cons O P C)->K (.bool t) σ):zA Tryz.prog 106 [.agg [vO,vP,vC]] σ K:=by
 have h0:=hR.O.one;have h1:=hR.P.one;have h2:=hR.C.one;refine zA.gh ?_;refine zB mix Tryz.func106 ?_;simp only[Z3,seval,-ah,h0,h1,h2];refine zHg s hR fun f0 f1 f2 f3 hf=>?_
 simp only[Z3,seval,-ah];exact Gh.fin0 (zD σ _) trivial (hk _ (by rw[decide_eq_true_iff];exact hf))
theorem q9(hR:IsPr vO vP vC O P C)(sz:SzP O P C)(hk:∀t:Bool,(t=true↔zM O P C∧Cons O P C)->K (.bool t) σ):zA Tryz.prog 61 [.agg [vO,vP,vC]] σ K:=by
 have h0:=hR.O.one;have h1:=hR.P.one;have h2:=hR.C.one;have fl:∀{A:Prop},¬A->((false=true)↔A):=fun h=>⟨fun x=>(by cases x),fun x=>absurd x h⟩
 refine zA.gh ?_;refine zB mix Tryz.func61 ?_;simp only[Z3,seval,-ah,h0,h1,h2];refine QJ hR sz fun t ht=>?_
 cases t with
 |false=>
  simp only[Z3,seval,-ah];exact Gh.fin0 (zD σ _) trivial (hk _ (fl fun h=>by cases ht.2 h.1))
 |true=>
  have hp:=ht.1 rfl;simp only[Z3,seval,-ah,h0,h1,h2];refine zDX hp.shp hR fun t ht=>?_
  simp only[Z3,seval,-ah];exact Gh.fin0 (zD σ _) trivial (hk _ ⟨fun h=>⟨hp,ht.1 h⟩,fun h=>ht.2 h.2⟩)
end Go.Proofs
namespace Go.Proofs
open Go.Ab Go.Lie Go.Grp
variable{σ:PHeap}{K:PV->PHeap->Prop}{O:List Int}{P:List (List Int)}{C:List (List (List Int))}{vO vP vC:PV}{x a b:List Int}{rP rC:List PV}{d j sp:Nat}
theorem zFO(s:Shp O P C)(F:Full O P C d){i:Nat}(hi:O.length=d+(i+1))(hs:PtrG σ sp vO vP vC)(hR:IsPr vO vP vC O P C)
  (hk:∀f0 f1 f2 f3:Int,((f0=0∧f1=0∧f2=0∧f3=0∧Lv O P C i)∨(f0≠0∧¬Lv O P C i))->K (.agg [.int .i64 f0,.int .i64 f1,.int .i64 f2,.int .i64 f3]) σ):zA Tryz.prog 181 [.ptr sp 0,.int .i64 i] σ K:=by
 have bJ:=s.le;have aV:=hR;have aH:i<O.length:=by omega
 have M:=F.gp.toMon;have G:=F.gp;have iX:O.length-d=i+1:=by omega
 have ed:O.length-1-i=d:=by omega
 have aC:¬sp=σ.next:=Nat.ne_of_lt hs.lt;have mM:∀cs,PtrG (σ.new cs) sp vO vP vC:=fun cs=>hs.new cs
 have yes:((∀q,q<d->pw (mu O P C d) (zv O) (cvec C i (i+(1+q))) (nx O (i+(1+q)))=Grp.img O C (mu O P C d) i (pvec P (i+(1+q))))->
   (∀q r,q+(1+r)<d->mu O P C d (cvec C i (i+(1+(q+(1+r))))) (cvec C i (i+(1+q)))=mu O P C d (cvec C i (i+(1+q))) (Grp.img O C (mu O P C d) i (cvec C (i+(1+q)) (i+(1+(q+(1+r)))))))->
   Grp.img O C (mu O P C d) i (pvec P i)=pvec P i->
   (∀q,q<d->mu O P C d (pvec P i) (iter (Grp.img O C (mu O P C d) i) (nx O i) (unitL O.length (i+(1+q))))=mu O P C d (unitL O.length (i+(1+q))) (pvec P i))->Lv O P C i):=fun h1 h2 h3 h4=>by
  refine⟨fun j g1 g2=>?_,fun j k g1 g2 g3=>?_,?_,fun j g1 g2=>?_⟩
  ·have:=h1 (j-i-1) (by omega);rw[show i+(1+(j-i-1))=j by omega]at this;rw[ed];exact this
  ·have:=h2 (j-i-1) (k-j-1) (by omega);rw[show i+(1+(j-i-1))=j by omega,show i+(1+(j-i-1+(1+(k-j-1))))=k by omega]at this;rw[ed];exact this
  ·rw[ed];exact h3
  ·have:=h4 (j-i-1) (by omega);rw[show i+(1+(j-i-1))=j by omega]at this;rw[ed];exact this
 have nA:∀x,TT O (O.length-d) (Grp.img O C (mu O P C d) i x):=fun x=>by
  rw[iX];exact QL s (fun a b ha hb=>by have:=M.cl (a:=a) (b:=b) (by rw[iX];exact ha) (by rw[iX];exact hb);rwa[iX]at this) x
 obtain⟨⟨w0,a0,rfl⟩,⟨w1,a1,rP,rfl,hP⟩,⟨w3,a3,rC,rfl,hC⟩⟩:=hR;obtain⟨w5,a5,rs,bB,dO⟩:=cvRow s hC aH;have cn:i<C.length:=by rw[s.cl];exact aH
 have dd:i<P.length:=by rw[s.pl];exact aH
 have e0:σ.rd1 sp 0=some (.fz w0 a0 O.length (pis O)):=by rw[zF hs.obj];rfl
 have e1:σ.rd1 sp 1=some (.fz w1 a1 P.length rP):=by rw[zF hs.obj];rfl
 have e2:σ.rd1 sp 2=some (.fz w3 a3 C.length rC):=by rw[zF hs.obj];rfl
 refine zA.gh ?_;have fin:∀{f0 f1 f2 f3:Int} {σ':PHeap},((f0=0∧f1=0∧f2=0∧f3=0∧Lv O P C i)∨(f0≠0∧¬Lv O P C i))->Keep σ σ'->Gh σ K (.agg [.int .i64 f0,.int .i64 f1,.int .i64 f2,.int .i64 f3]) σ':=fun h k=>Gh.fin0 k ⟨trivial,trivial,trivial,trivial,trivial⟩ (hk _ _ _ _ h)
 have no:∀{f0 f1 f2 f3:Int},f0≠0->¬Lv O P C i->((f0=0∧f1=0∧f2=0∧f3=0∧Lv O P C i)∨(f0≠0∧¬Lv O P C i)):=fun h g=>.inr ⟨h,g⟩
 have aq:∀cs:List PV,Keep σ (σ.new cs):=fun cs=>zD σ _
 have dS:IntKind.i64.wrap ((i:Int)+1)=((i+1:Nat):Int):=wrapS aH (by omega)
 refine qB mix Tryz.func181 ?_;simp only[Z3,seval,-ah,e0,aC]
 -- first condition
 simp only[Z3,seval,-ah,dS];refine zC (fun m vs h'=>∃q:Nat,q<=d∧m=d-q∧vs=[.ptr sp 0,.int .i64 i,.ptr σ.next 0,.int .i64 O.length,.int .i64 i,.int .i64 ((i+(1+q):Nat):Int)]∧
  h'=σ.new [.int .i64 0,.int .i64 0,.int .i64 0,.int .i64 0]∧∀q',q'<q->pw (mu O P C d) (zv O) (cvec C i (i+(1+q'))) (nx O (i+(1+q')))=Grp.img O C (mu O P C d) i (pvec P (i+(1+q')))) d ?_ ?_
 ·exact⟨0,by omega,by omega,rfl,rfl,fun q h=>by omega⟩
 rintro m vs h' ⟨q,hq,rfl,rfl,rfl,aj⟩
 simp only[Z3,seval,-ah];refine iteI (fun ai=>?_) fun aE=>?_
 ·have c6:i+(1+q)<O.length:=by omega
  have oF:i+(1+q)<P.length:=by rw[s.pl];exact c6
  obtain⟨w6,a6,cZ⟩:=dO q (by omega)
  obtain⟨w7,a7,cE⟩:=pvRow s hP c6;have dD:q<O.length-1-i:=by omega
  have bm:=s.cj i (i+(1+q)) (by omega) (by omega)
  have kX:TT O (O.length-d) (cvec C i (i+(1+q))):=by rw[iX];exact bm
  have bM:=s.pw (i+(1+q)) c6;have hO:=s.pr _ c6;have e3:IntKind.i64.wrap (((i+(1+q):Nat):Int)-(i:Int))=((1+q:Nat):Int):=by rw[wrap64 (by omega) (by omega)];omega
  have e4:IntKind.i64.wrap (((1+q:Nat):Int)-1)=(q:Int):=by rw[wrap64 (by omega) (by omega)];omega
  have e5:IntKind.i64.wrap (((i+(1+q):Nat):Int)+1)=((i+(1+(q+1)):Nat):Int):=by rw[wrap64 (by omega) (by omega)];omega
  simp only[Z3,seval,-ah,e0,e1,e2,aC,dS,cn,bB,e3,e4,dD,cZ,c6,pisAt c6,oF,cE];refine zDR s F (mM _) aV kX (FI.mk bm.len) (by omega) fun v hv=>?_
  simp only[Z3,seval,-ah,e0,e1,e2,aC,dS,cn,bB,e3,e4,dD,cZ,c6,pisAt c6,oF,cE];refine Q0 s F hi (mM _) aV (bM.mono (Nat.zero_le _)) (FI.mk bM.len) fun v2 bu=>?_
  obtain⟨w8,a8,rfl⟩:=hv;obtain⟨w9,a9,rfl⟩:=bu;simp only[Z3,seval,-ah];refine Qc rfl rfl (by have:=(M.pw kX (at_ O (i+(1+q))).toNat).len;omega) ?_
  by_cases he:pw (mu O P C d) (zv O) (cvec C i (i+(1+q))) (nx O (i+(1+q)))=Grp.img O C (mu O P C d) i (pvec P (i+(1+q)))
  ·simp only[Z3,seval,-ah,eq_true he,e5]
   refine⟨_,by omega,q+1,by omega,rfl,rfl,fun q' h=>?_⟩
   by_cases e:q'=q
   ·subst e;exact he
   ·exact aj q' (by omega)
  ·simp only[Z3,seval,-ah,he]
   exact fin (no (by decide) fun L=>he (by have:=L.pow (i+(1+q)) (by omega) c6;rwa[ed]at this)) (aq _)
 have mN:q=d:=by omega
 subst mN
 -- second condition
 simp only[Z3,seval,-ah,dS];refine zC (fun m vs h'=>∃q':Nat,q'<=q∧m=q-q'∧vs=[.ptr sp 0,.int .i64 i,.ptr σ.next 0,.int .i64 O.length,.int .i64 i,.int .i64 ((i+(1+q'):Nat):Int)]∧
  h'=σ.new [.int .i64 0,.int .i64 0,.int .i64 0,.int .i64 0]∧
  ∀t r,t<q'->t+(1+r)<q->mu O P C q (cvec C i (i+(1+(t+(1+r))))) (cvec C i (i+(1+t)))=mu O P C q (cvec C i (i+(1+t))) (Grp.img O C (mu O P C q) i (cvec C (i+(1+t)) (i+(1+(t+(1+r))))))) q ?_ ?_
 ·exact⟨0,by omega,by omega,rfl,rfl,fun t r h=>by omega⟩
 rintro m vs h' ⟨t,ht,rfl,rfl,rfl,bw⟩
 simp only[Z3,seval,-ah];refine iteI (fun ai=>?_) fun aE=>?_
 ·have c6:i+(1+t)<O.length:=by omega
  have mR:i+(1+t)<C.length:=by rw[s.cl];exact c6
  obtain⟨w6,a6,cZ⟩:=dO t (by omega)
  obtain⟨w7,a7,B6,gl,nQ⟩:=cvRow s hC c6;have dD:t<O.length-1-i:=by omega
  have bm:=s.cj i (i+(1+t)) (by omega) (by omega)
  have kX:TT O (O.length-q) (cvec C i (i+(1+t))):=by rw[iX];exact bm
  have e3:IntKind.i64.wrap (((i+(1+t):Nat):Int)-(i:Int))=((1+t:Nat):Int):=by rw[wrap64 (by omega) (by omega)];omega
  have e4:IntKind.i64.wrap (((1+t:Nat):Int)-1)=(t:Int):=by rw[wrap64 (by omega) (by omega)];omega
  have e5:IntKind.i64.wrap (((i+(1+t):Nat):Int)+1)=((i+(1+(t+1)):Nat):Int):=by rw[wrap64 (by omega) (by omega)];omega
  simp only[Z3,seval,-ah,e5];refine zC (fun m vs h'=>∃r:Nat,t+(1+r)<=q∧m=q-(t+(1+r))∧vs=[.ptr sp 0,.int .i64 i,.ptr σ.next 0,.int .i64 O.length,.int .i64 i,.int .i64 ((i+(1+t):Nat):Int),.int .i64 ((i+(1+(t+(1+r))):Nat):Int)]∧
   h'=σ.new [.int .i64 0,.int .i64 0,.int .i64 0,.int .i64 0]∧
   ∀r',r'<r->t+(1+r')<q->mu O P C q (cvec C i (i+(1+(t+(1+r'))))) (cvec C i (i+(1+t)))=mu O P C q (cvec C i (i+(1+t))) (Grp.img O C (mu O P C q) i (cvec C (i+(1+t)) (i+(1+(t+(1+r'))))))) (q-(t+1)) ?_ ?_
  ·exact⟨0,by omega,by omega,rfl,rfl,fun r' h=>by omega⟩
  rintro m vs h' ⟨r,hr,rfl,rfl,rfl,h9⟩
  simp only[Z3,seval,-ah];refine iteI (fun aI=>?_) fun gv=>?_
  ·have lH:i+(1+(t+(1+r)))<O.length:=by omega
   obtain⟨w8,a8,kx⟩:=dO (t+(1+r)) (by omega)
   obtain⟨w9,a9,iJ⟩:=nQ r (by omega)
   rw[show i+(1+t)+(1+r)=i+(1+(t+(1+r))) by omega]at iJ
   have jE:=s.cj i (i+(1+(t+(1+r)))) (by omega) lH
   have tz:TT O (O.length-q) (cvec C i (i+(1+(t+(1+r))))):=by rw[iX];exact jE
   have kW:=s.cj (i+(1+t)) (i+(1+(t+(1+r)))) (by omega) lH
   have ee:t+(1+r)<O.length-1-i:=by omega
   have kL:r<O.length-1-(i+(1+t)):=by omega
   have f3:IntKind.i64.wrap (((i+(1+(t+(1+r))):Nat):Int)-(i:Int))=((1+(t+(1+r)):Nat):Int):=by rw[wrap64 (by omega) (by omega)];omega
   have f4:IntKind.i64.wrap (((1+(t+(1+r)):Nat):Int)-1)=((t+(1+r):Nat):Int):=by rw[wrap64 (by omega) (by omega)];omega
   have f5:IntKind.i64.wrap (((i+(1+(t+(1+r))):Nat):Int)+1)=((i+(1+(t+(1+(r+1)))):Nat):Int):=by rw[wrap64 (by omega) (by omega)];omega
   have f6:IntKind.i64.wrap (((i+(1+(t+(1+r))):Nat):Int)-((i+(1+t):Nat):Int))=((1+r:Nat):Int):=by rw[wrap64 (by omega) (by omega)];omega
   have f7:IntKind.i64.wrap (((1+r:Nat):Int)-1)=(r:Int):=by rw[wrap64 (by omega) (by omega)];omega
   simp only[Z3,seval,-ah,e0,e1,e2,aC,dS,cn,bB,e3,e4,f3,f4,f6,f7,dD,cZ,ee,kx,mR,gl,kL,iJ];refine QO s F (mM _) aV tz kX (FI.mk jE.len) (FI.mk bm.len) fun v z fR eJ hv=>?_
   simp only[Z3,seval,-ah,e0,e1,e2,aC,dS,cn,bB,e3,e4,f3,f4,f6,f7,dD,cZ,ee,kx,mR,gl,kL,iJ];refine Q0 s F hi (mM _) aV (kW.mono (Nat.zero_le _)) (FI.mk kW.len) fun v2 bu=>?_
   have hz:=nA (cvec C (i+(1+t)) (i+(1+(t+(1+r)))));obtain⟨BQ,Er,rfl⟩:=hv;obtain⟨BP,Ep,rfl⟩:=bu;simp only[Z3,seval,-ah];refine Qc rfl rfl (by have:=fR.len;omega) ?_
   by_cases he:z=Grp.img O C (mu O P C q) i (cvec C (i+(1+t)) (i+(1+(t+(1+r)))))
   ·simp only[Z3,seval,-ah,eq_true he,f5]
    refine⟨_,by omega,r+1,by omega,rfl,rfl,fun r' h1 h2=>?_⟩
    by_cases e:r'=r
    ·subst e;rw[<-he];exact eJ.symm
    ·exact h9 r' (by omega) h2
   ·simp only[Z3,seval,-ah,he]
    exact fin (no (by decide) fun L=>he (by
     have:=L.cj (i+(1+t)) (i+(1+(t+(1+r)))) (by omega) (by omega) lH
     rw[ed]at this
     exact G.cancel kX fR hz (eJ.trans this))) (aq _)
  ·simp only[Z3,seval,-ah,e5]
   refine⟨_,by omega,t+1,by omega,rfl,rfl,fun t' r' h1 h2=>?_⟩
   by_cases e:t'=t
   ·subst e;exact h9 r' (by omega) h2
   ·exact bw t' r' (by omega) h2
 -- third condition
 obtain⟨w6,a6,cE⟩:=pvRow s hP aH;have bM:=s.pw i aH;have sK:TT O (O.length-q) (pvec P i):=by rw[iX];exact bM
 simp only[Z3,seval,-ah,e1,aC,dd,cE];refine Q0 s F hi (mM _) aV (bM.mono (Nat.zero_le _)) (FI.mk bM.len) fun v hv=>?_
 obtain⟨w7,a7,rfl⟩:=hv;simp only[Z3,seval,-ah];refine Qc rfl bM.len.symm (by have:=(nA (pvec P i)).len;omega) ?_
 by_cases mh:Grp.img O C (mu O P C q) i (pvec P i)=pvec P i
 rotate_left
 ·simp only[Z3,seval,-ah,mh]
  exact fin (no (by decide) fun L=>mh (by have:=L.fix;rwa[ed]at this)) (aq _)
 simp only[Z3,seval,-ah,eq_true mh,dS]
 -- o8 condition
 refine zC (fun m vs h'=>∃q':Nat,q'<=q∧m=q-q'∧vs=[.ptr sp 0,.int .i64 i,.ptr σ.next 0,.int .i64 O.length,.int .i64 i,.fz w6 a6 O.length (pis (pvec P i)),.int .i64 ((i+(1+q'):Nat):Int)]∧
  h'=σ.new [.int .i64 0,.int .i64 0,.int .i64 0,.int .i64 0]∧
  ∀t,t<q'->mu O P C q (pvec P i) (iter (Grp.img O C (mu O P C q) i) (nx O i) (unitL O.length (i+(1+t))))=mu O P C q (unitL O.length (i+(1+t))) (pvec P i)) q ?_ ?_
 ·exact⟨0,by omega,by omega,rfl,rfl,fun t h=>by omega⟩
 rintro m vs h' ⟨t,ht,rfl,rfl,rfl,h8⟩
 simp only[Z3,seval,-ah];refine iteI (fun ai=>?_) fun aE=>?_
 rotate_left
 ·exact fin (.inl ⟨rfl,rfl,rfl,rfl,yes aj (fun t' r' h=>bw t' r' (by omega) h) mh (fun t' h=>h8 t' (by omega))⟩) (aq _)
 have c6:i+(1+t)<O.length:=by omega
 have hO:=s.pr i aH;have e5:IntKind.i64.wrap (((i+(1+t):Nat):Int)+1)=((i+(1+(t+1)):Nat):Int):=by rw[wrap64 (by omega) (by omega)];omega
 have uu:TT O (i+1) (unitL O.length (i+(1+t))):=s.unit c6 (by omega)
 have sr:TT O (O.length-q) (unitL O.length (i+(1+t))):=by rw[iX];exact uu
 simp only[Z3,seval,-ah];refine Qu (by omega) c6 fun av=>?_
 simp only[Z3,seval,-ah,e0,aC,aH,pisAt aH];refine zC (fun m vs h'=>∃(k:Nat) (v2:PV) (A:List Int),k<=nx O i∧m=nx O i-k∧vs=[.ptr sp 0,.int .i64 i,.ptr σ.next 0,.int .i64 O.length,.int .i64 i,.fz w6 a6 O.length (pis (pvec P i)),.int .i64 ((i+(1+t):Nat):Int),v2,.int .i64 (at_ O i),.int .i64 k]∧
  h'=σ.new [.int .i64 0,.int .i64 0,.int .i64 0,.int .i64 0]∧FI v2 A∧TT O (O.length-q) A∧iter (Grp.img O C (mu O P C q) i) (nx O i-k) A=iter (Grp.img O C (mu O P C q) i) (nx O i) (unitL O.length (i+(1+t)))) (nx O i) ?_ ?_
 ·exact⟨0,.fz true av O.length (pis (unitL O.length (i+(1+t)))),_,by omega,by omega,rfl,rfl,FI.mk (zAE _ _),sr,rfl⟩
 rintro m vs h' ⟨k,v2,A,eC,rfl,rfl,rfl,bu,hA,hit⟩
 have cA:((nx O i:Nat):Int)=at_ O i:=Int.toNat_of_nonneg (by omega)
 simp only[Z3,seval,-ah];refine iteI (fun aI=>?_) fun gv=>?_
 ·have cP:k<nx O i:=by omega
  refine Q0 s F hi (mM _) aV (hA.mono (Nat.zero_le _)) bu fun v3 fE=>?_
  simp only[Z3,seval,-ah,wrapS cP (by omega:nx O i<=4611686018427387904)]
  refine⟨_,by omega,k+1,v3,_,by omega,rfl,rfl,fE,nA _,?_⟩
  rw[show nx O i-k=(nx O i-(k+1))+1 by omega]at hit
  exact hit
 have eP:k=nx O i:=by omega
 subst eP;rw[Nat.sub_self]at hit
 have tN:A=iter (Grp.img O C (mu O P C q) i) (nx O i) (unitL O.length (i+(1+t))):=hit;subst tN;simp only[Z3,seval,-ah];refine Qu (by omega) c6 fun Fl=>?_
 simp only[Z3,seval,-ah];refine QO s F (mM _) aV sr sK (FI.mk (zAE _ _)) (FI.mk bM.len) fun v z fR eJ hv=>?_
 obtain⟨w8,a8,rfl⟩:=bu;obtain⟨w9,a9,rfl⟩:=hv;simp only[Z3,seval,-ah];refine Qc rfl rfl (by have:=hA.len;omega) ?_
 by_cases he:iter (Grp.img O C (mu O P C q) i) (nx O i) (unitL O.length (i+(1+t)))=z
 ·simp only[Z3,seval,-ah,eq_true he,e5]
  refine⟨_,by omega,t+1,by omega,rfl,rfl,fun t' h=>?_⟩
  by_cases e:t'=t
  ·subst e;rw[he];exact eJ
  ·exact h8 t' (by omega)
 ·simp only[Z3,seval,-ah,he]
  exact fin (no (by decide) fun L=>he (by
   have:=L.inn (i+(1+t)) (by omega) c6
   rw[ed]at this
   exact G.cancel sK hA fR (this.trans eJ.symm))) (aq _)
end Go.Proofs
namespace Go.Proofs
open Go.Ab Go.Lie Go.Grp
variable{σ:PHeap}{K:PV->PHeap->Prop}{O:List Int}{P:List (List Int)}{C:List (List (List Int))}{vO vP vC:PV}{x:List Int}{rP rC:List PV}{j sp:Nat}
theorem zCw(s:Shp O P C)(hs:PtrG σ sp vO vP vC)(hR:IsPr vO vP vC O P C)(hk:∀r:Int,(r=0↔Cons O P C)->K (.int .i64 r) σ):zA Tryz.prog 140 [.ptr sp 0] σ K:=by
 have bJ:=s.le;have aV:=hR;have lX:=hs;obtain⟨⟨w0,a0,rfl⟩,⟨w1,a1,rP,rfl,hP⟩,⟨w3,a3,rC,rfl,hC⟩⟩:=hR;have e0:σ.rd1 sp 0=some (.fz w0 a0 O.length (pis O)):=by rw[zF hs.obj];rfl
 refine zB mix Tryz.func140 ?_;simp only[Z3,seval,-ah,e0];refine zC (fun m vs h'=>∃k:Nat,k<=O.length∧m=k∧vs=[.ptr sp 0,.int .i64 k]∧σ=h'∧∀j,k<=j->j<O.length->Lv O P C j) O.length ?_ ?_
 ·exact⟨O.length,vM _,rfl,rfl,rfl,fun j h1 h2=>by omega⟩
 rintro m vs h' ⟨k,lH,rfl,rfl,rfl,aj⟩
 rcases Nat.eq_zero_or_pos m with rfl|bj
 ·have DW:¬((0:Int)<((0:Nat):Int)):=by omega
  simp only[Z3,seval,-ah,DW];exact hk _ ⟨fun _ j hj=>aj j (Nat.zero_le _) hj,fun _=>rfl⟩
 obtain⟨i,rfl⟩:∃i,m=i+1:=⟨m-1,by omega⟩
 have aF:(0:Int)<((i+1:Nat):Int):=by omega
 have hw:IntKind.i64.wrap (((i+1:Nat):Int)-1)=(i:Int):=by rw[wrap64 (by omega) (by omega)];omega
 have F:Full O P C (O.length-(i+1)):=full_of s (by omega) fun j h1 h2=>aj j (by omega) h2
 simp only[Z3,seval,-ah,aF,hw];refine zFO s F (i:=i) (by omega) lX aV fun f0 f1 f2 f3 hf=>?_
 rcases hf with ⟨rfl,rfl,rfl,rfl,L⟩|⟨h0,hn⟩
 ·simp only[Z3,seval,-ah,aF,hw]
  refine⟨i,by omega,i,by omega,rfl,rfl,fun j h1 h2=>?_⟩
  by_cases e:j=i
  ·subst e;exact L
  ·exact aj j (by omega) h2
 ·simp only[Z3,seval,-ah,aF,hw,h0,Bool.false_and]
  exact hk _ ⟨fun h=>absurd h (by omega),fun h=>absurd (h i (by omega)) hn⟩
theorem zq(hR:IsPr vO vP vC O P C)(sz:SzP O P C)(hk:∀t:Bool,(t=true↔zM O P C∧Cons O P C)->K (.bool t) σ):zA Tryz.prog 83 [.agg [vO,vP,vC]] σ K:=by
 have h0:=hR.O.one;have h1:=hR.P.one;have h2:=hR.C.one;have fl:∀{A:Prop},¬A->((false=true)↔A):=fun h=>⟨fun x=>(by cases x),fun x=>absurd x h⟩
 have cJ:PtrG (σ.new [vO,vP,vC]) σ.next vO vP vC:=⟨by simp only[Z3,seval,-ah],by simp only[Z3,seval,-ah]⟩
 refine zA.gh ?_;refine zB mix Tryz.func83 ?_;simp only[Z3,seval,-ah,h0,h1,h2];refine qZ hR sz fun t ht=>?_
 cases t with
 |false=>
  simp only[Z3,seval,-ah];exact Gh.fin0 (zD σ _) trivial (hk _ (fl fun h=>by cases ht.2 h.1))
 |true=>
  have hp:=ht.1 rfl;simp only[Z3,seval,-ah];refine zCw hp.shp cJ hR fun r hr=>?_
  simp only[Z3,seval,-ah];exact Gh.fin0 (zD σ _) trivial (hk _ (by rw[decide_eq_true_iff];exact⟨fun h=>⟨hp,hr.1 h⟩,fun h=>hr.2 h.2⟩))
end Go.Proofs
set_option linter.unusedSectionVars false
namespace Go.Grp
open Go.Ab Go.Lie
variable{α:Type}{S:α->Prop}{m:α->α->α}{e:α}{a b x y z g:α}
noncomputable def ginv[Inhabited α](S:α->Prop)(m:α->α->α)(e a:α):α:=Classical.epsilon fun b=>S b∧m a b=e
section
variable[Inhabited α]
theorem Gp.inv_in(G:Gp S m e)(ha:S a):S (ginv S m e a)∧m a (ginv S m e a)=e:=by
 obtain⟨b,h1,h2,h3⟩:=G.inv ha;exact Classical.epsilon_spec (p:=fun b=>S b∧m a b=e) ⟨b,h1,h2⟩
theorem Gp.inv_eq(G:Gp S m e)(ha:S a)(hb:S b)(h:m a b=e):b=ginv S m e a:=G.cancel ha hb (G.inv_in ha).1 (h.trans (G.inv_in ha).2.symm)
theorem Gp.inv_l(G:Gp S m e)(ha:S a):m (ginv S m e a) a=e:=by
 obtain⟨b,h1,h2,h3⟩:=G.inv ha;rw[<-G.inv_eq ha h1 h2];exact h3
theorem Gp.inv_r(G:Gp S m e)(ha:S a):m a (ginv S m e a)=e:=(G.inv_in ha).2
noncomputable def com(S:α->Prop)(m:α->α->α)(e x y:α):α:=m (ginv S m e x) (m (ginv S m e y) (m x y))
noncomputable def cnj(S:α->Prop)(m:α->α->α)(e x g:α):α:=m (ginv S m e g) (m x g)
theorem Gp.com_in(G:Gp S m e)(hx:S x)(hy:S y):S (com S m e x y):=G.cl (G.inv_in hx).1 (G.cl (G.inv_in hy).1 (G.cl hx hy))
theorem Gp.cnj_in(G:Gp S m e)(hx:S x)(hg:S g):S (cnj S m e x g):=G.cl (G.inv_in hg).1 (G.cl hx hg)
theorem Gp.com_spec(G:Gp S m e)(hx:S x)(hy:S y):m (m y x) (com S m e x y)=m x y:=by
 have ix:=(G.inv_in hx).1;have iy:=(G.inv_in hy).1;have xy:=G.cl hx hy;unfold com;rw[G.as hy hx (G.cl ix (G.cl iy xy)),<-G.as hx ix (G.cl iy xy),G.inv_r hx,G.l1 (G.cl iy xy),<-G.as hy iy xy,G.inv_r hy,G.l1 xy]
theorem Gp.com_eq(G:Gp S m e)(hx:S x)(hy:S y)(hz:S z)(h:m (m y x) z=m x y):z=com S m e x y:=
 G.cancel (G.cl hy hx) hz (G.com_in hx hy) (h.trans (G.com_spec hx hy).symm)
theorem Gp.cnj_spec(G:Gp S m e)(hx:S x)(hg:S g):m g (cnj S m e x g)=m x g:=by
 unfold cnj;rw[<-G.as hg (G.inv_in hg).1 (G.cl hx hg),G.inv_r hg,G.l1 (G.cl hx hg)]
theorem Gp.cnj_eq(G:Gp S m e)(hx:S x)(hg:S g)(hz:S z)(h:m g z=m x g):z=cnj S m e x g:=
 G.cancel hg hz (G.cnj_in hx hg) (h.trans (G.cnj_spec hx hg).symm)
structure NSub(S:α->Prop)(m:α->α->α)(e:α)(N:α->Prop):Prop where
 inS:∀{x},N x->S x
 one:N e
 cl:∀{x y},N x->N y->N (m x y)
 inv:∀{x},N x->N (ginv S m e x)
 nor:∀{x g},N x->S g->N (cnj S m e x g)
theorem Gp.cnj_one(G:Gp S m e)(hg:S g):cnj S m e e g=e:=(G.cnj_eq G.one hg G.one (by rw[G.r1 hg,G.l1 hg])).symm
theorem Gp.cnj_com(G:Gp S m e)(hx:S x)(hy:S y):m x (com S m e x y)=cnj S m e x y:=by
 have c1:=G.com_in hx hy;exact G.cnj_eq hx hy (G.cl hx c1) (by rw[<-G.as hy hx c1];exact G.com_spec hx hy)
end
end Go.Grp
namespace Go.Grp
open Go.Ab Go.Lie
variable{O:List Int}{P:List (List Int)}{C:List (List (List Int))}{x y:List Int}
abbrev gS(O:List Int):List Int->Prop:=TT O 0
abbrev gm(O:List Int)(P:List (List Int))(C:List (List (List Int))):List Int->List Int->List Int:=mu O P C O.length
theorem Full.g(F:Full O P C O.length):Gp (gS O) (gm O P C) (zv O):=by
 have:=F.gp
 rwa[Nat.sub_self]at this
noncomputable abbrev gcom (O:List Int) (P:List (List Int)) (C:List (List (List Int))) (x y:List Int):List Int:=com (gS O) (gm O P C) (zv O) x y
abbrev gN(O:List Int)(P:List (List Int))(C:List (List (List Int)))(N:List Int->Prop):Prop:=NSub (gS O) (gm O P C) (zv O) N
end Go.Grp
namespace Go.Grp
open Go.Ab Go.Lie
variable{O:List Int}{P:List (List Int)}{C:List (List (List Int))}{x y a b:List Int}{d t i:Nat}
def Cent(O:List Int)(C:List (List (List Int))):Prop:=True
def addm(o a b:Int):Int:=if a+b ≥ o then a+b-o else a+b
theorem zKl(o a b:Int):addm o a b=addm o b a:=by unfold addm;rw[Int.add_comm]
theorem zBl{o a b:Int}(ha:0<=a∧a<o)(hb:0<=b∧b<o)(h:addm o a b=a):b=0:=by
 unfold addm at h;split at h<;>omega
def Upto(O:List Int)(t:Nat)(x y:List Int):Prop:=∀j,j<t->at_ x j=at_ y j
theorem zMi(s:Shp O P C)(hd:d+1<=O.length)(hi:i=O.length-(d+1))(h0:at_ b i=0)(ha:TT O i a)(hb:TT O i b):mu O P C (d+1) a b=(mu O P C d (a.set i 0) (b.set i 0)).set i (at_ a i):=by
 have ba:=ha.bd i (by omega)
 subst hi;simp only[mu];rw[h0,if_neg (by omega),show nx b (O.length-(d+1))=0 by show(at_ b _).toNat=0;rw[h0];rfl,Int.add_zero]
 rfl
theorem qV(s:Shp O P C):∀{d:Nat} {b:List Int},d<=O.length->O.length-d<=t->t<O.length->TT O (O.length-d) b->TT O t a->Upto O t (mu O P C d b a) b∧at_ (mu O P C d b a) t=addm (at_ O t) (at_ b t) (at_ a t)
 |0,b,hd,h1,h2,hb,ha=>by omega
 |d+1,b,hd,h1,h2,hb,ha=>by
  have hi:O.length-(d+1)<O.length:=by omega
  have e:O.length-d=O.length-(d+1)+1:=by omega
  have aF:=s.pos hi;have bl:O.length-(d+1)<b.length:=by rw[hb.len];exact hi
  have qk:=hb.set0 hi aF;rw[<-e]at qk
  by_cases ht:O.length-(d+1)=t
  ·have hr:=mu_tt s hd hb (ha.mono (by omega):TT O (O.length-(d+1)) a)
   refine⟨fun j hj=>by rw[hr.zero j (by omega),hb.zero j (by omega)],?_⟩
   have hm:∀a b,TT O (O.length-d) a->TT O (O.length-d) b->TT O (O.length-d) (mu O P C d a b):=fun a b h1 h2=>mu_tt s (by omega) h1 h2
   have has:=(ha.mono (by omega):TT O (O.length-(d+1)) a).set0 hi aF
   rw[<-e]at has
   have ir:=hm _ _ (zBG (fun x _=>by rw[e];exact QL s (by rw[<-e];exact hm) x) (nx a (O.length-(d+1))) qk) has
   have hw:TT O (O.length-d) (pvec P (O.length-(d+1))):=by rw[e];exact s.pw _ hi
   have pK:=hm _ _ hw ir;rw[<-ht];simp only[mu,addm]
   split
   ·rw[at_set (by rw[pK.len];exact hi),if_pos rfl]
   ·rw[at_set (by rw[ir.len];exact hi),if_pos rfl]
  ·have uQ:at_ a (O.length-(d+1))=0:=ha.zero _ (by omega)
   rw[zMi s hd rfl uQ hb (ha.mono (by omega)),zh uQ (by rw[ha.len];exact hi)]
   obtain⟨i1,i2⟩:=qV s (d:=d) (by omega) (by omega) h2 qk ha
   have cN:=(mu_tt s (by omega:d<=O.length) qk (ha.mono (by omega):TT O (O.length-d) a)).len
   refine⟨fun j hj=>?_,?_⟩
   ·rw[at_set (by rw[cN];exact hi)]
    split
    ·rename_i h;rw[h]
    ·rename_i h;rw[i1 j hj,at_set bl,if_neg h]
   ·rw[at_set (by rw[cN];exact hi),if_neg (by omega),i2,at_set bl,if_neg (by omega)]
end Go.Grp
namespace Go.Grp
open Go.Ab Go.Lie
variable{O:List Int}{P:List (List Int)}{C:List (List (List Int))}{x y z a b c g:List Int}{t:Nat}
section
variable(s:Shp O P C)(F:Full O P C O.length)(hC:Cent O C)
include s F hC
theorem behind(hz:gS O z)(hc:gS O c)(h:Upto O t (gm O P C z c) z)(ht:t<=O.length):TT O t c:=by
 have:∀k,k<=t->TT O k c:=by
  intro k
  induction k with
  |zero=>intro _;exact hc
  |succ k ih=>
   intro hk;have Bh:=ih (by omega)
   obtain⟨r1,r2⟩:=qV s (d:=O.length) (t:=k) (a:=c) (b:=z) (vM _) (by omega) (by omega) (by rw[Nat.sub_self];exact hz) Bh
   have e:=h k (by omega)
   show TT O (k+1) c;have e2:addm (at_ O k) (at_ z k) (at_ c k)=at_ z k:=by rw[<-r2];exact e
   have:=zBl (hz.bd k (by omega)) (hc.bd k (by omega)) e2
   refine⟨hc.len,hc.bd,fun j hj=>?_⟩
   by_cases g:j=k
   ·subst g;exact this
   ·exact Bh.zero j (by omega)
 exact this t (vM _)
theorem tt_cl(ht:t<=O.length)(hx:TT O t x)(hy:TT O t y):TT O t (gm O P C x y):=by
 have G:=F.g;have h0:=G.cl (hx.mono (Nat.zero_le _)) (hy.mono (Nat.zero_le _));rcases Nat.lt_or_ge t O.length with h|h
 ·obtain⟨r1,_⟩:=qV s (d:=O.length) (t:=t) (a:=y) (b:=x) (vM _) (by omega) h (by rw[Nat.sub_self];exact hx.mono (Nat.zero_le _)) hy
  exact⟨h0.len,h0.bd,fun j hj=>(r1 j hj).trans (hx.zero j hj)⟩
 ·have eK:x=zv O:=hx.ext (s.zv _) fun j h1 h2=>by omega
  rw[eK,G.l1 (hy.mono (Nat.zero_le _))];exact hy
theorem zFj(ht:t<=O.length)(hx:TT O t x):TT O t (ginv (gS O) (gm O P C) (zv O) x):=by
 have G:=F.g;have eK:gS O x:=hx.mono (Nat.zero_le _);obtain⟨i1,i2⟩:=G.inv_in eK;refine behind s F hC eK i1 (fun j hj=>?_) ht
 rw[show gm O P C x (ginv (gS O) (gm O P C) (zv O) x)=zv O from i2,hx.zero j hj]
 exact qz _ j
theorem zM9(ht:t<O.length)(hx:TT O (t+1) x)(hb:TT O t b):TT O (t+1) (cnj (gS O) (gm O P C) (zv O) x b):=by
 have G:=F.g;have eK:gS O x:=hx.mono (Nat.zero_le _);have hM:gS O b:=hb.mono (Nat.zero_le _);refine behind s F hC hM (G.cnj_in eK hM) (fun j hj=>?_) ht
 have e:gm O P C b (cnj (gS O) (gm O P C) (zv O) x b)=gm O P C x b:=G.cnj_spec eK hM;rw[e];obtain⟨r1,r2⟩:=qV s (d:=O.length) (t:=t) (a:=b) (b:=x) (vM _) (by omega) ht (by rw[Nat.sub_self];exact eK) hb
 by_cases g:j=t
 ·subst g
  refine r2.trans ?_;have uP:=hb.bd j ht;rw[hx.zero j (Nat.lt_succ_self _)];unfold addm;rw[if_neg (by omega),Int.zero_add]
 ·exact(r1 j (by omega)).trans ((hx.zero j hj).trans (hb.zero j (by omega)).symm)
theorem zM8(ht:t<O.length)(hx:TT O (t+1) x)(hb:TT O t b):TT O (t+1) (gcom O P C x b):=by
 have G:=F.g;have eK:gS O x:=hx.mono (Nat.zero_le _);have hM:gS O b:=hb.mono (Nat.zero_le _);have h1:=tt_cl s F hC (t:=t+1) ht (zFj s F hC ht hx) (zM9 s F hC ht hx hb);have e:gcom O P C x b=gm O P C (ginv (gS O) (gm O P C) (zv O) x) (cnj (gS O) (gm O P C) (zv O) x b):=by
  refine G.cancel eK (G.com_in eK hM) (G.cl (G.inv_in eK).1 (G.cnj_in eK hM)) ?_;rw[show gm O P C x (gcom O P C x b)=cnj (gS O) (gm O P C) (zv O) x b from G.cnj_com eK hM,<-G.as eK (G.inv_in eK).1 (G.cnj_in eK hM),(G.inv_in eK).2,G.l1 (G.cnj_in eK hM)]
 rw[e];exact h1
end
end Go.Grp
namespace Go.Grp
open Go.Ab Go.Lie
variable{O:List Int}{P:List (List Int)}{C:List (List (List Int))}{x g:List Int}
def ZB(O:List Int):List (List Int):=(List.range O.length).map (unit O)
section
variable(s:Shp O P C)(F:Full O P C O.length)
include s F
theorem triv:gN O P C (fun x=>x=zv O):=by
 have G:=F.g;refine⟨fun h=>by rw[h];exact G.one,rfl,fun h1 h2=>by rw[h1,h2];exact G.l1 G.one,fun h=>?_,fun h hg=>by rw[h];exact G.cnj_one hg⟩
 rw[h];exact(G.inv_eq G.one G.one (G.l1 G.one)).symm
end
end Go.Grp
namespace Go.Proofs
open Go.Ab Go.Lie Go.Grp
variable{O:List Int}{P:List (List Int)}{C:List (List (List Int))}{x a b:List Int}{d:Nat}
theorem zMD{i:Nat}(xl:i<x.length):(x.set i 0).set i (at_ x i)=x:=zJU xl
theorem zGR(s:Shp O P C){d i:Nat}(hi:O.length=(d+1)+i)(F:Full O P C d)(F1:Full O P C (d+1)){y1 y2:List Int}(hx:TT O i x)(h1:TT O (i+1) y1)(h2:TT O (i+1) y2)(e1:mu O P C d (x.set i 0) y1=zv O)(e2:mu O P C d (pvec P i) y2=zv O):
  (at_ x i=0->mu O P C (d+1) x y1=zv O)∧(at_ x i≠0->mu O P C (d+1) x (mu O P C (d+1) (mu O P C (d+1) y1 ((zv O).set i (at_ O i-at_ x i))) y2)=zv O):=by
 have aH:i<O.length:=by omega
 have hn:O.length-d=i+1:=by omega
 have jg:O.length-(d+1)=i:=by omega
 have aF:=s.pos aH;have bx:=hx.bd i aH;have xl:i<x.length:=by rw[hx.len];exact aH
 have M:=F.gp.toMon;have G1:=F1.gp;rw[jg]at G1
 have hr:TT O (O.length-d) (x.set i 0):=by rw[hn];exact hx.set0 aH aF
 have jn:TT O (O.length-d) y1:=by rw[hn];exact h1
 have lK:TT O (O.length-d) y2:=by rw[hn];exact h2
 have hz:TT O (O.length-d) (zv O):=s.zv _;have hw:TT O (O.length-d) (pvec P i):=by rw[hn];exact s.pw i aH
 have sub:∀{u v:List Int},TT O (O.length-d) u->TT O (O.length-d) v->mu O P C (d+1) u v=mu O P C d u v:=fun hu hv=>zEl s (by omega) hu hv
 constructor
 ·intro h0
  rw[zh h0 xl]at e1 hr
  rw[sub hr jn];exact e1
 ·intro h0
  have z0:(zv O).set i 0=zv O:=zh (qz _ i) (by simp;exact aH)
  have ia:∀k,iter (al O P C d i) k (zv O)=zv O:=fun k=>zCN (al_zv s F.toBeh hn) k
  have hg:TT O i ((zv O).set i (at_ x i)):=(s.zv i).set aH (vM _) bx;have ht:TT O i ((zv O).set i (at_ O i-at_ x i)):=(s.zv i).set aH (vM _) ⟨by omega,by omega⟩
  have bK:i<(x.set i 0).length:=by rw[List.length_set];exact xl
  have r0:(x.set i 0).set i 0=x.set i 0:=by rw[List.set_set]
  have up:∀{u:List Int},TT O (O.length-d) u->TT O i u:=fun h=>h.mono (by omega)
  have ex:mu O P C (d+1) ((zv O).set i (at_ x i)) (x.set i 0)=x:=by
   have:=zCi s F.toBeh hn (a:=at_ x i) (b:=0) hz hr
   rw[r0,if_neg (by omega),ia,M.l1 hr,Int.add_zero,zMD xl]at this
   exact this
  have et:mu O P C (d+1) ((zv O).set i (at_ x i)) ((zv O).set i (at_ O i-at_ x i))=pvec P i:=by
   have:=zCi s F.toBeh hn (a:=at_ x i) (b:=at_ O i-at_ x i) hz hz
   rw[if_pos (by omega),ia,M.l1 hz,M.r1 hw,show at_ x i+(at_ O i-at_ x i)-at_ O i=0 by omega,zh (hw.zero i (by omega)) (by rw[hw.len];exact aH)]at this
   exact this
  have key:∀Y,mu O P C (d+1) x Y=mu O P C (d+1) (mu O P C (d+1) ((zv O).set i (at_ x i)) (x.set i 0)) Y:=fun Y=>by rw[ex]
  rw[key];have k1:=up jn;have k2:=up lK;have kr:=up hr;rw[G1.as hg kr (G1.cl (G1.cl k1 ht) k2),<-G1.as kr (G1.cl k1 ht) k2,<-G1.as kr k1 ht,sub hr jn,e1,G1.l1 ht,<-G1.as hg ht k2,et,sub hw lK,e2]
end Go.Proofs
namespace Go.Proofs
open Go.Ab Go.Lie Go.Grp
variable{σ:PHeap}{K:PV->PHeap->Prop}{O:List Int}{P:List (List Int)}{C:List (List (List Int))}{vO vP vC vx:PV}{x y a:List Int}{rP rC:List PV}{d j:Nat}
def zKs(O:List Int)(P:List (List Int))(C:List (List (List Int)))(d i:Nat):Prop:=
 ∀(σ:PHeap) (K:PV->PHeap->Prop) (x:List Int) (vx vO vP vC:PV),IsPr vO vP vC O P C->TT O i x->FI vx x->(∀v y,FI v y->TT O i y->mu O P C d x y=zv O->K v σ)->zA Tryz.prog 158 [.agg [vO,vP,vC],.int .i64 i,vx] σ K
theorem zEI(s:Shp O P C)(hc:Cons O P C):∀{d i:Nat},O.length=d+i->zKs O P C d i
 |0,i,hi=>by
  intro σ K x vx vO vP vC hR hx bq hk;have bJ:=s.le;obtain⟨⟨w0,a0,rfl⟩,⟨w1,a1,rP,rfl,hP⟩,⟨w3,a3,rC,rfl,hC⟩⟩:=hR;refine zA.gh ?_;have aE:(O.length:Int)<=(i:Int):=by omega
  refine zB mix Tryz.func158 ?_;simp only[Z3,seval,-ah,aE,List.length_replicate,zZ,mk8 (n:=O.length) (by omega),mkL (n:=O.length) (by omega)]
  exact Gh.finF (s:=σ.next+1) ((zD σ _).new _) (by simp only[Z3,seval,-ah]) (by omega) (zK _ _) (by simp[capOK]) fun o1=>hk _ (zv O) (FI.mk (by simp)) (s.zv _) rfl
 |d+1,i,hi=>by
  intro σ K x vx vO vP vC hR hx bq hk;have yR:zKs O P C d (i+1):=zEI s hc (by omega)
  have F:Full O P C d:=full_of s (by omega) fun j h1 h2=>hc j h2
  have F1:Full O P C (d+1):=full_of s (by omega) fun j h1 h2=>hc j h2
  have fG:AtOK O P C (d+1) i:=QX s (by omega)
  have bJ:=s.le;have aV:=hR;have aH:i<O.length:=by omega
  have hO:=s.pr i aH;have aF:=s.pos aH;have dz:=hx.len;have bx:=hx.bd i aH;have jg:O.length-(d+1)=i:=by omega
  have G1:=F1.gp;rw[jg]at G1
  obtain⟨⟨w0,a0,rfl⟩,⟨w1,a1,rP,rfl,hP⟩,⟨w3,a3,rC,rfl,hC⟩⟩:=hR;obtain⟨w5,a5,cE⟩:=pvRow s hP aH;have dd:i<P.length:=by rw[s.pl];exact aH
  have bM:=s.pw i aH;obtain⟨wx,ax,rfl⟩:=bq;have iR:i<x.length:=by omega
  have aE:¬(O.length:Int)<=(i:Int):=by omega
  have sx:=hx.set0 aH aF;have dS:IntKind.i64.wrap ((i:Int)+1)=((i+1:Nat):Int):=wrapS aH (by omega)
  have s8:i+1<=x.length:=iR;refine zA.gh ?_;refine zB mix Tryz.func158 ?_;simp only[Z3,seval,-ah,aE];refine Za rfl (by omega) fun jN jF=>?_
  simp only[Z3,seval,-ah,iR,s8,zJ,zV iR,dS];refine zA.frz (s:=σ.next+1) (cs:=pis (x.set i 0)) (by simp only[Z3,seval,-ah]) (zK _ _) fun o1=>?_
  have yB:=jF.ok;simp only[sbs,sb,yB,and_self,if_true,aV.O.sb,aV.P.sb,aV.C.sb];refine yR _ _ (x.set i 0) _ _ _ _ aV sx (FI.mk (by simp)) fun v1 y1 iC ly e1=>?_
  have aq:Keep σ (((σ.new [.fz w0 a0 O.length (pis O),.fz w1 a1 P.length rP,.fz w3 a3 C.length rC]).new (pis (x.set i 0))).kill (σ.next+1)):=((zD σ _).new _).kill (by omega)
  simp only[Z3,seval,-ah,iR,pisAt iR];refine iteI (fun h0=>?_) fun h0=>?_
  ·have hr:=yR
   -- rn ug of rn mE is not asked for; any BM do
   obtain⟨y2,Bu,DS,_⟩:=F.gp.inv (a:=pvec P i) (by rw[show O.length-d=i+1 by omega];exact bM)
   rw[show O.length-d=i+1 by omega]at Bu
   have:=(zGR s (by omega) F F1 hx ly Bu e1 DS).1 h0
   exact Gh.fin0 aq (iC.bel _) (hk v1 y1 iC (ly.mono (by omega)) this)
  have je:i<(zv O).length:=by simp;exact aH
  have xF:i+1<=O.length:=aH;have bA:IntKind.i64.wrap (at_ O i-at_ x i)=at_ O i-at_ x i:=wrap64 (by omega) (by omega)
  have cM:=zV je (x:=at_ O i-at_ x i);have ht:TT O i ((zv O).set i (at_ O i-at_ x i)):=(s.zv i).set aH (vM _) ⟨by omega,by omega⟩
  simp only[Z3,seval,-ah,List.length_replicate,zZ,mk8 (n:=O.length) (by omega),mkL (n:=O.length) (by omega),iR,pisAt iR,aH,xF,pisAt aH,bA,zJ,cM,dS,dd,cE]
  refine zA.frz (s:=σ.next+2) (cs:=pis ((zv O).set i (at_ O i-at_ x i))) (by simp only[Z3,seval,-ah]) (zK _ _) fun o2=>?_
  simp only[sbs,sb,capOK,vM,decide_true,and_self,if_true,aV.O.sb,aV.P.sb,aV.C.sb,iC.sb];have sf:TT O i y1:=ly.mono (by omega)
  refine fG aV sf ht iC (FI.mk (by simp)) fun v3 fE=>?_
  simp only[Z3,seval,-ah,dS,dd,cE];refine yR _ _ (pvec P i) _ _ _ _ aV bM (FI.mk bM.len) fun v2 y2 bu wS e2=>?_
  have r7:TT O i y2:=wS.mono (by omega)
  have tQ:=G1.cl sf ht;simp only[Z3,seval,-ah,dS,dd,cE];refine fG aV tQ r7 fE bu fun v4 ur=>?_
  simp only[Z3,seval,-ah]
  have:=(zGR s (by omega) F F1 hx ly wS e1 e2).2 h0
  exact Gh.fin0 (((((zD σ _).new _).kill (by omega)).new _).kill (by omega)) (ur.bel _) (hk v4 _ ur (G1.cl tQ r7) this)
theorem zAq(s:Shp O P C)(hc:Cons O P C)(hR:IsPr vO vP vC O P C)(hx:gS O x)(bq:FI vx x)(hk:∀v,FI v (ginv (gS O) (gm O P C) (zv O) x)->K v σ):zA Tryz.prog 109 [.agg [vO,vP,vC],vx] σ K:=by
 have h0:=hR.O.one;have h1:=hR.P.one;have h2:=hR.C.one;have G:=(full_of s (vM _) fun j _ h=>hc j h).g
 refine zA.gh ?_;refine zB mix Tryz.func109 ?_;simp only[Z3,seval,-ah,h0,h1,h2];refine zEI s hc (d:=O.length) (i:=0) (by omega) _ _ x _ _ _ _ hR hx bq fun v y hv hy e=>?_
 simp only[Z3,seval,-ah]
 have:=G.inv_eq hx hy e
 rw[<-this]at hk
 exact Gh.fin0 (zD σ _) (hv.bel _) (hk v hv)
end Go.Proofs
namespace Go.Proofs
open Go.Ab Go.Lie Go.Grp
variable{σ:PHeap}{K:PV->PHeap->Prop}{O:List Int}{P:List (List Int)}{C:List (List (List Int))}{vO vP vC vx vy va vb:PV}{x y a b:List Int}{d j:Nat}
theorem qP(s:Shp O P C)(hR:IsPr vO vP vC O P C)(ha:gS O a)(hb:gS O b)(dN:FI va a)(dq:FI vb b)(hk:∀v,FI v (gm O P C a b)->K v σ):zA Tryz.prog 108 [.agg [vO,vP,vC],va,vb] σ K:=by
 have h0:=hR.O.one;have h1:=hR.P.one;have h2:=hR.C.one;refine zA.gh ?_;refine zB mix Tryz.func108 ?_;simp only[Z3,seval,-ah,h0,h1,h2];refine QX s (d:=O.length) (i:=0) (by omega) hR ha hb dN dq fun v hv=>?_
 simp only[Z3,seval,-ah];exact Gh.fin0 (zD σ _) (hv.bel _) (hk v hv)
theorem zI2(s:Shp O P C)(hc:Cons O P C)(hR:IsPr vO vP vC O P C)(hx:gS O x)(hy:gS O y)(bq:FI vx x)(mG:FI vy y)(hk:∀v,FI v (gcom O P C x y)->K v σ):zA Tryz.prog 117 [.agg [vO,vP,vC],vx,vy] σ K:=by
 have h0:=hR.O.one;have h1:=hR.P.one;have h2:=hR.C.one;have G:=(full_of s (vM _) fun j _ h=>hc j h).g
 have uh:=G.cl hy hx;have ui:=G.cl hx hy;have hi:=(G.inv_in uh).1;refine zA.gh ?_;refine zB mix Tryz.func117 ?_;simp only[Z3,seval,-ah,h0,h1,h2];refine qP s hR hy hx mG bq fun v1 f1=>?_
 simp only[Z3,seval,-ah,h0,h1,h2];refine zAq s hc hR uh f1 fun v2 f2=>?_
 simp only[Z3,seval,-ah,h0,h1,h2];refine qP s hR hx hy bq mG fun v3 f3=>?_
 simp only[Z3,seval,-ah,h0,h1,h2];refine qP s hR hi ui f2 f3 fun v4 f4=>?_
 simp only[Z3,seval,-ah];have e:gm O P C (ginv (gS O) (gm O P C) (zv O) (gm O P C y x)) (gm O P C x y)=gcom O P C x y:=
  G.com_eq hx hy (G.cl hi ui) (by rw[<-G.as uh hi ui,G.inv_r uh,G.l1 ui])
 rw[e]at f4
 exact Gh.fin0 (zD σ _) (f4.bel _) (hk v4 f4)
end Go.Proofs
namespace Go.Proofs
open Go.Ab Go.Lie Go.Grp
theorem zAc{a b:List Int}(j:Nat):at_ (a++b) j=if j<a.length then at_ a j else at_ b (j-a.length):=by
 by_cases h:j<a.length
 ·rw[if_pos h,at_eq h,at_eq (by rw[List.length_append];omega),List.getElem_append_left h]
 ·rw[if_neg h]
  by_cases h2:j-a.length<b.length
  ·rw[at_eq h2,at_eq (by rw[List.length_append];omega),List.getElem_append_right (by omega)]
  ·rw[at_ge (v:=a++b) (by rw[List.length_append];omega),at_ge (v:=b) (by omega)]
def ordF(O:List Int):Nat->Int
 |0=>1
 |i+1=>ordF O i*at_ O i
def numF(O x:List Int):Nat->Int
 |0=>0
 |i+1=>numF O x i*at_ O i+at_ x i
def dgs(O:List Int):Nat->Nat->List Int
 |0,_=>[]
 |c+1,k=>dgs O c (k / (at_ O c).toNat)++[((k % (at_ O c).toNat:Nat):Int)]
theorem ZK(O:List Int):∀c k,(dgs O c k).length=c
 |0,_=>rfl
 |c+1,k=>by simp[dgs,ZK O c]
theorem zEY{O:List Int}(h:∀j,j<O.length->2<=at_ O j∧at_ O j<=7):∀{c k:Nat},c<=O.length->∀j,j<c->0<=at_ (dgs O c k) j∧at_ (dgs O c k) j<at_ O j
 |0,k,hc,j,hj=>by omega
 |c+1,k,hc,j,hj=>by
  have hb:=h c (by omega)
  rw[dgs,zAc,ZK]
  by_cases e:j<c
  ·rw[if_pos e];exact zEY h (by omega) j e
  ·obtain rfl:j=c:=by omega
   rw[if_neg e,Nat.sub_self];show 0<=((k % (at_ O j).toNat:Nat):Int)∧((k % (at_ O j).toNat:Nat):Int)<at_ O j
   have:=Nat.mod_lt k (show 0<(at_ O j).toNat by omega)
   omega
theorem zKZ{O:List Int}{P:List (List Int)}{C:List (List (List Int))}(s:Shp O P C)(k:Nat):gS O (dgs O O.length k):=
 ⟨ZK _ _ _,fun j hj=>zEY s.pr (vM _) j hj,fun j hj=>by omega⟩
theorem QW{O:List Int}(h:∀j,j<O.length->2<=at_ O j∧at_ O j<=7):∀{i:Nat},i<=O.length->1<=ordF O i∧ordF O i<=7 ^ i
 |0,_=>by simp[ordF]
 |i+1,hi=>by
  obtain⟨h1,h2⟩:=QW h (i:=i) (by omega)
  obtain⟨h3,h4⟩:=h i (by omega)
  have e1:=Int.mul_le_mul_of_nonneg_left (a:=1) (b:=at_ O i) (c:=ordF O i) (by omega) (by omega)
  have e2:=Int.mul_le_mul h2 h4 (by omega) (by omega)
  rw[ordF,Int.pow_succ];omega
theorem pow7{i:Nat}(h:i<=6):(7:Int) ^ i<=117649:=by
 match i,h with
 |0,_=>decide
 |1,_=>decide
 |2,_=>decide
 |3,_=>decide
 |4,_=>decide
 |5,_=>decide
 |6,_=>decide
theorem zAA{O x:List Int}(h:∀j,j<O.length->2<=at_ O j∧at_ O j<=7)(hx:∀j,j<O.length->0<=at_ x j∧at_ x j<at_ O j):∀{i:Nat},i<=O.length->0<=numF O x i∧numF O x i<ordF O i
 |0,_=>by simp[ordF,numF]
 |i+1,hi=>by
  obtain⟨h1,h2⟩:=zAA h hx (i:=i) (by omega)
  obtain⟨h3,h4⟩:=h i (by omega)
  obtain⟨h5,h6⟩:=hx i (by omega)
  have e1:=Int.mul_nonneg h1 (show 0<=at_ O i by omega)
  have e2:=Int.mul_le_mul_of_nonneg_right (a:=numF O x i+1) (b:=ordF O i) (c:=at_ O i) (by omega) (by omega)
  rw[Int.add_mul,Int.one_mul]at e2
  rw[ordF,numF];omega
variable{σ:PHeap}{K:PV->PHeap->Prop}{O:List Int}{P:List (List Int)}{C:List (List (List Int))}{vO vP vC vx:PV}{x:List Int}{sp:Nat}
theorem QC(s:Shp O P C)(hs:PtrG σ sp vO vP vC)(hO:FI vO O)(hk:K (.int .i64 (ordF O O.length)) σ):zA Tryz.prog 125 [.ptr sp 0] σ K:=by
 have bJ:=s.le;obtain⟨w0,a0,rfl⟩:=hO;have e0:σ.rd1 sp 0=some (.fz w0 a0 O.length (pis O)):=by rw[zF hs.obj];rfl
 refine zB mix Tryz.func125 ?_;simp only[Z3,seval,-ah,e0];refine zC (fun m vs h'=>∃i:Nat,i<=O.length∧m=O.length-i∧vs=[.int .i64 (ordF O i),.fz w0 a0 O.length (pis O),.int .i64 O.length,.int .i64 i]∧σ=h') O.length ⟨0,by omega,by omega,rfl,rfl⟩ ?_
 rintro m vs h' ⟨i,hi,rfl,rfl,rfl⟩
 simp only[Z3,seval,-ah];refine iteI (fun ai=>?_) fun aE=>?_
 rotate_left
 ·have bn:i=O.length:=by omega
  subst bn;exact hk
 have hb:=QW s.pr (i:=i+1) ai;have h7:=pow7 (i:=i+1) (by omega)
 have ha:=at_eq ai;have hm:ordF O i*O[i]=ordF O (i+1):=by rw[ordF,ha]
 have hw:IntKind.i64.wrap (ordF O i*O[i])=ordF O (i+1):=by rw[hm,wrap64 (by omega) (by omega)]
 simp only[Z3,seval,-ah,ai,gi ai,zG,hw,wrapS ai (by omega:O.length<=4611686018427387904)]
 exact⟨_,by omega,i+1,by omega,rfl,rfl⟩
theorem qN(s:Shp O P C)(hR:IsPr vO vP vC O P C)(hk:K (.int .i64 (ordF O O.length)) σ):zA Tryz.prog 24 [.agg [vO,vP,vC]] σ K:=by
 have bJ:=s.le;have h1:=hR.P.one;have h2:=hR.C.one;obtain⟨⟨w0,a0,rfl⟩,jH,jJ⟩:=hR;refine zA.gh ?_;refine zB mix Tryz.func24 ?_;simp only[Z3,seval,-ah,h1,h2];have e0:(σ.new [.fz w0 a0 O.length (pis O),vP,vC]).rd1 σ.next 0=some (.fz w0 a0 O.length (pis O)):=by simp only[Z3,seval,-ah]
 refine zC (fun m vs h'=>∃i:Nat,i<=O.length∧m=O.length-i∧vs=[.ptr σ.next 0,.int .i64 (ordF O i),.int .i64 i]∧h'=σ.new [.fz w0 a0 O.length (pis O),vP,vC]) O.length ⟨0,by omega,by omega,rfl,rfl⟩ ?_
 rintro m vs h' ⟨i,hi,rfl,rfl,rfl⟩
 simp only[Z3,seval,-ah,e0];refine iteI (fun ai=>?_) fun aE=>?_
 rotate_left
 ·have bn:i=O.length:=by omega
  subst bn;exact Gh.fin0 (zD σ _) trivial hk
 have hb:=QW s.pr (i:=i+1) ai;have h7:=pow7 (i:=i+1) (by omega)
 have ha:=at_eq ai;have hm:ordF O i*O[i]=ordF O (i+1):=by rw[ordF,ha]
 have hw:IntKind.i64.wrap (ordF O i*O[i])=ordF O (i+1):=by rw[hm,wrap64 (by omega) (by omega)]
 simp only[Z3,seval,-ah,e0,ai,gi ai,zG,hw,wrapS ai (by omega:O.length<=4611686018427387904)]
 exact⟨_,by omega,i+1,by omega,rfl,rfl⟩
theorem zHe(s:Shp O P C)(hR:IsPr vO vP vC O P C)(hx:gS O x)(bq:FI vx x)(hk:K (.int .i64 (numF O x O.length)) σ):zA Tryz.prog 207 [.agg [vO,vP,vC],vx] σ K:=by
 have bJ:=s.le;have dz:=hx.len;have h1:=hR.P.one;have h2:=hR.C.one;obtain⟨⟨w0,a0,rfl⟩,jH,jJ⟩:=hR;obtain⟨wx,ax,rfl⟩:=bq;refine zA.gh ?_;refine zB mix Tryz.func207 ?_;simp only[Z3,seval,-ah,h1,h2];have e0:(σ.new [.fz w0 a0 O.length (pis O),vP,vC]).rd1 σ.next 0=some (.fz w0 a0 O.length (pis O)):=by simp only[Z3,seval,-ah]
 refine zC (fun m vs h'=>∃i:Nat,i<=O.length∧m=O.length-i∧vs=[.fz wx ax x.length (pis x),.ptr σ.next 0,.int .i64 (numF O x i),.int .i64 i]∧h'=σ.new [.fz w0 a0 O.length (pis O),vP,vC]) O.length ⟨0,by omega,by omega,rfl,rfl⟩ ?_
 rintro m vs h' ⟨i,hi,rfl,rfl,rfl⟩
 simp only[Z3,seval,-ah,e0];refine iteI (fun ai=>?_) fun aE=>?_
 rotate_left
 ·have bn:i=O.length:=by omega
  subst bn;exact Gh.fin0 (zD σ _) trivial hk
 have gZ:i<O.length:=by omega
 have hb:=QW s.pr (i:=i+1) gZ;have h7:=pow7 (i:=i+1) (by omega)
 have AS:=zAA s.pr hx.bd (i:=i+1) gZ;have jX:=QW s.pr (i:=i) hi;have E3:=pow7 (i:=i) (by omega)
 have xQ:=zAA s.pr hx.bd (i:=i) hi;have bx:=hx.bd i gZ;have ha:=at_eq gZ;have Bm:=at_eq ai;have hm:numF O x i*O[i] + x[i]=numF O x (i+1):=by rw[numF,ha,Bm]
 rw[Bm]at bx
 rw[ha]at bx
 have A0:0<=numF O x i*O[i]:=by
  have:=(s.pr i gZ).1
  rw[ha]at this
  exact Int.mul_nonneg xQ.1 (by omega)
 have sh:IntKind.i64.wrap (numF O x i*O[i])=numF O x i*O[i]:=wrap64 (by omega) (by omega)
 have hw:IntKind.i64.wrap (numF O x i*O[i] + x[i])=numF O x (i+1):=by rw[hm,wrap64 (by omega) (by omega)]
 simp only[Z3,seval,-ah,e0,ai,gZ,gi ai,gi gZ,zG,sh,hw,wrapS gZ (by omega:O.length<=4611686018427387904)]
 exact⟨_,by omega,i+1,by omega,rfl,rfl⟩
end Go.Proofs
namespace Go.Lie
open Go.Ab
def dep:List Int->Nat
 |[]=>0
 |x::xs=>if x=0 then dep xs+1 else 0
theorem zAa:∀v:List Int,dep v<=v.length
 |[]=>vM _
 |x::xs=>by simp only[dep,List.length_cons];have:=zAa xs;split<;>omega
theorem qW:∀{v:List Int} {j:Nat},j<dep v->at_ v j=0
 |[],j,h=>by simp[at_]
 |x::xs,j,h=>by
  simp only[dep]at h
  split at h
  ·rename_i hx
   cases j with
   |zero=>simp[at_,hx]
   |succ j=>
    have:=qW (v:=xs) (j:=j) (by omega)
    simpa [at_]using this
  ·omega
theorem Zd:∀{v:List Int},dep v<v.length->at_ v (dep v)≠0
 |[],h=>by simp at h
 |x::xs,h=>by
  simp only[dep,List.length_cons]at h ⊢
  split at h
  ·rename_i hx
   rw[if_pos hx]
   have:=Zd (v:=xs) (by omega)
   simpa [at_]using this
  ·rename_i hx
   rw[if_neg hx]
   simpa [at_]using hx
theorem zGh{v:List Int}{d:Nat}(h1:∀j,j<d->at_ v j=0)(h2:at_ v d≠0):dep v=d:=by
 rcases Nat.lt_trichotomy (dep v) d with x|x|x
 ·have hd:d<v.length:=by
   rcases Nat.lt_or_ge d v.length with y|y
   ·exact y
   ·exact absurd (at_ge y) h2
  exact absurd (h1 _ x) (Zd (by omega))
 ·exact x
 ·exact absurd (qW x) h2
end Go.Lie
namespace Go.Lie
open Go.Ab
variable{p:Int}
theorem zNV{p a:Int}(hp:p=2∨p=3∨p=5∨p=7)(h1:0<a)(h2:a<p):∃x,1<=x∧x<p∧a*x % p=1:=by
 rcases hp with rfl|rfl|rfl|rfl
 ·exact⟨1,by omega,by omega,by
   have:a=1:=by omega
   subst this;decide⟩
 ·obtain rfl|rfl:a=1∨a=2:=by omega
  ·exact⟨1,by decide,by decide,by decide⟩
  ·exact⟨2,by decide,by decide,by decide⟩
 ·obtain rfl|rfl|rfl|rfl:a=1∨a=2∨a=3∨a=4:=by omega
  ·exact⟨1,by decide,by decide,by decide⟩
  ·exact⟨3,by decide,by decide,by decide⟩
  ·exact⟨2,by decide,by decide,by decide⟩
  ·exact⟨4,by decide,by decide,by decide⟩
 ·obtain rfl|rfl|rfl|rfl|rfl|rfl:a=1∨a=2∨a=3∨a=4∨a=5∨a=6:=by omega
  ·exact⟨1,by decide,by decide,by decide⟩
  ·exact⟨4,by decide,by decide,by decide⟩
  ·exact⟨5,by decide,by decide,by decide⟩
  ·exact⟨2,by decide,by decide,by decide⟩
  ·exact⟨3,by decide,by decide,by decide⟩
  ·exact⟨6,by decide,by decide,by decide⟩
end Go.Lie
namespace Go.Proofs
open Go.Ab Go.Lie
variable{σ:PHeap}{K:PV->PHeap->Prop}{p:Int}{n:Nat}
theorem zKL{a p:Int}(hp:isP p)(ha:0<a∧a<p)(hk:∀x,1<=x->x<p->a*x % p=1->K (.int .i64 x) σ):zA Tryz.prog 116 [.int .i64 a,.int .i64 p] σ K:=by
 have n5:=hp.bd;obtain⟨y,ly,wS,Cu⟩:=zNV hp ha.1 ha.2;refine zB mix Tryz.func116 ?_;simp only[Z3,seval,-ah];refine zC (fun m vs h'=>∃i:Int,1<=i∧i<=y∧m=(y-i).toNat∧vs=[.int .i64 a,.int .i64 p,.int .i64 i]∧σ=h') (y-1).toNat ?_ ?_
 ·exact⟨1,by omega,ly,rfl,rfl,rfl⟩
 rintro m vs h' ⟨i,hi,EO,rfl,rfl,rfl⟩
 have A4:i<p:=by omega
 simp only[Z3,seval,-ah,A4];refine zKK (by omega) (by omega) ?_
 have dW:a % p=a:=Int.emod_eq_of_lt (by omega) (by omega)
 have hm:a*i<=49∧0<=a*i:=by
  have h1:=Int.mul_le_mul_of_nonneg_left (show i<=7 by omega) (show 0<=a by omega)
  have h2:=Int.mul_nonneg (show 0<=a by omega) (show 0<=i by omega)
  omega
 have sN:p≠0:=by omega
 rw[dW];simp only[Z3,seval,-ah,wrap64 (n:=a*i) (by omega) (by omega),sN]
 have e:(a*i).tmod p=a*i % p:=Int.tmod_eq_emod_of_nonneg hm.2;rw[e]
 by_cases h1:a*i % p=1
 ·simp only[Z3,seval,-ah,h1]
  exact hk i hi A4 h1
 ·have aC:i≠y:=fun e=>h1 (by rw[e];exact Cu)
  simp only[Z3,seval,-ah,h1,wrap64 (n:=i+1) (by omega) (by omega)]
  exact⟨_,by omega,i+1,by omega,by omega,rfl,rfl⟩
theorem zE7{l:Nat}{w:Bool}{a:AV}{xs:List Int}(hl:l=xs.length)(hb:xs.length<=4294967296)(hk:∀v,K (.fz true v xs.length (pis xs)) σ):zA Tryz.prog 89 [.fz w a l (pis xs)] σ K:=
 zA.fz (fun K'=>Za hl hb) (zK _ _) fun o cap=>hk _
end Go.Proofs
namespace Go.Proofs
open Go.Ab Go.Lie
theorem zNT{xs:List Int}(h:isZ xs)(j:Nat):at_ xs j=0:=by
 rcases Nat.lt_or_ge j xs.length with x|x
 ·rw[at_eq x];exact h _ (List.getElem_mem x)
 ·exact at_ge x
end Go.Proofs
namespace Go.Proofs
open Go.Ab Go.Lie
variable{σ:PHeap}{K:PV->PHeap->Prop}{p:Int}{n:Nat}{vU:PV}
def euc(p a:Int):Nat->Int×Int×Int×Int
 |0=>(p,a,0,1)
 |k+1=>let t:=euc p a k
  if t.2.1=0 then t else(t.2.1,t.1-t.1.tdiv t.2.1*t.2.1,t.2.2.2,t.2.2.1-t.1.tdiv t.2.1*t.2.2.2)
def eucOK(p a:Int)(k:Nat):Bool:=
 let t:=euc p a k
 decide (-7<=t.1∧t.1<=7∧-7<=t.2.1∧t.2.1<=7∧-7<=t.2.2.1∧t.2.2.1<=7∧-7<=t.2.2.2∧t.2.2.2<=7∧-7<=t.1.tdiv t.2.1∧t.1.tdiv t.2.1<=7∧-49<=t.1.tdiv t.2.1*t.2.1∧t.1.tdiv t.2.1*t.2.1<=49∧-49<=t.1.tdiv t.2.1*t.2.2.2∧t.1.tdiv t.2.1*t.2.2.2<=49∧(k=8->t.2.1=0)∧(t.2.1=0->a*(t.2.2.1 % p) % p=1 % p))
theorem zMs:∀p∈[2,3,5,7],∀a∈[1,2,3,4,5,6],(a:Int)<p->∀k∈[0,1,2,3,4,5,6,7,8],eucOK p a k=true:=by decide +kernel
theorem zNZ{a:Int}(hp:isP p)(ha:0<a∧a<p){k:Nat}(hk:k<=8):eucOK p a k=true:=by
 have n5:=hp.bd;refine zMs p ?_ a ?_ ha.2 k ?_
 ·rcases hp with h|h|h|h<;>simp[h]
 ·have:a=1∨a=2∨a=3∨a=4∨a=5∨a=6:=by omega
  rcases this with h|h|h|h|h|h<;>simp[h]
 ·have:k=0∨k=1∨k=2∨k=3∨k=4∨k=5∨k=6∨k=7∨k=8:=by omega
  rcases this with h|h|h|h|h|h|h|h|h<;>simp[h]
theorem zFT{a:Int}(hp:isP p)(ha:0<a∧a<p)(hk:∀(x:Int) (b:Bool),0<=x->x<p->a*x % p=1->K (.tup [.int .i64 x,.bool b]) σ):zA Tryz.prog 194 [.int .i64 a,.int .i64 p] σ K:=by
 have n5:=hp.bd;refine zB mix Tryz.func194 ?_;simp only[Z3,seval,-ah];refine zC (fun m vs h'=>∃k:Nat,k<=8∧m=8-k∧vs=[.int .i64 p,.int .i64 (euc p a k).1,.int .i64 (euc p a k).2.1,.int .i64 (euc p a k).2.2.1,.int .i64 (euc p a k).2.2.2]∧σ=h') 8 ?_ ?_
 ·exact⟨0,by omega,by omega,rfl,rfl⟩
 rintro m vs h' ⟨k,C8,rfl,rfl,rfl⟩
 have bE:=zNZ hp ha C8;unfold eucOK at bE
 have du:euc p a (k+1)=if (euc p a k).2.1=0 then euc p a k else((euc p a k).2.1,(euc p a k).1-(euc p a k).1.tdiv (euc p a k).2.1*(euc p a k).2.1,(euc p a k).2.2.2,(euc p a k).2.2.1-(euc p a k).1.tdiv (euc p a k).2.1*(euc p a k).2.2.2):=rfl
 generalize hT:euc p a k=T at *
 obtain⟨r,nx,x,y⟩:=T;dsimp only at bE du ⊢
 simp only[decide_eq_true_eq]at bE
 obtain⟨b1,b2,b3,b4,b5,b6,b7,b8,b9,Fj,Fi,Fh,Fg,Ff,En,Em⟩:=bE
 by_cases h0:nx=0
 ·subst h0
  simp only[Z3,seval,-ah];refine zIS (by omega) (by omega) ?_
  simp only[Z3,seval,-ah];refine hk _ _ (Int.emod_nonneg _ (by omega)) (Int.emod_lt_of_pos _ (by omega)) ?_
  rw[Em rfl];exact Int.emod_eq_of_lt (by omega) (by omega)
 ·rw[if_neg h0]at du
  have EM:k≠8:=fun e=>h0 (En e)
  simp only[Z3,seval,-ah,h0,wrap64 (n:=r.tdiv nx) (by omega) (by omega),wrap64 (n:=r.tdiv nx*nx) (by omega) (by omega),wrap64 (n:=r.tdiv nx*y) (by omega) (by omega),wrap64 (n:=r-r.tdiv nx*nx) (by omega) (by omega),wrap64 (n:=x-r.tdiv nx*y) (by omega) (by omega)]
  refine⟨_,by omega,k+1,by omega,rfl,?_⟩
  rw[du]
theorem zBi{l:Nat}{w:Bool}{a:AV}{xs:List Int}(hl:l=xs.length)(hb:xs.length<=1048576)(hk:K (.int .i64 (dep xs)) σ):zA Tryz.prog 193 [.fz w a l (pis xs)] σ K:=by
 subst hl;refine zB mix Tryz.func193 ?_;simp only[Z3,seval,-ah];refine zC (fun m vs h'=>∃i:Nat,i<=dep xs∧m=dep xs-i∧vs=[.fz w a xs.length (pis xs),.fz w a xs.length (pis xs),.int .i64 xs.length,.int .i64 i]∧σ=h') (dep xs) ?_ ?_
 ·exact⟨0,by omega,by omega,rfl,rfl⟩
 rintro m vs h' ⟨i,hi,rfl,rfl,rfl⟩
 have fY:=zAa xs
 by_cases ai:i<xs.length
 ·by_cases h0:xs[i]=0
  ·have iU:i<dep xs:=by
    rcases Nat.lt_or_ge i (dep xs)with x|x
    ·exact x
    ·have:i=dep xs:=by omega
     subst this;exact absurd (by rw[at_eq ai];exact h0) (Zd ai)
   simp only[Z3,seval,-ah,ai,zG,gi ai,h0,wrapS ai (by omega:xs.length<=4611686018427387904)]
   exact⟨_,by omega,i+1,by omega,rfl,rfl⟩
  ·have iU:i=dep xs:=by
    rcases Nat.lt_or_ge i (dep xs)with x|x
    ·exact absurd (by rw[<-at_eq ai];exact qW x) h0
    ·omega
   subst iU;simp only[Z3,seval,-ah,ai,zG,gi ai,h0];exact hk
 ·have iU:i=dep xs:=by omega
  subst iU;simp only[Z3,seval,-ah,ai];have hd:dep xs=xs.length:=by omega
  rw[hd]at hk
  exact hk
theorem zMV{x:Int}(hk:K (.bool (!decide (x=0))) σ):zA Tryz.prog 214 [.int .i64 x] σ K:=by
 refine zB mix Tryz.func214 ?_;simp only[Z3,seval,-ah];exact hk
theorem zNI:okF Tryz.prog 214=true:=by kernel_rfl
theorem zGw{l:Nat}{w:Bool}{a:AV}{xs:List Int}(hl:l=xs.length)(hb:xs.length<=1048576)(hd:dep xs<xs.length)(hk:K (.int .i64 (dep xs)) σ):
  zA Tryz.prog 213 [.fz w a l (pis xs),.clo 214 [] []] σ K:=by
 subst hl;refine zB mix Tryz.func213 ?_;simp only[Z3,seval,-ah];refine zC (fun m vs h'=>∃i:Nat,i<=dep xs∧m=dep xs-i∧vs=[.fz w a xs.length (pis xs),.clo 214 [] [],.int .i64 xs.length,.int .i64 i]∧σ=h') (dep xs) ?_ ?_
 ·exact⟨0,by omega,by omega,rfl,rfl⟩
 rintro m vs h' ⟨i,hi,rfl,rfl,rfl⟩
 have ai:i<xs.length:=by omega
 simp only[Z3,seval,-ah,ai,zG,gi ai];refine⟨zNI,zMV ?_⟩
 by_cases h0:xs[i]=0
 ·have iU:i<dep xs:=by
   rcases Nat.lt_or_ge i (dep xs)with x|x
   ·exact x
   ·have:i=dep xs:=by omega
    subst this;exact absurd (by rw[at_eq ai];exact h0) (Zd ai)
  simp only[Z3,seval,-ah,h0,ne_eq,not_true,decide_false,wrapS ai (by omega:xs.length<=4611686018427387904)]
  exact⟨_,by omega,i+1,by omega,rfl,rfl⟩
 ·have iU:i=dep xs:=by
   rcases Nat.lt_or_ge i (dep xs)with x|x
   ·exact absurd (by rw[<-at_eq ai];exact qW x) h0
   ·omega
  subst iU;simp only[Z3,seval,-ah,h0,ne_eq,not_false_iff,decide_true];exact hk
abbrev deps(u:List (List Int)):List Int:=u.map fun v=>(dep v:Int)
theorem Qk{u:List (List Int)}(hL:FII vU u)(hu:∀v∈u,dep v<v.length∧v.length<=1048576)(eU:u.length<=1048576)(hk:∀v,K (.fz true v u.length (pis (deps u))) σ):zA Tryz.prog 180 [vU] σ K:=by
 obtain⟨wl,al,rl,rfl,bK⟩:=hL;refine zA.gh ?_;refine zB mix Tryz.func180 ?_;simp only[Z3,seval,-ah];refine zC (fun m vs h'=>∃(i:Nat) (v:PV),i<=u.length∧m=u.length-i∧vs=[v,.fz wl al u.length rl,.int .i64 u.length,.int .i64 i]∧Keep σ h'∧PAcc σ.next 1 h' v i (pis (deps (u.take i)))) u.length ?_ ?_
 ·exact⟨0,_,by omega,by omega,rfl,Keep.refl σ,PAcc.nil _ _ _⟩
 rintro m vs h' ⟨i,v,hi,rfl,rfl,aq,ha⟩
 simp only[Z3,seval,-ah];refine iteI (fun ai=>?_) fun aE=>?_
 ·obtain⟨w4,a4,hr⟩:=bK.rowI ai
  have AF:=hu _ (List.getElem_mem ai);simp only[Z3,seval,-ah,ai,hr];refine zGw rfl AF.2 AF.1 ?_;simp only[Z3,seval,-ah];refine PAcc.push (bytes:=8) aq ha (by omega) (by omega) fun v' h2 k2 a2=>?_
  simp only[Z3,seval,-ah,wrapS ai (by omega:u.length<=4611686018427387904)]
  refine⟨_,by omega,i+1,v',by omega,rfl,rfl,k2,?_⟩
  have e:pis (deps (u.take (i+1)))=pis (deps (u.take i))++[.int .i64 (dep u[i])]:=by rw[List.take_succ_eq_append_getElem ai,deps,List.map_append,<-Zm];rfl
  rw[e];exact a2.acc
 ·have bn:i=u.length:=by omega
  subst bn;rw[List.take_length]at ha
  exact ha.fin aq (zK _ _) hk
end Go.Proofs
