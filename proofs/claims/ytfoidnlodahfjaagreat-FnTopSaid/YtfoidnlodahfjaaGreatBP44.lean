/- The regular realisation: compositions for words. -/
import Derived.Test.YtfoidnlodahfjaaGreatBP43
import Derived.Test.YtfoidnlodahfjaaGreatBP42
import Derived.Test.YtfoidnlodahfjaaGreatBP32
import Derived.Test.YtfoidnlodahfjaaGreatBP29
import Derived.Test.YtfoidnlodahfjaaGreatBP28
import Derived.Test.YtfoidnlodahfjaaGreatBAbPn
import Derived.Test.YtfoidnlodahfjaaGreatBAbPz
import Derived.Test.YtfoidnlodahfjaaGreatBP35
open Int renaming reduceNatCast'→iQ0
set_option maxRecDepth 100000
namespace Go.Grp
end Go.Grp
set_option linter.unusedSimpArgs false
set_option linter.unusedVariables false
set_option linter.unusedSectionVars false
namespace Go.Proofs
open Go.Ab Go.Lie Go.Grp
variable {σ σ0 h h':PHeap} {K:PV→PHeap→Prop} {b k nP nC r s0 i j n:Nat} {v vO vP vC c vX vS vL vM:PV} {x O xs bs:List Int} {P M:List (List Int)} {C:List (List (List Int))} {cs:List PV} {s t:List UInt8}
theorem zDC {z:Int} (h0:0≤z) (h1:z<256):IntKind.u8.wrap z=z:=by
 unfold IntKind.wrap;have e:z % (2 ^ IntKind.u8.bits:Int)=z:=by
  have:(2 ^ IntKind.u8.bits:Int)=256:=by decide
  rw [this];omega
 have e2:IntKind.u8.signed=false:=rfl;simp only [e,e2,Bool.false_and,Bool.false_eq_true,if_false]
theorem zIB (hs:s.length≤1000) (hk:∀y,-1≤y∧y≤1000000→K (.int .i64 y) σ):zA Tryz.prog 251 [.str s] σ K:=by
 have bad:=hk (-1) (by decide)
 refine zC mix Tryz.func251 ?_
 conv=>arg 2;cbv
 refine zF rfl ?_
 by_cases h0:s.length=0
 ·have d1:((s.length:Nat):Int)=0:=by omega
  simp only [pwA,seval,-iQ0,d1];exact bad
 have d1:¬((s.length:Nat):Int)=0:=by omega
 by_cases h6:6<s.length
 ·have d2:(6:Int)<((s.length:Nat):Int):=by omega
  simp only [pwA,seval,-iQ0,d1,d2];exact bad
 have d2:¬(6:Int)<((s.length:Nat):Int):=by omega
 have hl:0<s.length:=by omega
 by_cases h1:1<s.length∧s[0].toNat=48
 ·have d3:(1:Int)<((s.length:Nat):Int):=by omega
  have d4:((s[0].toNat:Nat):Int)=48:=by omega
  simp only [pwA,seval,-iQ0,d1,d2,d3,Int.toNat_zero,List.getElem?_eq_getElem hl,d4];exact bad
 by_cases h3:1<s.length
 case' pos=>
  have d3:(1:Int)<((s.length:Nat):Int):=by omega
  have d4:¬((s[0].toNat:Nat):Int)=48:=by omega
  simp only [pwA,seval,-iQ0,d1,d2,d3,Int.toNat_zero,List.getElem?_eq_getElem hl,d4]
 case' neg=>
  have d3:¬(1:Int)<((s.length:Nat):Int):=by omega
  simp only [pwA,seval,-iQ0,d1,d2,d3]
 all_goals
  refine zG (fun m vs h=>∃(i:Nat) (y:Int),i≤s.length∧m=s.length-i∧vs=[.str s,.int .i64 y,.int .i64 i]∧0≤y∧y<10 ^ i∧h=σ) s.length ?_ ?_
  ·exact⟨0,0,Nat.zero_le _,rfl,rfl,by decide,by decide,rfl⟩
  rintro m vs h ⟨i,y,hi,rfl,rfl,y0,y1,rfl⟩
  have hp:∀k:Nat,k≤6→(10:Int) ^ k≤1000000:=fun k hk'=>by
   have:k=0∨k=1∨k=2∨k=3∨k=4∨k=5∨k=6:=by omega
   rcases this with rfl|rfl|rfl|rfl|rfl|rfl|rfl<;>decide
  have hpi:=hp i (by omega)
  simp only [pwA,seval,-iQ0];refine iteI (fun hlt=>?_) fun hge=>?_
  rotate_left
  ·exact hk y (by omega)
  have gs:s[i]? = some s[i]:=List.getElem?_eq_getElem hlt
  by_cases c1:s[i].toNat<48
  ·have d5:((s[i].toNat:Nat):Int)<48:=by omega
   simp only [pwA,seval,-iQ0,Int.toNat_natCast,gs,d5];exact bad
  have d5:¬((s[i].toNat:Nat):Int)<48:=by omega
  by_cases c2:57<s[i].toNat
  ·have d6:(57:Int)<((s[i].toNat:Nat):Int):=by omega
   simp only [pwA,seval,-iQ0,Int.toNat_natCast,gs,d5,d6];exact bad
  have d6:¬(57:Int)<((s[i].toNat:Nat):Int):=by omega
  have w1:IntKind.u8.wrap ((s[i].toNat:Int)-48)=(s[i].toNat:Int)-48:=by
   exact zDC (by omega) (by omega)
  have w2:IntKind.i64.wrap ((s[i].toNat:Int)-48)=(s[i].toNat:Int)-48:=wrap64 (by omega) (by omega)
  have w3:IntKind.i64.wrap (10*y)=10*y:=wrap64 (by omega) (by omega)
  have w4:IntKind.i64.wrap (10*y+((s[i].toNat:Int)-48))=10*y+((s[i].toNat:Int)-48):=wrap64 (by omega) (by omega)
  simp only [pwA,seval,-iQ0,Int.toNat_natCast,gs,d5,d6,w1,w2,w3,w4,wrapS hlt (by omega:s.length≤4611686018427387904)]
  exact⟨_,by omega,i+1,_,by omega,rfl,rfl,by omega,by rw [Int.pow_succ];omega⟩
def Strs (n:Nat) (cells:List PV):Prop:=∀c∈cells,∃q:List UInt8,c=.str q∧q.length≤n
theorem Strs.bels {n:Nat} {cells:List PV} (a:Strs n cells) (b:Nat):Bels b cells:=zBV.2 fun c hc=>by obtain⟨q,rfl,_⟩:=a c hc;trivial
theorem Strs.snoc {n:Nat} {cells:List PV} (a:Strs n cells) {q:List UInt8} (hq:q.length≤n):Strs n (cells++[.str q]):=fun c hc=>by
 rcases List.mem_append.1 hc with hc|hc
 ·exact a c hc
 ·exact⟨q,List.mem_singleton.1 hc,hq⟩
theorem zAp {c:Int} (hs:s.length≤1000) (hk:∀a n cells,1≤n→n≤s.length+1→cells.length=n→Strs s.length cells→K (.fz true a n cells) σ):zA Tryz.prog 244 [.str s,.int .u8 c] σ K:=by
 refine zA.gh ?_;refine zC mix Tryz.func244 ?_
 conv=>arg 2;cbv
 refine zF rfl ?_;simp only [pwA,seval,-iQ0];refine zG (fun m vs h=>∃(i st:Nat) (v:PV) (cells:List PV),i≤s.length∧st≤i∧m=s.length-i∧vs=[.str s,.int .u8 c,v,.int .i64 st,.int .i64 i]∧cells.length≤i∧Strs s.length cells∧Keep σ h∧PSl σ.next 1 h v cells.length cells) s.length ?_ ?_
 ·exact⟨0,0,_,[],Nat.zero_le _,Nat.le_refl _,rfl,rfl,Nat.zero_le _,fun c hc=>(by cases hc),zB _ _,PSl.new _ 1 rfl (Nat.le_refl _)⟩
 rintro m vs h ⟨i,st,v,cells,hi,hst,rfl,rfl,hcl,hst2,kk,pa⟩
 have h1:=pa.one;simp only [pwA,seval,-iQ0,h1];refine iteI (fun hlt=>?_) fun hge=>?_
 ·have gs:s[i]? = some s[i]:=List.getElem?_eq_getElem hlt
  have wi:IntKind.i64.wrap ((i:Int)+1)=((i+1:Nat):Int):=by rw [wrap64 (by omega) (by omega)];omega
  simp only [pwA,seval,-iQ0,gs,h1]
  by_cases he:((s[i].toNat:Nat):Int)=c
  ·have b1:((i:Int)≤(s.length:Int))=True:=by simp;omega
   have b2:((st:Int)≤(i:Int))=True:=by simp;omega
   simp only [pwA,seval,-iQ0,he,b1,b2,h1,hi,hst];refine PSl.push (σb:=σ) (bytes:=16) kk pa (by omega) (by omega) fun v2 h2 k2 a2=>?_
   have h3:=a2.one;simp only [pwA,seval,-iQ0,wi,h3];have hl:(cells++[PV.str (List.drop st (List.take i s))]).length=cells.length+1:=by simp
   exact⟨_,by omega,i+1,i+1,v2,cells++[.str (List.drop st (List.take i s))],by omega,Nat.le_refl _,rfl,rfl,by omega,hst2.snoc (by rw [List.length_drop,List.length_take];omega),k2,by rw [hl];exact a2⟩
  ·simp only [pwA,seval,-iQ0,he,wi,h1]
   exact⟨_,by omega,i+1,st,v,cells,by omega,by omega,rfl,rfl,by omega,hst2,kk,pa⟩
 have b1:st≤s.length:=by omega
 simp only [pwA,seval,-iQ0,h1,b1,List.take_length];refine PSl.push (σb:=σ) (bytes:=16) kk pa (by omega) (by omega) fun v2 h2 k2 a2=>?_
 have h3:=a2.one;simp only [pwA,seval,-iQ0,h3];refine a2.fin k2 ((hst2.snoc ?_).bels 0) fun o cap=>hk _ _ _ (by omega) (by omega) (by simp) (hst2.snoc ?_)
 all_goals simp
end Go.Proofs
namespace Go.Grp
end Go.Grp
namespace Go.Proofs
open Go.Ab Go.Lie Go.Grp
variable {σ σ0 h h':PHeap} {K:PV→PHeap→Prop} {b k nP nC r s0 i j n:Nat} {v vO vP vC c vX vS vL vM:PV} {x O xs bs:List Int} {P M:List (List Int)} {C:List (List (List Int))} {cs:List PV} {s t:List UInt8}
theorem zDG {g:PHeap} {z:Int}:zAH (g.new [.int .u8 z]) (.sl g.next 0 1 (.known 1))=some [UInt8.ofNat z.toNat]:=by
 simp only [pwA,seval,-iQ0,zAH];rw [qM];simp only [pwA,seval,-iQ0]
 rfl
theorem zFk {n:Int} (k:Nat) (hn:0≤n∧n≤1000000∧n<10 ^ (k+1)) (hkk:k≤100) (hk:∀q:List UInt8,q.length≤k+1→K (.str q) σ):zA Tryz.prog 254 [.int .i64 n] σ K:=by
 induction k generalizing n σ K with
 | zero=>
  have h10:n<10:=by have:=hn.2.2;simpa using this
  have w1:IntKind.i64.wrap (48+n)=48+n:=wrap64 (by omega) (by omega)
  have w2:IntKind.u8.wrap (48+n)=48+n:=zDC (by omega) (by omega)
  refine zA.gh ?_;refine zR mix Tryz.func254 cf254 rfl ?_;dsimp only [if254,qI,eI,qD,eD,mI0,cI0,mD0,I0,R0,S0];simp only [pwA,seval,-iQ0,h10,w1,w2,Qd,zDG];exact Gh.fin0 (zB _ _) trivial (hk _ (Nat.le_refl _))
 | succ k ih=>
  by_cases h10:n<10
  ·have w1:IntKind.i64.wrap (48+n)=48+n:=wrap64 (by omega) (by omega)
   have w2:IntKind.u8.wrap (48+n)=48+n:=zDC (by omega) (by omega)
   refine zA.gh ?_;refine zR mix Tryz.func254 cf254 rfl ?_;dsimp only [if254,qI,eI,qD,eD,mI0,cI0,mD0,I0,R0,S0];simp only [pwA,seval,-iQ0,h10,w1,w2,Qd,zDG];exact Gh.fin0 (zB _ _) trivial (hk _ (Nat.succ_le_succ (Nat.zero_le _)))
  have q0:0≤n.tdiv 10:=Int.tdiv_nonneg hn.1 (by decide)
  have q1:n.tdiv 10≤1000000∧n.tdiv 10<10 ^ (k+1):=by
   have e:n.tdiv 10=n / 10:=Int.tdiv_eq_ediv_of_nonneg hn.1
   have:=hn.2.2
   rw [Int.pow_succ]at this
   rw [e];omega
  have r0:0≤n.tmod 10∧n.tmod 10<10:=⟨Int.tmod_nonneg _ hn.1,Int.tmod_lt_of_pos _ (by decide)⟩
  have w0:IntKind.i64.wrap (n.tdiv 10)=n.tdiv 10:=wrap64 (by omega) (by omega)
  have w3:IntKind.i64.wrap (n.tmod 10)=n.tmod 10:=wrap64 (by omega) (by omega)
  have w1:IntKind.i64.wrap (48+n.tmod 10)=48+n.tmod 10:=wrap64 (by omega) (by omega)
  have w2:IntKind.u8.wrap (48+n.tmod 10)=48+n.tmod 10:=zDC (by omega) (by omega)
  have ihc:∀{g:PHeap} {K':PV→PHeap→Prop},(∀q:List UInt8,q.length≤k+1→K' (.str q) g)→zA Tryz.prog 254 [.int .i64 (n.tdiv 10)] g K':=fun hk'=>ih ⟨q0,q1.1,q1.2⟩ (by omega) hk'
  refine zA.gh ?_;refine zR mix Tryz.func254 cf254 rfl ?_;dsimp only [if254,qI,eI,qD,eD,mI0,cI0,mD0,I0,R0,S0];simp only [pwA,seval,-iQ0,h10,w0,w1,w2,w3,Qd,zDG,qx,TVp_e,TVp_q,zt,zq];refine⟨?_,?_,?_⟩
  all_goals
   refine ihc fun q hq=>?_
   have hl:q.length+1≤9223372036854775807:=by omega
   simp only [pwA,seval,-iQ0,h10,w0,w1,w2,w3,Qd,zDG,qx,TVp_e,TVp_q,zt,zq,hl];exact Gh.fin0 (zB _ _) trivial (hk _ (by rw [List.length_append];exact Nat.succ_le_succ hq))
def Byts (cells:List PV):Prop:=∀c∈cells,∃z:Int,c=.int .u8 z
theorem Byts.bytes:∀{cells:List PV},Byts cells→∃q:List UInt8,zA0 cells=some q∧q.length=cells.length
 | [],_=>⟨[],rfl,rfl⟩
 | c::cells,a=>by
  obtain⟨z,rfl⟩:=a c (List.mem_cons_self ..);obtain⟨q,h1,h2⟩:=Byts.bytes (cells:=cells) fun c hc=>a c (List.mem_cons_of_mem _ hc)
  exact⟨UInt8.ofNat z.toNat::q,by simp only [zA0,h1,Option.map_some],by simp [h2]⟩
theorem Byts.snoc {cells:List PV} (a:Byts cells) {z:Int}:Byts (cells++[.int .u8 z]):=fun c hc=>by
 rcases List.mem_append.1 hc with hc|hc
 ·exact a c hc
 ·exact⟨z,List.mem_singleton.1 hc⟩
theorem PSl.bytes {cells:List PV} (a:PSl b 1 h v cells.length cells) (hb:Byts cells):∃q:List UInt8,zAH h v=some q∧q.length=cells.length:=by
 obtain⟨s,cap,rfl,h1,h2,h3,h4,h5⟩:=a;obtain⟨q,e1,e2⟩:=hb.bytes;refine⟨q,?_,e2⟩;unfold zAH;rw [zCK];simp only [Option.bind_some];rw [qM]
 by_cases h0:cells.length=0
 ·have:cells=[]:=List.length_eq_zero_iff.1 h0
  subst this;rw [if_pos h0];exact e1
 ·rw [if_neg h0,if_pos (Nat.le_refl _),Nat.mul_one,zb h2,if_pos (by omega),List.drop_zero,List.take_length]
  exact e1
theorem zEY {w:Bool} {aa:AV} (hn:x.length≤1000) (hk:∀q:List UInt8,q.length≤x.length+1→K (.str q) σ):zA Tryz.prog 256 [.fz w aa x.length (pis x)] σ K:=by
 refine zA.gh ?_;refine zC mix Tryz.func256 ?_
 conv=>arg 2;cbv
 refine zF rfl ?_
 by_cases h0:x.length=0
 ·have d0:((x.length:Nat):Int)=0:=by omega
  simp only [pwA,seval,-iQ0,d0];exact Gh.fin0 (Keep.refl _) trivial (hk _ (by simp))
 have d0:¬((x.length:Nat):Int)=0:=by omega
 simp only [pwA,seval,-iQ0,d0];refine zG (fun m vs h=>∃(i:Nat) (v:PV) (cells:List PV),i≤x.length∧m=x.length-i∧vs=[.fz w aa x.length (pis x),v,.int .i64 i]∧cells.length=i∧Byts cells∧Keep σ h∧PSl σ.next 1 h v cells.length cells) x.length ?_ ?_
 ·exact⟨0,_,[],Nat.zero_le _,rfl,rfl,rfl,fun c hc=>(by cases hc),zB _ _,PSl.new _ 1 rfl (Nat.le_refl _)⟩
 rintro m vs h ⟨i,v,cells,hi,rfl,rfl,hcl,hby,kk,pa⟩
 have h1:=pa.one;simp only [pwA,seval,-iQ0,h1];refine iteI (fun hlt=>?_) fun hge=>?_
 ·have hlt':(i:Int)<(x.length:Int):=by omega
  have gx:(pis x)[i]? = some (.int .i64 x[i]):=by rw [zM,gi hlt];rfl
  simp only [pwA,seval,-iQ0,h1,hlt,hlt',gx];refine iteI (fun hp=>?_) fun hp=>?_
  all_goals
   simp only [pwA,seval,-iQ0,h1,hlt,hlt',gx];refine PSl.push (σb:=σ) (bytes:=1) kk pa (by omega) (by omega) fun v2 h2 k2 a2=>?_
   have h3:=a2.one;simp only [pwA,seval,-iQ0,h3,wrapS hlt (by omega:x.length≤4611686018427387904)]
   exact⟨_,by omega,i+1,v2,_,by omega,rfl,rfl,by rw [List.length_append,hcl];rfl,hby.snoc,k2,by rw [List.length_append];exact a2⟩
 obtain⟨q,e1,e2⟩:=PSl.bytes pa hby;simp only [pwA,seval,-iQ0,h1,Qd,e1];exact Gh.fin0 kk trivial (hk _ (by omega))
theorem zJZ {cap:Cap} (ho:σ.obj s0=some (pis x)) (hs:s0<σ.next) (hn:x.length≤1000) (hk:∀q:List UInt8,q.length≤x.length+1→K (.str q) σ):zA Tryz.prog 256 [.sl s0 0 x.length cap] σ K:=by
 refine zA.gh ?_;refine zC mix Tryz.func256 ?_
 conv=>arg 2;cbv
 refine zF rfl ?_
 by_cases h0:x.length=0
 ·have d0:((x.length:Nat):Int)=0:=by omega
  simp only [pwA,seval,-iQ0,d0];exact Gh.fin0 (Keep.refl _) trivial (hk _ (by simp))
 have d0:¬((x.length:Nat):Int)=0:=by omega
 simp only [pwA,seval,-iQ0,d0];refine zG (fun m vs h=>∃(i:Nat) (v:PV) (cells:List PV),i≤x.length∧m=x.length-i∧vs=[.sl s0 0 x.length cap,v,.int .i64 i]∧cells.length=i∧Byts cells∧Keep σ h∧PSl σ.next 1 h v cells.length cells) x.length ?_ ?_
 ·exact⟨0,_,[],Nat.zero_le _,rfl,rfl,rfl,fun c hc=>(by cases hc),zB _ _,PSl.new _ 1 rfl (Nat.le_refl _)⟩
 rintro m vs h ⟨i,v,cells,hi,rfl,rfl,hcl,hby,kk,pa⟩
 have h1:=pa.one;simp only [pwA,seval,-iQ0,h1];refine iteI (fun hlt=>?_) fun hge=>?_
 ·have hlt':(i:Int)<(x.length:Int):=by omega
  have gx:h.rd1 s0 i=some (.int .i64 x[i]):=by rw [zH (by rw [kk.obj _ hs];exact ho),zM,gi hlt];rfl
  simp only [pwA,seval,-iQ0,h1,hlt,hlt',gx];refine iteI (fun hp=>?_) fun hp=>?_
  all_goals
   simp only [pwA,seval,-iQ0,h1,hlt,hlt',gx];refine PSl.push (σb:=σ) (bytes:=1) kk pa (by omega) (by omega) fun v2 h2 k2 a2=>?_
   have h3:=a2.one;simp only [pwA,seval,-iQ0,h3,wrapS hlt (by omega:x.length≤4611686018427387904)]
   exact⟨_,by omega,i+1,v2,_,by omega,rfl,rfl,by rw [List.length_append,hcl];rfl,hby.snoc,k2,by rw [List.length_append];exact a2⟩
 obtain⟨q,e1,e2⟩:=PSl.bytes pa hby;simp only [pwA,seval,-iQ0,h1,Qd,e1];exact Gh.fin0 kk trivial (hk _ (by omega))
theorem zAn {i:Int} (hi:-1000≤i∧i≤1000) (hk:∀q:List UInt8,q.length≤2→K (.str q) σ):zA Tryz.prog 255 [.int .i64 i] σ K:=by
 refine zA.gh ?_;refine zC mix Tryz.func255 ?_
 conv=>arg 2;cbv
 refine zF rfl ?_;simp only [pwA,seval,-iQ0];refine zJZ (x:=[IntKind.i64.wrap (i+1)]) (by rw [zD,if_pos rfl];rfl) (Nat.lt_succ_self _) (by simp) fun q hq=>?_
 simp only [pwA,seval,-iQ0];exact Gh.fin0 (zB _ _) trivial (hk q hq)
end Go.Proofs
namespace Go.Grp
end Go.Grp
namespace Go.Proofs
open Go.Ab Go.Lie Go.Grp
variable {σ σ0 h h':PHeap} {K:PV→PHeap→Prop} {b k nP nC r s0 i j n:Nat} {v vO vP vC c vX vS vL vM:PV} {x O xs bs:List Int} {P M:List (List Int)} {C:List (List (List Int))} {cs:List PV} {s t:List UInt8}
theorem qQ {α:Type} {c:Prop} [Decidable c] {a:α} {K:α→Prop} (hc:c) (hk:K a):optK (if c then some a else none) K:=by rw [if_pos hc];exact⟨a,rfl,hk⟩
theorem zEX (hv:FI v x) (hn:x.length≤6) (hx:∀a∈x,0≤a∧a≤7) (hk:∀u w,FI u w→w.length≤42→K u σ):zA Tryz.prog 190 [v] σ K:=by
 obtain⟨w,a,rfl⟩:=hv;refine zA.gh ?_;refine zC mix Tryz.func190 ?_
 conv=>arg 2;cbv
 refine zF rfl ?_;simp only [pwA,seval,-iQ0];refine zG (fun m vs h=>∃(i:Nat) (v:PV) (u:List Int),i≤x.length∧m=x.length-i∧vs=[.fz w a x.length (pis x),v,.int .i64 i]∧u.length≤7*i∧Keep σ h∧PSl σ.next 1 h v u.length (pis u)) x.length ?_ ?_
 ·exact⟨0,_,[],Nat.zero_le _,rfl,rfl,Nat.le_refl _,zB _ _,PSl.new _ 1 rfl (Nat.le_refl _)⟩
 rintro m vs h ⟨i,v,u,hi,rfl,rfl,hul,kk,pa⟩
 have h1:=pa.one;simp only [pwA,seval,-iQ0,h1];refine iteI (fun hlt=>?_) fun hge=>?_
 rotate_left
 ·refine pa.fin kk (zO _ _) fun o cap=>hk _ u ⟨true,_,rfl⟩ (by omega)
 have hlt':(i:Int)<(x.length:Int):=by omega
 have gx:(pis x)[i]? = some (.int .i64 x[i]):=by rw [zM,gi hlt];rfl
 have xb:=hx _ (List.getElem_mem hlt);refine zG (fun m vs h=>∃(j:Nat) (v:PV) (u:List Int),j≤7∧m=7-j∧vs=[.fz w a x.length (pis x),v,.int .i64 i,.int .i64 j]∧u.length≤7*i+j∧Keep σ h∧PSl σ.next 1 h v u.length (pis u)) 7 ?_ ?_
 ·exact⟨0,v,u,Nat.zero_le _,rfl,rfl,by omega,kk,pa⟩
 clear pa kk h1 hul
 rintro m vs h ⟨j,v,u,hj,rfl,rfl,hul,kk,pa⟩
 have h1:=pa.one;simp only [pwA,seval,-iQ0,h1,hlt,hlt',gx];refine iteI (fun hjt=>?_) fun hge=>?_
 rotate_left
 ·simp only [pwA,seval,-iQ0,h1,wrapS hlt (by omega:x.length≤4611686018427387904)]
  exact⟨_,by omega,i+1,v,u,by omega,rfl,rfl,by omega,kk,pa⟩
 have wi:IntKind.i64.wrap ((i:Int)+1)=(i:Int)+1:=wrap64 (by omega) (by omega)
 have wj:IntKind.i64.wrap ((j:Int)+1)=((j+1:Nat):Int):=by rw [wrap64 (by omega) (by omega)];omega
 simp only [pwA,seval,-iQ0,h1,wi];refine PSl.push (σb:=σ) (bytes:=8) kk pa (by omega) (by omega) fun v2 h2 k2 a2=>?_
 have h3:=a2.one;simp only [pwA,seval,-iQ0,h3,wj];have e:pis (u++[(i:Int)+1])=pis u++[.int .i64 ((i:Int)+1)]:=by simp [pis]
 exact⟨_,by omega,j+1,v2,u++[(i:Int)+1],by omega,rfl,rfl,by rw [List.length_append,List.length_singleton];omega,k2,by rw [e,List.length_append];exact a2⟩
theorem zJY (hR:IsPr vO vP vC O P C) (hp:zQ O P C) (hk:∀q:List UInt8,K (.str q) σ):zA Tryz.prog 247 [.agg [vO,vP,vC]] σ K:=by
 have sh:=hp.shp;have hn6:=sh.le;have o1:=hR.O.one;have p1:=hR.P.one;have c1:=hR.C.one;obtain⟨⟨wO,aO,rfl⟩,⟨wP,aP,rP,rfl,hrP⟩,⟨wC,aC,rC,rfl,hrC⟩⟩:=hR;have hpl:=sh.pl;have hcl:=sh.cl;refine zA.gh ?_;refine zR mix Tryz.func247 cf247 rfl ?_;dsimp only [if247,qI,eI,qD,eD,mI0,kI0,lI0,fI0,xI0,bI0,cI0,nI0,sI0,C1,mD0,lD0,fD0,xD0,I0,R0,S0];simp only [pwA,seval,-iQ0,o1,p1,c1];generalize hH:σ.new [PV.fz wO aO O.length (pis O),PV.fz wP aP P.length rP,PV.fz wC aC C.length rC]=H;have kH:Keep σ H:=by rw [←hH];exact zB _ _
 have r0:H.rd1 σ.next 0=some (.fz wO aO O.length (pis O)):=by rw [←hH];simp only [pwA,seval,-iQ0]
 have r1:H.rd1 σ.next 1=some (.fz wP aP P.length rP):=by rw [←hH];simp only [pwA,seval,-iQ0]
 have r2:H.rd1 σ.next 2=some (.fz wC aC C.length rC):=by rw [←hH];simp only [pwA,seval,-iQ0]
 clear hH;have fin:∀{q:List UInt8},Gh σ K (.str q) H:=Gh.fin0 kH trivial (hk _)
 have hO:∀i (hi:i<O.length),2≤O[i]∧O[i]≤7:=fun i hi=>by have:=sh.pr i hi;rw [at_eq hi]at this;exact this
 have ent:∀{k:Nat} {y:List Int},TT O k y→∀a∈y,0≤a∧a≤7:=fun {k y} h a ha=>by
  obtain⟨j,hj,rfl⟩:=List.mem_iff_getElem.1 ha;have b:=h.bd j (by have:=h.len;omega)
  rw [at_eq hj]at b
  have o:=sh.pr j (by have:=h.len;omega)
  omega
 have PR:∀i (hi:i<P.length),P[i].length=O.length∧∀a∈P[i],0≤a∧a≤7:=fun i hi=>by
  have h:=sh.pw i (by omega)
  have e:pvec P i=P[i]:=by unfold pvec;rw [List.getD_eq_getElem?_getD,List.getElem?_eq_getElem hi];rfl
  rw [e]at h
  exact⟨h.len,ent h⟩
 have CL:∀i (hi:i<C.length),C[i].length=O.length-1-i:=fun i hi=>by
  have h:=sh.row i (by omega)
  rw [List.getD_eq_getElem?_getD,List.getElem?_eq_getElem hi]at h
  exact h
 have CR:∀i (hi:i<C.length) k (hk:k<C[i].length),C[i][k].length=O.length∧∀a∈C[i][k],0≤a∧a≤7:=fun i hi k hk'=>by
  have hl:=CL i hi;have h:=sh.cj i (i+1+k) (by omega) (by omega)
  have e:cvec C i (i+1+k)=C[i][k]:=by
   unfold cvec;rw [show i+1+k-i-1=k by omega,List.getD_eq_getElem?_getD,List.getD_eq_getElem?_getD,List.getElem?_eq_getElem hi]
   simp only [Option.getD_some];rw [List.getElem?_eq_getElem hk'];rfl
  rw [e]at h
  exact⟨h.len,ent h⟩
 have dec:∀{g:PHeap} {K':PV→PHeap→Prop} {a:Int},2≤a∧a≤7→(∀d:List UInt8,d.length≤6→K' (.str d) g)→zA Tryz.prog 254 [.int .i64 a] g K':=fun {g K' a} ha hk'=>
  zFk 5 ⟨by omega,by omega,Int.lt_of_lt_of_le (show a<1000000 by omega) (by decide)⟩ (by decide) hk'
 refine iteI (fun _=>fin) fun hO0=>?_
 refine zG (fun m vs h=>∃(i:Nat) (q:List UInt8),i≤O.length∧m=O.length-i∧vs=[.ptr σ.next 0,.int .i64 O.length,.str q,.int .i64 i]∧q.length≤9*i∧h=H) O.length ?_ ?_
 ·exact⟨0,[],Nat.zero_le _,rfl,rfl,Nat.le_refl _,rfl⟩
 rintro m vs h ⟨i,q,hi,rfl,rfl,hq,rfl⟩
 simp only [pwA,seval,-iQ0];refine iteI (fun hlt=>?_) fun hge=>?_
 ·have hlt':(i:Int)<(O.length:Int):=by omega
  have gx:(pis O)[i]? = some (.int .i64 O[i]):=by rw [zM,gi hlt];rfl
  have ob:=hO i hlt;refine iteI (fun hp=>?_) fun hp=>?_
  case' refine_1=>refine qQ (by first | omega | (simp only [List.length_append,List.length_cons,List.length_nil];omega)) ?_
  all_goals
   simp only [pwA,seval,-iQ0,r0,hlt,hlt',gx];refine dec ob fun d hd=>?_
   simp only [pwA,seval,-iQ0];refine qQ (by first | omega | (simp only [List.length_append,List.length_cons,List.length_nil];omega)) ?_
   simp only [pwA,seval,-iQ0,wrapS hlt (by omega:O.length≤4611686018427387904)]
   exact⟨_,by omega,i+1,_,by omega,rfl,rfl,by simp only [List.length_append,List.length_singleton];omega⟩
 refine zG (fun m vs h'=>∃(i:Nat) (q:List UInt8),i≤O.length∧m=O.length-i∧vs=[.ptr σ.next 0,.int .i64 O.length,.str q,.int .i64 i]∧q.length≤60+60*i∧h'=h) O.length ?_ ?_
 ·exact⟨0,q,Nat.zero_le _,rfl,rfl,by omega,rfl⟩
 clear hq hge hi
 rintro m vs h ⟨i,q,hi,rfl,rfl,hq,rfl⟩
 simp only [pwA,seval,-iQ0];refine iteI (fun hlt=>?_) fun hge=>?_
 ·have hltP:i<P.length:=by omega
  have hltP':(i:Int)<(P.length:Int):=by omega
  have hlt':(i:Int)<(O.length:Int):=by omega
  have gx:(pis O)[i]? = some (.int .i64 O[i]):=by rw [zM,gi hlt];rfl
  have ob:=hO i hlt;obtain⟨w4,a4,hr⟩:=hrP.rowI hltP;obtain⟨pl,pe⟩:=PR i hltP;have wi:=wrapS hlt (by omega:O.length≤4611686018427387904)
  simp only [pwA,seval,-iQ0,r0,r1,hltP,hltP',hr];refine zIA rfl (by omega) ?_
  simp only [pwA,seval,-iQ0]
  by_cases hz:isZ P[i]
  ·simp only [pwA,seval,-iQ0,hz,wi]
   exact⟨_,by omega,i+1,_,by omega,rfl,rfl,by omega⟩
  simp only [pwA,seval,-iQ0,hz,r0,r1,hltP,hltP',hr,hlt,hlt',gx];refine qQ (by first | omega | (simp only [List.length_append,List.length_cons,List.length_nil];omega)) ?_
  simp only [pwA,seval,-iQ0,hz,r0,r1,hltP,hltP',hr,hlt,hlt',gx];refine zAn (by omega) fun d1 hd1=>?_
  simp only [pwA,seval,-iQ0,r0,r1,hltP,hltP',hr,hlt,hlt',gx];refine qQ (by first | omega | (simp only [List.length_append,List.length_cons,List.length_nil];omega)) ?_
  simp only [pwA,seval,-iQ0,r0,r1,hltP,hltP',hr,hlt,hlt',gx,wi];refine qQ (by first | omega | (simp only [List.length_append,List.length_cons,List.length_nil];omega)) ?_
  simp only [pwA,seval,-iQ0,r0,r1,hltP,hltP',hr,hlt,hlt',gx,wi];refine dec ob fun d2 hd2=>?_
  simp only [pwA,seval,-iQ0,r0,r1,hltP,hltP',hr,hlt,hlt',gx,wi];refine qQ (by first | omega | (simp only [List.length_append,List.length_cons,List.length_nil];omega)) ?_
  simp only [pwA,seval,-iQ0,r0,r1,hltP,hltP',hr,hlt,hlt',gx,wi];refine qQ (by first | omega | (simp only [List.length_append,List.length_cons,List.length_nil];omega)) ?_
  simp only [pwA,seval,-iQ0,r0,r1,hltP,hltP',hr,hlt,hlt',gx,wi];refine zEX ⟨w4,a4,rfl⟩ (by omega) pe fun u wd hu hwd=>?_
  obtain⟨w5,a5,rfl⟩:=hu;simp only [pwA,seval,-iQ0,r0,r1,hltP,hltP',hr,hlt,hlt',gx,wi];refine zEY (by omega) fun d3 hd3=>?_
  simp only [pwA,seval,-iQ0,r0,r1,hltP,hltP',hr,hlt,hlt',gx,wi];refine qQ (by first | omega | (simp only [List.length_append,List.length_cons,List.length_nil];omega)) ?_
  simp only [pwA,seval,-iQ0,r0,r1,hltP,hltP',hr,hlt,hlt',gx,wi];exact⟨_,by omega,i+1,_,by omega,rfl,rfl,by simp only [List.length_append,List.length_cons,List.length_nil];omega⟩
 refine zG (fun m vs h'=>∃(i:Nat) (q:List UInt8),i≤O.length∧m=O.length-i∧vs=[.ptr σ.next 0,.int .i64 O.length,.str q,.int .i64 i]∧q.length≤420+420*i∧h'=h) O.length ?_ ?_
 ·exact⟨0,q,Nat.zero_le _,rfl,rfl,by omega,rfl⟩
 clear hq hge hi
 rintro m vs h ⟨i,q,hi,rfl,rfl,hq,rfl⟩
 simp only [pwA,seval,-iQ0];refine iteI (fun hlt=>?_) fun hge=>?_
 rotate_left
 ·exact fin
 have hlt':(i:Int)<(O.length:Int):=by omega
 have hltC:i<C.length:=by omega
 have hltC':(i:Int)<(C.length:Int):=by omega
 have wi:=wrapS hlt (by omega:O.length≤4611686018427387904)
 obtain⟨w4,a4,rs4,hr,hrs⟩:=hrC.rowL hltC;have cl:=CL i hltC;simp only [pwA,seval,-iQ0,wi];refine zG (fun m vs h'=>∃(j:Nat) (q:List UInt8),i+1≤j∧j≤O.length∧m=O.length-j∧vs=[.ptr σ.next 0,.int .i64 O.length,.str q,.int .i64 i,.int .i64 j]∧q.length≤420+420*i+60*j∧h'=h) (O.length-(i+1)) ?_ ?_
 ·exact⟨i+1,q,Nat.le_refl _,by omega,rfl,rfl,by omega,rfl⟩
 clear hq
 rintro m vs h ⟨j,q,hij,hj,rfl,rfl,hq,rfl⟩
 simp only [pwA,seval,-iQ0];refine iteI (fun hjt=>?_) fun hge=>?_
 rotate_left
 ·simp only [pwA,seval,-iQ0,wi]
  exact⟨_,by omega,i+1,q,by omega,rfl,rfl,by omega⟩
 have hk1:j-i-1<C[i].length:=by omega
 have hk1':((j-i-1:Nat):Int)<(C[i].length:Int):=by omega
 have wj:=wrapS hjt (by omega:O.length≤4611686018427387904)
 have wk:IntKind.i64.wrap ((j:Int)-(i:Int))=(j:Int)-(i:Int):=wrap64 (by omega) (by omega)
 have wk1:IntKind.i64.wrap ((j:Int)-(i:Int)-1)=((j-i-1:Nat):Int):=by rw [wrap64 (by omega) (by omega)];omega
 obtain⟨w6,a6,hr6⟩:=hrs.rowI hk1;obtain⟨pl,pe⟩:=CR i hltC _ hk1;simp only [pwA,seval,-iQ0,r2,hltC,hltC',hr,wk,wk1,hk1,hk1',hr6];refine zDe (by omega) hjt fun wu hu=>?_
 obtain⟨w7,a7,rfl⟩:=hu;simp only [pwA,seval,-iQ0,r2,hltC,hltC',hr,wk,wk1,hk1,hk1',hr6];refine QJ rfl rfl (by omega) ?_
 by_cases hz:C[i][j-i-1]=unitL O.length j
 ·simp only [pwA,seval,-iQ0,hz,wj]
  exact⟨_,by omega,j+1,q,by omega,by omega,rfl,rfl,by omega⟩
 simp only [pwA,seval,-iQ0,hz,r2,hltC,hltC',hr,wk,wk1,hk1,hk1',hr6,wj];refine qQ (by first | omega | (simp only [List.length_append,List.length_cons,List.length_nil];omega)) ?_
 simp only [pwA,seval,-iQ0,hz,r2,hltC,hltC',hr,wk,wk1,hk1,hk1',hr6,wj];refine zAn (by omega) fun d1 hd1=>?_
 simp only [pwA,seval,-iQ0,hz,r2,hltC,hltC',hr,wk,wk1,hk1,hk1',hr6,wj];refine qQ (by first | omega | (simp only [List.length_append,List.length_cons,List.length_nil];omega)) ?_
 simp only [pwA,seval,-iQ0,hz,r2,hltC,hltC',hr,wk,wk1,hk1,hk1',hr6,wj];refine qQ (by first | omega | (simp only [List.length_append,List.length_cons,List.length_nil];omega)) ?_
 simp only [pwA,seval,-iQ0,hz,r2,hltC,hltC',hr,wk,wk1,hk1,hk1',hr6,wj];refine zAn (by omega) fun d2 hd2=>?_
 simp only [pwA,seval,-iQ0,hz,r2,hltC,hltC',hr,wk,wk1,hk1,hk1',hr6,wj];refine qQ (by first | omega | (simp only [List.length_append,List.length_cons,List.length_nil];omega)) ?_
 simp only [pwA,seval,-iQ0,hz,r2,hltC,hltC',hr,wk,wk1,hk1,hk1',hr6,wj];refine qQ (by first | omega | (simp only [List.length_append,List.length_cons,List.length_nil];omega)) ?_
 simp only [pwA,seval,-iQ0,hz,r2,hltC,hltC',hr,wk,wk1,hk1,hk1',hr6,wj];refine zEX ⟨w6,a6,rfl⟩ (by omega) pe fun u wd hu hwd=>?_
 obtain⟨w5,a5,rfl⟩:=hu;simp only [pwA,seval,-iQ0,hz,r2,hltC,hltC',hr,wk,wk1,hk1,hk1',hr6,wj];refine zEY (by omega) fun d3 hd3=>?_
 simp only [pwA,seval,-iQ0,hz,r2,hltC,hltC',hr,wk,wk1,hk1,hk1',hr6,wj];refine qQ (by first | omega | (simp only [List.length_append,List.length_cons,List.length_nil];omega)) ?_
 simp only [pwA,seval,-iQ0,hz,r2,hltC,hltC',hr,wk,wk1,hk1,hk1',hr6,wj];exact⟨_,by omega,j+1,_,by omega,by omega,rfl,rfl,by simp only [List.length_append,List.length_cons,List.length_nil];omega⟩
end Go.Proofs
namespace Go.Grp
end Go.Grp
namespace Go.Proofs
open Go.Ab Go.Lie Go.Grp
variable {σ σ0 h h':PHeap} {K:PV→PHeap→Prop} {b k nP nC r s0 i j n:Nat} {v vO vP vC c vX vS vL vM:PV} {x O xs bs:List Int} {P M:List (List Int)} {C:List (List (List Int))} {cs:List PV} {s t:List UInt8}
theorem zFh {cap:Cap} (ho:σ.obj s0=some (pis O)) (hO:O.length≤6) (hp:∀a∈O,isP a) (hk:∀r:Int,K (.int .i64 r) σ):zA Tryz.prog 36 [.sl s0 0 O.length cap] σ K:=by
 refine zC mix Tryz.func36 ?_
 conv=>arg 2;cbv
 refine zF rfl ?_;simp only [pwA,seval,-iQ0];refine zG (fun m vs h=>∃(i:Nat) (y:Int),i≤O.length∧m=O.length-i∧vs=[.sl s0 0 O.length cap,.int .i64 y,.int .i64 i]∧1≤y∧y≤729000∧h=σ) O.length ?_ ?_
 ·exact⟨0,1,Nat.zero_le _,rfl,rfl,by decide,by decide,rfl⟩
 rintro m vs h ⟨i,y,hi,rfl,rfl,y0,y1,rfl⟩
 simp only [pwA,seval,-iQ0];refine iteI (fun hlt=>?_) fun hge=>?_
 rotate_left
 ·exact hk y
 have hlt':(i:Int)<(O.length:Int):=by omega
 have ob:=(hp _ (List.getElem_mem hlt)).b1;have rd:h.rd1 s0 i=some (.int .i64 O[i]):=by rw [zH ho,zM,gi hlt];rfl
 have wi:=wrapS hlt (by omega:O.length≤4611686018427387904)
 refine iteI (fun h7=>?_) fun h7=>?_
 rotate_left
 ·simp only [pwA,seval,-iQ0,wi]
  exact⟨_,by omega,i+1,y,by omega,rfl,rfl,y0,y1⟩
 have m0:1≤y*O[i]:=by have:=Int.mul_le_mul y0 ob.1 (by decide) (by omega);omega
 have m1:y*O[i]≤729000:=by have:=Int.mul_le_mul h7 ob.2 (by omega) (by decide:(0:Int)≤729);omega
 have wm:IntKind.i64.wrap (y*O[i])=y*O[i]:=wrap64 (by omega) (by omega)
 simp only [pwA,seval,-iQ0,hlt,hlt',rd,wi,wm];exact⟨_,by omega,i+1,_,by omega,rfl,rfl,m0,m1⟩
theorem PSl.fin_tf {t:Bool} (kk:Keep σ h) (pa:PSl σ.next 1 h v x.length (pis x)) (hk:∀u,FI u x→K (.tup [u,.bool t]) σ):Gh σ K (.tup [v,.bool t]) h:=by
 obtain⟨s,cap,rfl,q1,q2,q3,q4,q5⟩:=pa;have e:(TR.tup [TR.row s cap x,.leaf (.bool t)]).pv=.tup [.sl s 0 x.length cap,.bool t]:=by simp only [TR.pv,TR.pvs,TR.row_pv]
 rw [←e];refine Gh.treeF kk (q9 ⟨TR.row_ok q1 q2 q4 q5,trivial,trivial⟩) fun a=>?_
 have:=hk ((TR.row s cap x).fz a) TR.row_FI
 simpa only [TR.fz,TR.fzs]using this
theorem zJR (kk:Keep σ h) (hk:∀u,FI u []→K (.tup [u,.bool false]) σ):Gh σ K (.tup [.fz true .nils 0 [],.bool false]) h:=by
 have e:(TR.tup [TR.nil,.leaf (.bool false)]).pv=.tup [.fz true .nils 0 [],.bool false]:=by simp only [TR.pv,TR.pvs]
 rw [←e];refine Gh.treeF kk ⟨trivial,trivial,trivial⟩ fun a=>?_
 have:=hk (.fz true .nils 0 []) ⟨true,.nils,rfl⟩
 simpa only [TR.fz,TR.fzs]using this
theorem zGp (hs:s.length≤500) (hk:∀v O t,FI v O→O.length≤6→(∀a∈O,isP a)→K (.tup [v,.bool t]) σ):zA Tryz.prog 245 [.str s] σ K:=by
 have nil:∀{h:PHeap},Keep σ h→Gh σ K (.tup [.fz true .nils 0 [],.bool false]) h:=fun {h} kk=>zJR kk fun u hu=>hk u [] false hu (by decide) fun a ha=>by cases ha
 refine zA.gh ?_;refine zC mix Tryz.func245 ?_
 conv=>arg 2;cbv
 refine zF rfl ?_;simp only [pwA,seval,-iQ0];refine iteI (fun h1=>?_) fun h1=>?_
 ·simp only [pwA,seval,-iQ0]
  exact PSl.fin_tf (x:=[]) (zB _ _) (PSl.new _ 1 rfl (Nat.le_refl _)) fun u hu=>hk u [] true hu (by decide) fun a ha=>by cases ha
 simp only [pwA,seval,-iQ0];refine zAp (s:=s) (by omega) fun a n cells hn1 hn2 hcl hst=>?_
 simp only [pwA,seval,-iQ0];refine zG (fun m vs h=>∃(i:Nat) (v:PV) (O:List Int),i≤n∧m=n-i∧vs=[v,.fz true a n cells,.int .i64 i]∧O.length=i∧i≤6∧(∀a∈O,isP a)∧Keep σ h∧PSl σ.next 1 h v O.length (pis O)) n ?_ ?_
 ·exact⟨0,_,[],Nat.zero_le _,rfl,rfl,rfl,Nat.zero_le _,fun a ha=>(by cases ha),zB _ _,PSl.new _ 1 rfl (Nat.le_refl _)⟩
 rintro m vs h ⟨i,v,O,hi,rfl,rfl,hOl,hi6,hO,kk,pa⟩
 have h1:=pa.one;simp only [pwA,seval,-iQ0,h1];refine iteI (fun hlt=>?_) fun hge=>?_
 rotate_left
 ·have pa0:=pa
  obtain⟨sO,cap,rfl,q1,q2,q3,q4,q5⟩:=pa0;refine zFh q2 (by omega) hO fun r=>?_
  simp only [pwA,seval,-iQ0];exact PSl.fin_tf kk pa fun u hu=>hk u O _ hu (by omega) hO
 have hlt':(i:Int)<(n:Int):=by omega
 obtain⟨q,eq_,hq⟩:=hst _ (List.getElem_mem (by omega:i<cells.length))
 have gc:cells[i]? = some (.str q):=by rw [List.getElem?_eq_getElem (by omega),eq_]
 simp only [pwA,seval,-iQ0,hlt,hlt',gc];refine zIB (by omega) fun y hy=>?_
 have wi:=wrapS hlt (by omega:n≤4611686018427387904)
 simp only [pwA,seval,-iQ0];refine zAq ?_
 by_cases hp:isP y
 rotate_left
 ·simp only [pwA,seval,-iQ0,hp]
  exact nil kk
 by_cases h6:6≤i
 ·have h6':(6:Int)≤(i:Int):=by omega
  simp only [pwA,seval,-iQ0,hp,h6,h6'];exact nil kk
 have h6':¬(6:Int)≤(i:Int):=by omega
 simp only [pwA,seval,-iQ0,hp,h6,h6',h1];refine PSl.push (σb:=σ) (bytes:=8) kk pa (by omega) (by omega) fun v2 h2 k2 a2=>?_
 have h3:=a2.one;simp only [pwA,seval,-iQ0,h3,wi];have e:pis (O++[y])=pis O++[.int .i64 y]:=by simp [pis]
 refine⟨_,by omega,i+1,v2,O++[y],by omega,rfl,rfl,by rw [List.length_append,hOl];rfl,by omega,fun a ha=>?_,k2,by rw [e,List.length_append];exact a2⟩
 rcases List.mem_append.1 ha with ha|ha
 ·exact hO a ha
 ·rw [List.mem_singleton.1 ha];exact hp
theorem zH9 {n:Nat} (hn:n≤6) (hs:s.length≤500) (hk:∀v xs t,FI v xs→(∀x∈xs,-6≤x∧x≤(n:Int)∧x≠0)→xs.length≤s.length→K (.tup [v,.bool t]) σ):zA Tryz.prog 252 [.int .i64 n,.str s] σ K:=by
 have nil:∀{h:PHeap},Keep σ h→Gh σ K (.tup [.fz true .nils 0 [],.bool false]) h:=fun {h} kk=>zJR kk fun u hu=>hk u [] false hu (fun a ha=>by cases ha) (Nat.zero_le _)
 refine zA.gh ?_;refine zC mix Tryz.func252 ?_
 conv=>arg 2;cbv
 refine zF rfl ?_;simp only [pwA,seval,-iQ0];refine iteI (fun h1=>?_) fun h1=>?_
 ·simp only [pwA,seval,-iQ0]
  exact PSl.fin_tf (x:=[]) (zB _ _) (PSl.new _ 1 rfl (Nat.le_refl _)) fun u hu=>hk u [] true hu (fun a ha=>by cases ha) (Nat.zero_le _)
 simp only [pwA,seval,-iQ0];refine zG (fun m vs h=>∃(i:Nat) (v:PV) (xs:List Int),i≤s.length∧m=s.length-i∧vs=[.int .i64 n,.str s,v,.int .i64 i]∧xs.length=i∧(∀x∈xs,-6≤x∧x≤(n:Int)∧x≠0)∧Keep σ h∧PSl σ.next 1 h v xs.length (pis xs)) s.length ?_ ?_
 ·exact⟨0,_,[],Nat.zero_le _,rfl,rfl,rfl,fun a ha=>(by cases ha),zB _ _,PSl.new _ 1 rfl (Nat.le_refl _)⟩
 rintro m vs h ⟨i,v,xs,hi,rfl,rfl,hxl,hx,kk,pa⟩
 have h1:=pa.one;simp only [pwA,seval,-iQ0,h1];refine iteI (fun hlt=>?_) fun hge=>?_
 rotate_left
 ·have hl:pLen v=some (.int .i64 xs.length):=by obtain⟨s',cap,rfl,_⟩:=pa;rfl
  simp only [pwA,seval,-iQ0,h1,hl];exact PSl.fin_tf kk pa fun u hu=>hk u xs _ hu hx (by omega)
 have gs:s[i]? = some s[i]:=List.getElem?_eq_getElem hlt;have c0:(s[i].toNat:Int)<256:=by have:=s[i].toNat_lt;omega
 have c1:(0:Int)≤(s[i].toNat:Int):=by omega
 have wi:=wrapS hlt (by omega:s.length≤4611686018427387904)
 have q0:IntKind.i64.wrap (s[i].toNat:Int)=(s[i].toNat:Int):=wrap64 (by omega) (by omega)
 have q1:IntKind.i64.wrap ((s[i].toNat:Int)-97)=(s[i].toNat:Int)-97:=wrap64 (by omega) (by omega)
 have q2:IntKind.i64.wrap ((s[i].toNat:Int)-97+1)=(s[i].toNat:Int)-97+1:=wrap64 (by omega) (by omega)
 have q3:IntKind.i64.wrap ((s[i].toNat:Int)-65)=(s[i].toNat:Int)-65:=wrap64 (by omega) (by omega)
 have q4:IntKind.i64.wrap ((s[i].toNat:Int)-65+1)=(s[i].toNat:Int)-65+1:=wrap64 (by omega) (by omega)
 have q5:IntKind.i64.wrap (0-((s[i].toNat:Int)-65+1))=-((s[i].toNat:Int)-65+1):=by rw [wrap64 (by omega) (by omega)];omega
 simp only [pwA,seval,-iQ0,gs,q0,q1,q2,q3,q4,h1];refine zBP ?_;have put:∀{y:Int},(-6≤y∧y≤(n:Int)∧y≠0)→∀a∈xs++[y],-6≤a∧a≤(n:Int)∧a≠0:=fun {y} hy a ha=>by
  rcases List.mem_append.1 ha with ha|ha
  ·exact hx a ha
  ·rw [List.mem_singleton.1 ha];exact hy
 have e:∀y:Int,pis (xs++[y])=pis xs++[.int .i64 y]:=fun y=>by simp [pis]
 have el:∀y:Int,(xs++[y]).length=xs.length+1:=fun y=>by simp
 by_cases c2:1≤(s[i].toNat:Int)-97+1∧(s[i].toNat:Int)-97+1≤(n:Int)
 ·simp only [pwA,seval,-iQ0,c2,h1]
  refine PSl.push (σb:=σ) (bytes:=8) kk pa (by omega) (by omega) fun v2 h2 k2 a2=>?_
  have h3:=a2.one;simp only [pwA,seval,-iQ0,h3,wi];exact⟨_,by omega,i+1,v2,xs++[(s[i].toNat:Int)-97+1],by omega,rfl,rfl,by rw [el,hxl],put (by omega),k2,by rw [e,el];exact a2⟩
 simp only [pwA,seval,-iQ0,c2,h1];refine zBP ?_
 by_cases c3:1≤(s[i].toNat:Int)-65+1∧(s[i].toNat:Int)-65+1≤(n:Int)
 ·simp only [pwA,seval,-iQ0,c3,h1,q5]
  refine PSl.push (σb:=σ) (bytes:=8) kk pa (by omega) (by omega) fun v2 h2 k2 a2=>?_
  have h3:=a2.one;simp only [pwA,seval,-iQ0,h3,wi];exact⟨_,by omega,i+1,v2,xs++[-((s[i].toNat:Int)-65+1)],by omega,rfl,rfl,by rw [el,hxl],put (by omega),k2,by rw [e,el];exact a2⟩
 simp only [pwA,seval,-iQ0,c3,h1];exact nil kk
end Go.Proofs
namespace Go.Grp
end Go.Grp
namespace Go.Proofs
open Go.Ab Go.Lie Go.Grp
variable {σ σ0 h h':PHeap} {K:PV→PHeap→Prop} {b k nP nC r s0 i j n:Nat} {L L':Nat→Nat} {Q Q':Nat→Prop} {len:Nat→Nat} {v vO vP vC c vX vS vL vM:PV} {x O xs bs:List Int} {P M:List (List Int)} {C:List (List (List Int))} {cs:List PV} {s t:List UInt8}
theorem zGn {n:Nat} (hn:n≤6) (hv:FI v x) (hx:∀a∈x,-6≤a∧a≤(n:Int)∧a≠0) (hl:x.length≤1000) (hk0:∀h,Keep σ h→K (.tup [.fz true .nils 0 [],.bool false]) h) (hk1:∀ys,ys.length=n→K (.tup [.sl σ.next 0 n (.known n),.bool true]) (σ.new (pis ys))):zA Tryz.prog 253 [.int .i64 n,v] σ K:=by
 obtain⟨w,a,rfl⟩:=hv;refine zC mix Tryz.func253 ?_
 conv=>arg 2;cbv
 refine zF rfl ?_;simp only [pwA,seval,-iQ0,zi,mk8 (n:=n) (by omega),Go.Ab.mkL (n:=n) (by omega)]
 refine zG (fun m vs h=>∃(i:Nat) (ys:List Int),i≤x.length∧m=x.length-i∧vs=[.fz w a x.length (pis x),.sl σ.next 0 n (.known n),.int .i64 i]∧ys.length=n∧(∀y∈ys,0≤y∧y≤(i:Int))∧h=σ.new (pis ys)) x.length ?_ ?_
 ·exact⟨0,List.replicate n 0,Nat.zero_le _,rfl,rfl,by simp,fun y hy=>by rw [(List.mem_replicate.1 hy).2];exact⟨Int.le_refl _,Int.le_refl _⟩,rfl⟩
 rintro m vs h ⟨i,ys,hi,rfl,rfl,hyl,hy,rfl⟩
 simp only [pwA,seval,-iQ0];refine iteI (fun hlt=>?_) fun hge=>?_
 rotate_left
 ·exact hk1 ys hyl
 have hlt':(i:Int)<(x.length:Int):=by omega
 have gx:(pis x)[i]? = some (.int .i64 x[i]):=by rw [zM,gi hlt];rfl
 have xb:=hx _ (List.getElem_mem hlt);have wi:=wrapS hlt (by omega:x.length≤4611686018427387904)
 simp only [pwA,seval,-iQ0,hlt,hlt',gx];refine iteI (fun hneg=>?_) fun hpos=>?_
 ·exact hk0 _ (zB _ _)
 obtain⟨j,hj⟩:∃j:Nat,x[i]=(j:Int)+1:=⟨(x[i] - 1).toNat,by omega⟩
 have hjn:j<n:=by omega
 have hjn':(j:Int)<(n:Int):=by omega
 have hjy:j<ys.length:=by omega
 rw [hj]at gx
 have w1:IntKind.i64.wrap ((j:Int)+1-1)=(j:Int):=by rw [wrap64 (by omega) (by omega)];omega
 have yb:=hy _ (List.getElem_mem hjy);have w2:IntKind.i64.wrap (ys[j] + 1)=ys[j] + 1:=wrap64 (by omega) (by omega)
 have gy:(pis ys)[j]? = some (.int .i64 ys[j]):=by rw [zM,gi hjy];rfl
 have wr:(σ.new (pis ys)).wr σ.next j [.int .i64 (ys[j] + 1)]=some ((σ.new (pis ys)).set σ.next (pis (ys.set j (ys[j] + 1)))):=zDD (by rw [zD,if_pos rfl]) hjy
 have e2:(σ.new (pis ys)).set σ.next (pis (ys.set j (ys[j] + 1)))=σ.new (pis (ys.set j (ys[j] + 1))):=by
  unfold PHeap.set PHeap.new
  congr 1
  funext q
  by_cases e:q=σ.next<;>simp [e]
 have rd:(σ.new (pis ys)).rd1 σ.next j=some (.int .i64 ys[j]):=by rw [zH (by rw [zD,if_pos rfl])];exact gy
 rw [e2]at wr
 generalize hG:σ.new (pis ys)=G at *
 simp only [pwA,seval,-iQ0,hlt,hlt',gx,hj,w1,hjn,hjn',rd,w2,wr,wi];refine⟨_,by omega,i+1,ys.set j (ys[j] + 1),by omega,rfl,rfl,by rw [List.length_set];exact hyl,fun y hy'=>?_,rfl⟩
 rcases List.mem_or_eq_of_mem_set hy' with hy' | rfl
 ·have:=hy y hy';omega
 ·omega
theorem PW.fin2b {e:Bool} (a:PW L b h Q O nP nC len vO vP vC) (hk:Keep σ h) (hb:σ.next≤b) (k:∀wO wP wC P C,IsPr wO wP wC O P C→PQ3 Q P C nP nC len→K (.tup [.agg [wO,wP,wC],.bool e]) σ):Gh σ K (.tup [.agg [vO,vP,vC],.bool e]) h:=by
 obtain⟨t1,a1,rfl,a3⟩:=a.hO.tree;obtain⟨t2,P,⟨b1,rfl,b3⟩,b4⟩:=a.hP.tree;obtain⟨t3,C,⟨c1,rfl,c3⟩,c4,c5,c6⟩:=a.hC.tree;have et:(TR.tup [TR.agg [t1,t2,t3],.leaf (.bool e)]).pv=.tup [.agg [t1.pv,t2.pv,t3.pv],.bool e]:=by simp only [TR.pv,TR.pvs]
 rw [←et];refine Gh.treeF hk (zAy (b:=b) hb ⟨⟨q9 a1,q9 b1,q9 c1,trivial⟩,trivial,trivial⟩) fun aa=>?_
 have:=k (t1.fz aa) (t2.fz aa) (t3.fz aa) P C ⟨a3 aa,(b3 aa).1,c3 aa⟩ ⟨b4,c4,(b3 aa).2,c5,c6⟩
 simpa only [TR.fz,TR.fzs]using this
set_option maxHeartbeats 1600000 in
theorem zEu (hR:IsPr vO vP vC O P C) (hO:O.length≤6) (hp:∀a∈O,isP a) (hq:PQ3 (fun m=>m=O.length) P C O.length O.length (fun i=>O.length-1-i)) (hs:s.length≤500)
  (hk:∀wO wP wC P' C' t,IsPr wO wP wC O P' C'→PQ3 (fun m=>m=O.length) P' C' O.length O.length (fun i=>O.length-1-i)→K (.tup [.agg [wO,wP,wC],.bool t]) σ):zA Tryz.prog 246 [.agg [vO,vP,vC],.str s] σ K:=by
 have g0:=hR.O.one;have g1:=hR.P.one;have g2:=hR.C.one;have hR0:=hR;have bad:∀{h:PHeap},Keep σ h→Gh σ K (.tup [.agg [vO,vP,vC],.bool false]) h:=fun {h} kk=>Gh.fin0 kk ⟨⟨hR.O.bel _,hR.P.bel _,hR.C.bel _,trivial⟩,trivial,trivial⟩ (hk _ _ _ P C false hR hq)
 obtain⟨⟨wO,aO,rfl⟩,hRP,hRC⟩:=hR;refine zA.gh ?_;refine zC mix Tryz.func246 ?_
 conv=>arg 2;cbv
 refine zF rfl ?_;simp only [pwA,seval,-iQ0,g0,g1,g2];generalize hH:(σ.new [PV.fz wO aO O.length (pis O),vP,vC]).new [PV.fz true AV.nils 0 [],PV.fz true AV.nils 0 [],PV.fz true AV.nils 0 []]=H;have hHn:H.next=σ.next+2:=by rw [←hH];rfl
 have kH:Keep σ H:=by rw [←hH];exact(zB _ _).new _
 have obx:H.obj σ.next=some [PV.fz wO aO O.length (pis O),vP,vC]:=by rw [←hH];simp only [pwA,seval,-iQ0]
 have obr:H.obj (σ.next+1)=some [PV.fz true AV.nils 0 [],PV.fz true AV.nils 0 [],PV.fz true AV.nils 0 []]:=by rw [←hH];simp only [pwA,seval,-iQ0]
 clear hH;have fin0:∀{g:PHeap},Keep H g→g.rd σ.next 0 3=some [PV.fz wO aO O.length (pis O),vP,vC]∧g.wr (σ.next+1) 0 [PV.fz wO aO O.length (pis O),vP,vC]=some (g.set (σ.next+1) [PV.fz wO aO O.length (pis O),vP,vC])∧(g.set (σ.next+1) [PV.fz wO aO O.length (pis O),vP,vC]).rd (σ.next+1) 0 3=some [PV.fz wO aO O.length (pis O),vP,vC]∧Gh σ K (.tup [.agg [PV.fz wO aO O.length (pis O),vP,vC],.bool false]) (g.set (σ.next+1) [PV.fz wO aO O.length (pis O),vP,vC]):=fun {g} kg=>by
  refine⟨by rw [zb (by rw [kg.obj _ (by omega)];exact obx)];rfl,by rw [zX (by rw [kg.obj _ (by omega)];exact obr),if_pos ⟨by simp,by simp [g0,g1,g2]⟩];rfl,by rw [qZ,if_pos rfl];rfl,bad ((kH.trans kg).set (by omega) _)⟩
 obtain⟨e1,e2,e3,e4⟩:=fin0 (Keep.refl H);refine zAp (s:=s) (by omega) fun a n cells hn1 hn2 hcl hst=>?_
 by_cases h2:n=2
 rotate_left
 ·have d2:¬((n:Nat):Int)=2:=by omega
  simp only [pwA,seval,-iQ0,d2,g0,g1,g2,e1,e2,e3];exact e4
 subst h2;obtain⟨p0,hp0,hp0l⟩:=hst _ (List.getElem_mem (by omega:0<cells.length))
 obtain⟨p1,hp1,hp1l⟩:=hst _ (List.getElem_mem (by omega:1<cells.length))
 have c0:cells[0]? = some (.str p0):=by rw [List.getElem?_eq_getElem (by omega),hp0]
 have c1:cells[1]? = some (.str p1):=by rw [List.getElem?_eq_getElem (by omega),hp1]
 have d2:((2:Nat):Int)=2:=rfl;have z2:(0:Int)<((2:Nat):Int):=by decide
 have z12:(1:Int)<((2:Nat):Int):=by decide
 by_cases h4:p0.length=4
 rotate_left
 ·have d4:¬((p0.length:Nat):Int)=4:=by omega
  simp only [pwA,seval,-iQ0,d2,z2,c0,d4,g0,g1,g2,e1,e2,e3];exact e4
 have d4:((p0.length:Nat):Int)=4:=by omega
 by_cases h32:p0[0].toNat=32
 rotate_left
 ·have d5:¬((p0[0].toNat:Nat):Int)=32:=by omega
  simp only [pwA,seval,-iQ0,d2,z2,c0,d4,d5,g0,g1,g2,e1,e2,e3,Int.toNat_zero,List.getElem?_eq_getElem (by omega:0<p0.length)]
  exact e4
 have d5:((p0[0].toNat:Nat):Int)=32:=by omega
 have n2:(2:Int).toNat=2:=rfl;have n1:(1:Int).toNat=1:=rfl;have n3:(3:Int).toNat=3:=rfl
 by_cases h94:p0[2].toNat=94
 rotate_left
 ·have d6:¬((p0[2].toNat:Nat):Int)=94:=by omega
  simp only [pwA,seval,-iQ0,d2,z2,c0,d4,d5,d6,n2,g0,g1,g2,e1,e2,e3,Int.toNat_zero,Int.toNat_one,List.getElem?_eq_getElem (by omega:0<p0.length),List.getElem?_eq_getElem (by omega:1<p0.length),List.getElem?_eq_getElem (by omega:2<p0.length),List.getElem?_eq_getElem (by omega:3<p0.length)]
  exact e4
 have d6:((p0[2].toNat:Nat):Int)=94:=by omega
 simp only [pwA,seval,-iQ0,d2,z2,z12,c0,c1,d4,d5,d6,n2,g0,g1,g2,Int.toNat_zero,Int.toNat_one,List.getElem?_eq_getElem (by omega:0<p0.length),List.getElem?_eq_getElem (by omega:1<p0.length),List.getElem?_eq_getElem (by omega:2<p0.length),List.getElem?_eq_getElem (by omega:3<p0.length)]
 refine zH9 (n:=O.length) hO (s:=p1) (by omega) fun vu u t1 hu huv hul=>?_
 have hu1:=hu.one;cases t1
 ·simp only [pwA,seval,-iQ0,g0,g1,g2,e1,e2,e3,hu1]
  exact e4
 have b1:(p0[1].toNat:Int)<256:=by have:=p0[1].toNat_lt;omega
 have b3:(p0[3].toNat:Int)<256:=by have:=p0[3].toNat_lt;omega
 have q1:IntKind.i64.wrap (p0[1].toNat:Int)=(p0[1].toNat:Int):=wrap64 (by omega) (by omega)
 have q3:IntKind.i64.wrap (p0[3].toNat:Int)=(p0[3].toNat:Int):=wrap64 (by omega) (by omega)
 have q1':IntKind.i64.wrap ((p0[1].toNat:Int)-97)=(p0[1].toNat:Int)-97:=wrap64 (by omega) (by omega)
 have q3':IntKind.i64.wrap ((p0[3].toNat:Int)-97)=(p0[3].toNat:Int)-97:=wrap64 (by omega) (by omega)
 simp only [pwA,seval,-iQ0,hu1];refine zGn (n:=O.length) hO hu huv (by omega) (fun g kg=>?_) fun ys hys=>?_
 ·obtain⟨f1,f2,f3,f4⟩:=fin0 kg
  simp only [pwA,seval,-iQ0,z2,c0,n1,n3,q1,q3,q1',q3',g0,g1,g2,f1,f2,f3,Int.toNat_zero,Int.toNat_one,List.getElem?_eq_getElem (by omega:0<p0.length),List.getElem?_eq_getElem (by omega:1<p0.length),List.getElem?_eq_getElem (by omega:2<p0.length),List.getElem?_eq_getElem (by omega:3<p0.length)]
  exact f4
 have kg:=zB H (pis ys);have hH1n:(H.new (pis ys)).next=H.next+1:=rfl;have obv:(H.new (pis ys)).obj H.next=some (pis ys):=by rw [zD,if_pos rfl]
 have obx1:(H.new (pis ys)).obj σ.next=some [PV.fz wO aO O.length (pis O),vP,vC]:=by rw [zD,if_neg (by omega)];exact obx
 have obr1:(H.new (pis ys)).obj (σ.next+1)=some [PV.fz true AV.nils 0 [],PV.fz true AV.nils 0 [],PV.fz true AV.nils 0 []]:=by rw [zD,if_neg (by omega)];exact obr
 generalize H.new (pis ys)=H1 at *
 obtain⟨f1,f2,f3,f4⟩:=fin0 kg
 by_cases j0:(p0[1].toNat:Int)-97<0
 ·simp only [pwA,seval,-iQ0,z2,c0,n1,n3,q1,q3,q1',q3',j0,g0,g1,g2,f1,f2,f3,Int.toNat_zero,Int.toNat_one,List.getElem?_eq_getElem (by omega:0<p0.length),List.getElem?_eq_getElem (by omega:1<p0.length),List.getElem?_eq_getElem (by omega:2<p0.length),List.getElem?_eq_getElem (by omega:3<p0.length)]
  exact f4
 by_cases j1:(O.length:Int)≤(p0[1].toNat:Int)-97
 ·simp only [pwA,seval,-iQ0,z2,c0,n1,n3,q1,q3,q1',q3',j0,j1,g0,g1,g2,f1,f2,f3,Int.toNat_zero,Int.toNat_one,List.getElem?_eq_getElem (by omega:0<p0.length),List.getElem?_eq_getElem (by omega:1<p0.length),List.getElem?_eq_getElem (by omega:2<p0.length),List.getElem?_eq_getElem (by omega:3<p0.length)]
  exact f4
 simp only [pwA,seval,-iQ0,z2,c0,n1,n3,q1,q3,q1',q3',j0,j1,g0,g1,g2,f1,Int.toNat_zero,Int.toNat_one,List.getElem?_eq_getElem (by omega:0<p0.length),List.getElem?_eq_getElem (by omega:1<p0.length),List.getElem?_eq_getElem (by omega:2<p0.length),List.getElem?_eq_getElem (by omega:3<p0.length)]
 obtain⟨j,hj⟩:∃j:Nat,(p0[1].toNat:Int)-97=j:=⟨((p0[1].toNat:Int)-97).toNat,by omega⟩
 rw [hj]at j0 j1 ⊢
 have hjn:j<O.length:=by omega
 have hjn':(j:Int)<(O.length:Int):=by omega
 refine zCx (Q:=fun m=>m=O.length) hR0 (by omega) (by rw [hq.pl];omega) (by rw [hq.cl];omega) (fun q hq'=>?_) (fun r hr=>hq.pq r hr) (fun q hq' r hr=>hq.cq q hq' r hr) (fun m hm=>by omega) fun L h uO uP uC k1 p1=>?_
 ·obtain⟨i,hi,rfl⟩:=List.mem_iff_getElem.1 hq'
  have:=hq.row i (by rw [←hq.cl];exact hi)
  rw [List.getD_eq_getElem?_getD,List.getElem?_eq_getElem hi]at this
  have e:C[i].length=O.length-1-i:=this;omega
 have hn1':=k1.next;rw [hq.pl,hq.cl]at p1
 have p2:=(p1.lenE hq.row).mark (b':=H.next) (L':=mkM L H.next 1) (by omega) fun t ht=>by unfold mkM;rw [if_neg (by omega)]
 have a:=TB.start p2 (r:=σ.next+1) (by omega) (by rw [k1.obj _ (by omega)];exact obr1) (by omega)
 have hv:RowAt (mkM (mkM L H.next 1) h.next 7) (h.new [uO,uP,uC]) H.next (fun m=>m=O.length) (.sl H.next 0 O.length (.known O.length)):=by
  refine⟨ys,hys,H.next,.known O.length,by rw [hys],.inr (by rw [hys]),by rw [zD,if_neg (by omega),k1.obj _ (by omega)];exact obv,Nat.le_refl _,by show H.next<h.next+1;omega,?_⟩
  unfold mkM;rw [if_neg (by omega),if_pos rfl]
 have k2:Keep H1 (h.new [uO,uP,uC]):=k1.new _;simp only [pwA,seval,-iQ0,p2.hO.one,p2.hP.one,p2.hC.one];generalize h.next=sl at *
 generalize h.new [uO,uP,uC]=g at *
 clear p1 p2 k1;have ob:=hp _ (List.getElem_mem hjn);have ob7:=ob.b1;have gx:(pis O)[j]? = some (.int .i64 O[j]):=by rw [zM,gi hjn];rfl
 have rx:g.rd1 σ.next 0=some (.fz wO aO O.length (pis O)):=by rw [zH (by rw [k2.obj _ (by omega)];exact obx1)];rfl
 have fin:∀{g:PHeap} {L':Nat→Nat} {t:Bool},Keep H g→TB H.next g (fun m=>m=O.length) O L' O.length O.length (fun i=>O.length-1-i) (σ.next+1) sl uO uP uC→
   g.wr (σ.next+1) 0 [uO,uP,uC]=some (g.set (σ.next+1) [uO,uP,uC])∧(g.set (σ.next+1) [uO,uP,uC]).rd (σ.next+1) 0 3=some [uO,uP,uC]∧Gh σ K (.tup [.agg [uO,uP,uC],.bool t]) (g.set (σ.next+1) [uO,uP,uC]):=fun {g L' t} kg' a=>by
  obtain⟨e1,e2,e3⟩:=a.fin;exact⟨e1,e2,e3.fin2b ((kH.trans kg').set (by omega) _) (by omega) fun wO wP wC P C r1 r2=>hk wO wP wC P C t r1 r2⟩
 have l3:(3:Int)≤(p0.length:Int):=by omega
 have l3':3≤p0.length:=by omega
 have l34:(3:Int)≤((4:Nat):Int):=by decide
 simp only [pwA,seval,-iQ0,z2,c0,n3,rx,hjn,hjn',gx,l3,l3',h4,l34,Int.toNat_zero,Int.toNat_one,List.getElem?_eq_getElem (by omega:0<p0.length),List.getElem?_eq_getElem (by omega:1<p0.length),List.getElem?_eq_getElem (by omega:2<p0.length),List.getElem?_eq_getElem (by omega:3<p0.length)]
 have t10:(10:Int) ^ (5+1)=1000000:=by decide
 refine zFk (n:=O[j]) 5 ⟨by omega,by omega,by rw [t10];omega⟩ (by decide) fun d hd=>?_
 simp only [pwA,seval,-iQ0,z2,c0,n3,rx,hjn,hjn',gx,l3,l3',h4,l34,Int.toNat_zero,Int.toNat_one,List.getElem?_eq_getElem (by omega:0<p0.length),List.getElem?_eq_getElem (by omega:1<p0.length),List.getElem?_eq_getElem (by omega:2<p0.length),List.getElem?_eq_getElem (by omega:3<p0.length)]
 generalize (List.drop 3 (List.take 4 p0) == d)=bb;cases bb;rotate_left
 ·obtain⟨sP,capP,ds,rfl,w1,w2,w3,a2⟩:=a.putP hjn hv
  have k3:Keep H (g.set sP ds):=(kg.trans k2).set w1 _;obtain⟨f1,f2,f3⟩:=fin (t:=true) k3 a2;have r1:=a.r1;have r3:=a2.r3;generalize g.set sP ds=g2 at *
  simp only [pwA,seval,-iQ0,r1,hjn,hjn',w3,r3,f1,f2];exact f3
 simp only [pwA,seval,-iQ0]
 by_cases i0:(p0[3].toNat:Int)-97<0
 ·obtain⟨f1,f2,f3,f4⟩:=fin0 (kg.trans k2)
  simp only [pwA,seval,-iQ0,i0,f1,f2,f3,g0,g1,g2];exact f4
 obtain⟨i,hi⟩:∃i:Nat,(p0[3].toNat:Int)-97=i:=⟨((p0[3].toNat:Int)-97).toNat,by omega⟩
 rw [hi]at i0 ⊢
 by_cases i1:(j:Int)≤(i:Int)
 ·obtain⟨f1,f2,f3,f4⟩:=fin0 (kg.trans k2)
  simp only [pwA,seval,-iQ0,i0,i1,f1,f2,f3,g0,g1,g2];exact f4
 have hin:i<O.length:=by omega
 have hin':(i:Int)<(O.length:Int):=by omega
 have hji:j-i-1<O.length-1-i:=by omega
 have hji':((j-i-1:Nat):Int)<((O.length-1-i:Nat):Int):=by omega
 have wk:IntKind.i64.wrap ((j:Int)-(i:Int))=(j:Int)-(i:Int):=wrap64 (by omega) (by omega)
 have wk1:IntKind.i64.wrap ((j:Int)-(i:Int)-1)=((j-i-1:Nat):Int):=by rw [wrap64 (by omega) (by omega)];omega
 obtain⟨sC,capC,u',capu,ds,rfl,rC,w1,w2,w3,w4,w5,a2⟩:=a.putC hin hji hv;have k3:Keep H (g.set u' ds):=(kg.trans k2).set w3 _;obtain⟨f1,f2,f3⟩:=fin (t:=true) k3 a2;have r2:=a.r2;have r3:=a2.r3;generalize g.set u' ds=g2 at *
 simp only [pwA,seval,-iQ0,i0,i1,r2,rC,hin,hin',hji,hji',wk,wk1,w5,r3,f1,f2];exact f3
end Go.Proofs
namespace Go.Grp
end Go.Grp
namespace Go.Proofs
open Go.Ab Go.Lie Go.Grp
variable {σ σ0 h h':PHeap} {K:PV→PHeap→Prop} {b k nP nC r s0 i j n:Nat} {L L':Nat→Nat} {Q Q':Nat→Prop} {len:Nat→Nat} {v vO vP vC c vX vS vL vM:PV} {x O xs bs:List Int} {P M:List (List Int)} {C:List (List (List Int))} {cs:List PV} {s t:List UInt8}
theorem zEt (hX:FI vX O) (hb:O.length≤1000) (hk:∀wO wP wC P C,IsPr wO wP wC O P C→PQ3 (fun m=>m=O.length) P C O.length O.length (fun j=>O.length-1-j)→K (.agg [wO,wP,wC]) σ):zA Tryz.prog 203 [vX] σ K:=
 zA.gh (zBa hX hb fun L h vO vP vC kk a=>a.fin kk (Nat.le_refl _) fun wO wP wC P C hR hq=>hk wO wP wC P C hR hq)
theorem Fm.sz {N:Nat} (a:Fm N O P C) (hN:N≤1000):SzP O P C:=by
 have n:=a.n;have q:=a.q;refine⟨by omega,⟨by rw [q.pl];omega,fun r hr=>by have:=q.pq r hr;omega⟩,⟨by rw [q.cl];omega,fun w hw=>⟨?_,fun r hr=>by have:=q.cq w hw r hr;omega⟩⟩⟩
 obtain⟨i,hi,rfl⟩:=List.mem_iff_getElem.1 hw
 have:=q.row i (by rw [←q.cl];exact hi)
 rw [List.getD_eq_getElem?_getD,List.getElem?_eq_getElem hi]at this
 have e:C[i].length=O.length-1-i:=this;omega
theorem zBg (hs:s.length≤500) (hk:∀e wO wP wC O P C,IsPr wO wP wC O P C→Fm 6 O P C→K (.tup [.agg [wO,wP,wC],.int .i64 e]) σ):zA Tryz.prog 240 [.str s] σ K:=by
 have nilP:=hk 6 _ _ _ [] [] [] ⟨⟨true,.nils,rfl⟩,⟨true,.nils,[],rfl,All2.nil _⟩,⟨true,.nils,[],rfl,All2.nil _⟩⟩ (Fm.nil 6);have nil:∀{h:PHeap},Keep σ h→Gh σ K (.tup [.agg [.fz true .nils 0 [],.fz true .nils 0 [],.fz true .nils 0 []],.int .i64 6]) h:=fun {h} kk=>Gh.fin0 kk ⟨⟨trivial,trivial,trivial,trivial⟩,trivial,trivial⟩ nilP
 refine zA.gh ?_;refine zC mix Tryz.func240 ?_
 conv=>arg 2;cbv
 refine zF rfl ?_;simp only [pwA,seval,-iQ0];refine zAp (s:=s) (by omega) fun a n cells hn1 hn2 hcl hst=>?_
 obtain⟨p0,hp0,hp0l⟩:=hst _ (List.getElem_mem (by omega:0<cells.length))
 have c0:cells[0]? = some (.str p0):=by rw [List.getElem?_eq_getElem (by omega),hp0]
 have z0:(0:Int)<(n:Int):=by omega
 have z0':0<n:=by omega
 simp only [pwA,seval,-iQ0,z0,z0',c0];refine zGp (s:=p0) (by omega) fun vX O t hX hO6 hOp=>?_
 have hX1:=hX.one;cases t
 ·simp only [pwA,seval,-iQ0,hX1]
  exact nil (zB _ _)
 simp only [pwA,seval,-iQ0,hX1];refine zEt hX (by omega) fun wO wP wC P C hR hq=>?_
 have o1:=hR.O.one;have o2:=hR.P.one;have o3:=hR.C.one;simp only [pwA,seval,-iQ0,o1,o2,o3];have nil3:∀{h:PHeap},Keep σ h→σ.next<h.next→h.obj σ.next=some [PV.fz true AV.nils 0 [],PV.fz true AV.nils 0 [],PV.fz true AV.nils 0 []]→
   h.wr σ.next 0 [.fz true .nils 0 [],.fz true .nils 0 [],.fz true .nils 0 []]=some (h.set σ.next [.fz true .nils 0 [],.fz true .nils 0 [],.fz true .nils 0 []])∧(h.set σ.next [.fz true .nils 0 [],.fz true .nils 0 [],.fz true .nils 0 []]).rd σ.next 0 3=some [.fz true .nils 0 [],.fz true .nils 0 [],.fz true .nils 0 []]∧Gh σ K (.tup [.agg [.fz true .nils 0 [],.fz true .nils 0 [],.fz true .nils 0 []],.int .i64 6]) (h.set σ.next [.fz true .nils 0 [],.fz true .nils 0 [],.fz true .nils 0 []]):=fun {h} kh hl ho=>
  ⟨by rw [zX ho,if_pos ⟨by simp,rfl⟩];rfl,by rw [qZ,if_pos rfl];rfl,nil (kh.set (Nat.le_refl _) _)⟩
 refine zG (fun m vs h=>∃(i:Nat) (wO wP wC:PV) (P:List (List Int)) (C:List (List (List Int))),1≤i∧i≤n∧m=n-i∧vs=[.str s,.ptr σ.next 0,.fz true a n cells,.ptr (σ.next+1) 0,.int .i64 i]∧IsPr wO wP wC O P C∧PQ3 (fun m=>m=O.length) P C O.length O.length (fun j=>O.length-1-j)∧
  Keep σ h∧σ.next+1<h.next∧h.obj σ.next=some [PV.fz true AV.nils 0 [],PV.fz true AV.nils 0 [],PV.fz true AV.nils 0 []]∧h.obj (σ.next+1)=some [wO,wP,wC]) (n-1) ?_ ?_
 ·exact⟨1,wO,wP,wC,P,C,Nat.le_refl _,hn1,rfl,rfl,hR,hq,(zB _ _).new _,by show _<σ.next+2;omega,by simp only [pwA,seval,-iQ0],by simp only [pwA,seval,-iQ0]⟩
 clear hR hq o1 o2 o3
 rintro m vs h ⟨i,wO,wP,wC,P,C,hi1,hi,rfl,rfl,hR,hq,kk,hl,ob0,ob1⟩
 have o1:=hR.O.one;have o2:=hR.P.one;have o3:=hR.C.one;have r3:h.rd (σ.next+1) 0 3=some [wO,wP,wC]:=by rw [zb ob1];rfl
 have fm:Fm 6 O P C:=⟨hO6,fun a ha=>(hOp a ha).b1,hq⟩
 simp only [pwA,seval,-iQ0];refine iteI (fun hlt=>?_) fun hge=>?_
 ·have hlt':(i:Int)<(n:Int):=by omega
  obtain⟨p1,hp1,hp1l⟩:=hst _ (List.getElem_mem (by omega:i<cells.length))
  have ci:cells[i]? = some (.str p1):=by rw [List.getElem?_eq_getElem (by omega),hp1]
  have wi:=wrapS hlt (by omega:n≤4611686018427387904)
  simp only [pwA,seval,-iQ0,r3,hlt,hlt',ci];refine zEu hR hO6 hOp hq (s:=p1) (by omega) fun uO uP uC P' C' t hR' hq'=>?_
  have g1:=hR'.O.one;have g2:=hR'.P.one;have g3:=hR'.C.one;have w:h.wr (σ.next+1) 0 [uO,uP,uC]=some (h.set (σ.next+1) [uO,uP,uC]):=by rw [zX ob1,if_pos ⟨by simp,by simp [g1,g2,g3]⟩];rfl
  have kk':Keep σ (h.set (σ.next+1) [uO,uP,uC]):=kk.set (by omega) _
  have hl':σ.next+1<(h.set (σ.next+1) [uO,uP,uC]).next:=hl;have ob0':(h.set (σ.next+1) [uO,uP,uC]).obj σ.next=some [PV.fz true AV.nils 0 [],PV.fz true AV.nils 0 [],PV.fz true AV.nils 0 []]:=by rw [zJ,if_neg (by omega)];exact ob0
  have ob1':(h.set (σ.next+1) [uO,uP,uC]).obj (σ.next+1)=some [uO,uP,uC]:=by rw [zJ,if_pos rfl]
  generalize h.set (σ.next+1) [uO,uP,uC]=g at *
  cases t
  ·obtain⟨f1,f2,f3⟩:=nil3 kk' (by omega) ob0'
   simp only [pwA,seval,-iQ0,g1,g2,g3,w,f1,f2];exact f3
  simp only [pwA,seval,-iQ0,g1,g2,g3,w,wi];exact⟨_,by omega,i+1,uO,uP,uC,P',C',by omega,by omega,rfl,rfl,hR',hq',kk',hl',ob0',ob1'⟩
 simp only [pwA,seval,-iQ0,r3];refine zm hR (fm.sz (by decide)) fun t ht=>?_
 obtain⟨f1,f2,f3⟩:=nil3 kk (by omega) ob0
 cases t
 ·simp only [pwA,seval,-iQ0,f1,f2]
  exact f3
 simp only [pwA,seval,-iQ0,r3];refine zJY hR (ht.1 rfl) fun q=>?_
 cases hqs:q == s
 ·have hne:¬q=s:=fun e=>by rw [e]at hqs;simp at hqs
  simp only [pwA,seval,-iQ0,hqs,f1,f2];exact f3
 have w:h.wr σ.next 0 [wO,wP,wC]=some (h.set σ.next [wO,wP,wC]):=by rw [zX ob0,if_pos ⟨by simp,by simp [o1,o2,o3]⟩];rfl
 have r:(h.set σ.next [wO,wP,wC]).rd σ.next 0 3=some [wO,wP,wC]:=by rw [qZ,if_pos rfl];rfl
 simp only [pwA,seval,-iQ0,hqs,r3,w,r,o1,o2,o3];exact Gh.fin0 (kk.set (Nat.le_refl _) _) ⟨⟨hR.O.bel _,hR.P.bel _,hR.C.bel _,trivial⟩,trivial,trivial⟩ (hk 0 wO wP wC O P C hR fm)
end Go.Proofs
namespace Go.Grp
end Go.Grp
namespace Go.Proofs
open Go.Ab Go.Lie Go.Grp
variable {σ σ0 h h':PHeap} {K:PV→PHeap→Prop} {b k nP nC r s0 i j n:Nat} {L L':Nat→Nat} {Q Q':Nat→Prop} {len:Nat→Nat} {v vO vP vC c vX vS vL vM:PV} {x O xs bs:List Int} {P M:List (List Int)} {C:List (List (List Int))} {cs:List PV} {s t:List UInt8}
def strOK:PV→Bool
 | .str q=>decide (q.length≤500)
 | _=>false
theorem zKr {l:List PV} {r:Nat} {K:PV→Prop} (h:l.all strOK=true) (hr:r<l.length) (hk:∀q:List UInt8,q.length≤500→K (.str q)):optK l[r]? K:=by
 have hm:=List.all_eq_true.1 h _ (List.getElem_mem hr);rw [List.getElem?_eq_getElem hr];refine⟨_,rfl,?_⟩;generalize l[r]=c at *
 cases c<;>simp only [strOK,Bool.false_eq_true,decide_eq_true_eq]at hm
 exact hk _ hm
theorem zGo {k:Int} (hk0:0≤k∧k≤1000) (hk:∀wO wP wC O P C,IsPr wO wP wC O P C→Fm 18 O P C→K (.agg [wO,wP,wC]) σ):zA Tryz.prog 228 [.int .i64 k] σ K:=by
 refine zA.gh ?_;have r0:0≤k.tmod 10∧k.tmod 10<10:=⟨Int.tmod_nonneg _ hk0.1,Int.tmod_lt_of_pos _ (by decide)⟩
 obtain⟨r,hr⟩:∃r:Nat,k.tmod 10=r:=⟨(k.tmod 10).toNat,by omega⟩
 have hr10:r<10:=by omega
 have hr10':(r:Int)<((10:Nat):Int):=by omega
 have wi:IntKind.i64.wrap (r:Int)=(r:Int):=wrap64 (by omega) (by omega)
 refine zC mix Tryz.func228 ?_
 conv=>arg 2;cbv
 refine zF rfl ?_;simp only [pwA,seval,-iQ0,hr,wi,hr10,hr10'];refine zKr rfl hr10 fun q hq=>?_
 simp only [pwA,seval,-iQ0];generalize hH:(σ.new [PV.fz true AV.nils 0 [],PV.fz true AV.nils 0 [],PV.fz true AV.nils 0 []]).new _=H;have hHn:H.next=σ.next+2:=by rw [←hH];rfl
 have kH:Keep σ H:=by rw [←hH];exact(zB _ _).new _
 have ob0:H.obj σ.next=some [PV.fz true AV.nils 0 [],PV.fz true AV.nils 0 [],PV.fz true AV.nils 0 []]:=by rw [←hH];simp only [pwA,seval,-iQ0]
 clear hH;refine zBg (s:=q) hq fun e wO wP wC O P C hR fm=>?_
 have o1:=hR.O.one;have o2:=hR.P.one;have o3:=hR.C.one;have n1:¬σ.next=H.next:=by omega
 have fm':=fm.mono (N':=18) (by decide)
 have wH:∀{uO uP uC:PV},uO.one=true→uP.one=true→uC.one=true→H.wr σ.next 0 [uO,uP,uC]=some (H.set σ.next [uO,uP,uC]):=fun {uO uP uC} h1 h2 h3=>by rw [zX ob0,if_pos ⟨by simp,by simp [h1,h2,h3]⟩];rfl
 by_cases he:e=0
 ·subst he
  have w:=wH o1 o2 o3;have r:(H.set σ.next [wO,wP,wC]).rd σ.next 0 3=some [wO,wP,wC]:=by rw [qZ,if_pos rfl];rfl
  have kk:Keep σ (H.set σ.next [wO,wP,wC]):=kH.set (Nat.le_refl _) _;have n2:¬σ.next=(H.set σ.next [wO,wP,wC]).next:=n1;generalize H.set σ.next [wO,wP,wC]=g at *
  simp only [pwA,seval,-iQ0,o1,o2,o3,n1,w,r,n2];exact Gh.fin0 (kk.new _) ⟨hR.O.bel _,hR.P.bel _,hR.C.bel _,trivial⟩ (hk wO wP wC O P C hR fm')
 have d0:(e=0)=False:=by simp [he]
 simp only [pwA,seval,-iQ0,o1,o2,o3,n1,he,d0];have kG:Keep H ((H.new [wO,wP,wC]).new [PV.int IntKind.i64 2]):=(zB _ _).new _;have obG:((H.new [wO,wP,wC]).new [PV.int IntKind.i64 2]).obj (H.next+1)=some (pis [2]):=by rw [zD];exact if_pos rfl
 have obS:((H.new [wO,wP,wC]).new [PV.int IntKind.i64 2]).obj H.next=some [wO,wP,wC]:=by rw [zD,if_neg (by show ¬H.next=H.next+1;omega),zD,if_pos rfl]
 have hGn:((H.new [wO,wP,wC]).new [PV.int IntKind.i64 2]).next=H.next+2:=rfl;generalize (H.new [wO,wP,wC]).new [PV.int IntKind.i64 2]=G at *
 refine zBy (s:=H.next+1) (O:=[2]) (cap:=.known 1) obG (by omega) (by decide) fun uO uP uC P' C' hR' hq'=>?_
 have g1:=hR'.O.one;have g2:=hR'.P.one;have g3:=hR'.C.one;have w1:G.wr H.next 0 [uO,uP,uC]=some (G.set H.next [uO,uP,uC]):=by rw [zX obS,if_pos ⟨by simp,by simp [g1,g2,g3]⟩];rfl
 have kS:Keep H (G.set H.next [uO,uP,uC]):=kG.set (Nat.le_refl _) _;have r1:(G.set H.next [uO,uP,uC]).rd H.next 0 3=some [uO,uP,uC]:=by rw [qZ,if_pos rfl];rfl
 have ob0':(G.set H.next [uO,uP,uC]).obj σ.next=some [PV.fz true AV.nils 0 [],PV.fz true AV.nils 0 [],PV.fz true AV.nils 0 []]:=by rw [kS.obj _ (by omega)];exact ob0
 generalize G.set H.next [uO,uP,uC]=g at *
 have w2:g.wr σ.next 0 [uO,uP,uC]=some (g.set σ.next [uO,uP,uC]):=by rw [zX ob0',if_pos ⟨by simp,by simp [g1,g2,g3]⟩];rfl
 have r2:(g.set σ.next [uO,uP,uC]).rd σ.next 0 3=some [uO,uP,uC]:=by rw [qZ,if_pos rfl];rfl
 have kk:Keep σ (g.set σ.next [uO,uP,uC]):=(kH.trans kS).set (Nat.le_refl _) _;simp only [pwA,seval,-iQ0,g1,g2,g3,w1,r1,w2,r2];exact Gh.fin0 kk ⟨hR'.O.bel _,hR'.P.bel _,hR'.C.bel _,trivial⟩ (hk uO uP uC [2] P' C' hR' ⟨by decide,by decide,hq'⟩)
end Go.Proofs
namespace Go.Grp
end Go.Grp
namespace Go.Proofs
open Go.Ab Go.Lie Go.Grp Go.Mx
variable {σ σ0 h h':PHeap} {K:PV→PHeap→Prop} {b k nP nC r s0 i j n:Nat} {L L':Nat→Nat} {Q Q':Nat→Prop} {len:Nat→Nat} {v vO vP vC c vX vS vL vM:PV} {x O xs bs:List Int} {P M:List (List Int)} {C:List (List (List Int))} {cs:List PV}
abbrev nil3:List PV:=[.fz true .nils 0 [],.fz true .nils 0 [],.fz true .nils 0 []]
theorem zL1 {N:Nat} (hs0:s0<σ.next) (hk:∀wO wP wC O P C σ',IsPr wO wP wC O P C→Fm N O P C→Mv σ s0 σ'→So σ' s0 vS bs→K (.agg [wO,wP,wC]) σ')
  {g:PHeap} (km:KM σ s0 g) (so:So g s0 vS bs) (ob:g.obj σ.next=some nil3) {wO wP wC:PV} (hR:IsPr wO wP wC O P C) (fm:Fm N O P C):
  wO.one=true∧wP.one=true∧wC.one=true∧g.wr σ.next 0 [wO,wP,wC]=some (g.set σ.next [wO,wP,wC])∧(g.set σ.next [wO,wP,wC]).rd σ.next 0 3=some [wO,wP,wC]∧Gh σ K (.agg [wO,wP,wC]) (g.set σ.next [wO,wP,wC]):=by
 have o1:=hR.O.one;have o2:=hR.P.one;have o3:=hR.C.one;refine⟨o1,o2,o3,by rw [zX ob,if_pos ⟨by simp [nil3],by simp [o1,o2,o3]⟩];rfl,by rw [qZ,if_pos rfl];rfl,?_⟩
 refine Gh.km (km.set (Nat.le_refl _) _) (so.set (by omega) _) hs0 fun σ' m' so' kp=>Gh.fin0 kp ⟨hR.O.bel _,hR.P.bel _,hR.C.bel _,trivial⟩ (hk _ _ _ O P C σ' hR fm m' so')
theorem ve_of {p:Int} {v:List Int} (hp:0<p) (h:∀x∈v,0≤x∧x<p):Ve p v.length v:=by
 refine⟨rfl,fun j=>?_⟩
 rcases Nat.lt_or_ge j v.length with hj|hj
 ·rw [at_eq hj];exact h _ (List.getElem_mem hj)
 ·unfold at_
  rw [List.getD_eq_getElem?_getD,List.getElem?_eq_none hj];exact⟨Int.le_refl _,hp⟩
theorem ma_of {p:Int} {n:Nat} {M:List (List Int)} (hp:0<p) (h:∀r∈M,r.length=n∧∀x∈r,0≤x∧x<p):Ma p n M:=fun r hr=>by
 obtain⟨h1,h2⟩:=h r hr;rw [←h1];exact ve_of hp h2
def RowS (h:PHeap) (c:PV) (x:List Int):Prop:=∃t cap,c=PV.sl t 0 x.length cap∧h.obj t=some (pis x)∧t<h.next
theorem zw {h:PHeap} {c:PV} {x:List Int} {M:List (List Int)} (a:RowS h c x) (b:All2 (RowS h) cs M):All2 (RowS h) (c::cs) (x::M):=by
 refine⟨by simp [b.1],fun i v y hv hy=>?_⟩
 cases i with
 | zero=>simp only [List.getElem?_cons_zero,Option.some.injEq]at hv hy;rw [←hv,←hy];exact a
 | succ i=>simp only [List.getElem?_cons_succ]at hv hy;exact b.2 i v y hv hy
theorem PSl.mv' {e n:Nat} {cs:List PV} (a:PSl b e h v n cs) (hs:s0<b) (m:Mv h s0 h'):PSl b e h' v n cs:=by
 obtain⟨s,cap,rfl,h1,h2,h3,h4,h5⟩:=a;exact⟨s,cap,rfl,h1,by rw [m.obj (by omega)];exact h2,h3,h4,by rw [m.next];exact h5⟩
theorem zBz (so:So σ s0 vS bs) (hk:∀wO wP wC O P C σ',IsPr wO wP wC O P C→Fm 18 O P C→Mv σ s0 σ'→So σ' s0 vS bs→K (.agg [wO,wP,wC]) σ'):zA Tryz.prog 201 [.ptr s0 0] σ K:=by
 have hs0:=so.lt;refine zA.gh ?_;refine zC mix Tryz.func201 ?_
 conv=>arg 2;cbv
 refine zF rfl ?_;simp only [pwA,seval,-iQ0];generalize hH:σ.new [PV.fz true AV.nils 0 [],PV.fz true AV.nils 0 [],PV.fz true AV.nils 0 []]=H;have hHn:H.next=σ.next+1:=by rw [←hH];rfl
 have hsH:s0<H.next:=by omega
 have ob0:H.obj σ.next=some nil3:=by rw [←hH];simp only [pwA,seval,-iQ0]
 have km0:KM σ s0 H:=by rw [←hH];exact so.kmK (zB _ _)
 have so0:So H s0 vS bs:=by rw [←hH];exact so.keep (zB _ _)
 clear hH;have fin:∀{g:PHeap} {wO wP wC:PV} {O:List Int} {P:List (List Int)} {C:List (List (List Int))},KM H s0 g→So g s0 vS bs→IsPr wO wP wC O P C→Fm 18 O P C→
   wO.one=true∧wP.one=true∧wC.one=true∧g.wr σ.next 0 [wO,wP,wC]=some (g.set σ.next [wO,wP,wC])∧(g.set σ.next [wO,wP,wC]).rd σ.next 0 3=some [wO,wP,wC]∧Gh σ K (.agg [wO,wP,wC]) (g.set σ.next [wO,wP,wC]):=fun {g wO wP wC O P C} km so' hR fm=>
  zL1 hs0 hk (km0.trans hs0 km) so' (by rw [km.obj (by omega) (by omega)];exact ob0) hR fm
 have fin2:∀{g:PHeap} {wO wP wC:PV} {O:List Int} {P:List (List Int)} {C:List (List (List Int))},KM σ s0 g→So g s0 vS bs→IsPr wO wP wC O P C→Fm 18 O P C→Gh σ K (.agg [wO,wP,wC]) g:=fun {g wO wP wC O P C} km so' hR fm=>
  Gh.km km so' hs0 fun σ' m' so'' kp=>Gh.fin0 kp ⟨hR.O.bel _,hR.P.bel _,hR.C.bel _,trivial⟩ (hk _ _ _ O P C σ' hR fm m' so'')
 refine zl (n:=9) so0 (by decide) fun x1 h hx1 m1 so1=>?_
 have km1:KM H s0 h:=so0.km.mv hsH m1;have hn1:=m1.next;clear m1
 by_cases e0:x1=0
 ·subst e0
  simp only [pwA,seval,-iQ0];refine zl (n:=5) (so1.keep (zB _ _)) (by decide) fun x2 h2 hx2 m2 so2=>?_
  have km2:=(km1.new []).mv hsH m2;have hx5:=hx2.lt (by decide)
  have hx0:=hx2.1;have pa2:PSl H.next 1 h2 (.sl h.next 0 0 (.known 0)) 0 []:=PSl.mv' (PSl.own (n:=0) (.inr rfl) (by rw [zD,if_pos rfl]) rfl (by omega) (Nat.lt_succ_self _)) hsH m2
  simp only [pwA,seval,-iQ0];refine zG (fun m vs g=>∃(x:Nat) (v:PV) (O:List Int),m=x∧vs=[.ptr s0 0,.ptr σ.next 0,v,.int .i64 x]∧O.length+x≤5∧(∀a∈O,1≤a∧a≤1000)∧KM H s0 g∧So g s0 vS bs∧PSl H.next 1 g v O.length (pis O)) x2.toNat ?_ ?_
  ·exact⟨x2.toNat,_,[],rfl,by rw [Int.toNat_of_nonneg hx0];rfl,by simp;omega,fun a ha=>(by cases ha),km2,so2,pa2⟩
  rintro x vs g ⟨x',v,O,rfl,rfl,hx,hO,km,so',pa⟩
  have p1:=pa.one;simp only [pwA,seval,-iQ0,p1];refine iteI (fun hpos=>?_) fun hge=>?_
  ·refine QZ (xs:=[2,2,3]) (t:=g.next) (so'.keep (zB _ _)) (by have:=km.next;omega) (by rw [zD,if_pos rfl];rfl) (by decide) fun y g' hy m3 so3=>?_
   have pa3:=PSl.mv' (pa.keep (zB g [PV.int .i64 2,PV.int .i64 2,PV.int .i64 3])) hsH m3;obtain⟨σ',m',kp⟩:=(km.new _).mv hsH m3;have yb:2≤y∧y≤3:=by
    simp only [List.mem_cons,List.not_mem_nil,or_false]at hy
    omega
   simp only [pwA,seval,-iQ0,p1];have hnx:=m'.next;refine PSl.push (σb:=σ') (bytes:=8) kp (by rw [hnx];exact pa3) (by omega) (by omega) fun v2 g2 k2 a2=>?_
   have p2:=a2.one;have wx:IntKind.i64.wrap ((x:Int)-1)=((x-1:Nat):Int):=by rw [wrap64 (by omega) (by omega)];omega
   simp only [pwA,seval,-iQ0,p2,wx];refine⟨x-1,by omega,x-1,v2,O++[y],rfl,rfl,by rw [List.length_append,List.length_singleton];omega,fun a ha=>?_,⟨σ',m',k2⟩,(zIg kp so3 (by rw [hnx];exact hsH)).keep k2,?_⟩
   ·rcases List.mem_append.1 ha with ha | ha
    ·exact hO a ha
    ·rw [List.mem_singleton.1 ha];omega
   ·have e:pis (O++[y])=pis O++[.int .i64 y]:=by simp [pis]
    rw [e,List.length_append,←hnx];exact a2
  obtain⟨st,capt,rfl,q1,q2,q3,q4,q5⟩:=pa;simp only [pwA,seval,-iQ0];refine zBy q2 q5 (by omega) fun uO uP uC P' C' hR' hq'=>?_
  obtain⟨g1,g2,g3,g4,g5,g6⟩:=fin km so' hR' ⟨by omega,hO,hq'⟩
  simp only [pwA,seval,-iQ0,g1,g2,g3,g4,g5];exact g6
 by_cases e1:x1=1
 ·subst e1
  simp only [pwA,seval,-iQ0];refine QZ (xs:=[1,4,6,8,9,12,5,7,27,25,36]) (t:=h.next) (so1.keep (zB _ _)) (by omega) (by rw [zD,if_pos rfl];rfl) (by decide) fun y g hy m2 so2=>?_
  have km2:=(km1.new [PV.int .i64 1,PV.int .i64 4,PV.int .i64 6,PV.int .i64 8,PV.int .i64 9,PV.int .i64 12,PV.int .i64 5,PV.int .i64 7,PV.int .i64 27,PV.int .i64 25,PV.int .i64 36]).mv hsH m2;have yb:1≤y∧y≤36:=by
   simp only [List.mem_cons,List.not_mem_nil,or_false]at hy
   omega
  have w1:IntKind.i64.wrap (y-1)=y-1:=wrap64 (by omega) (by omega)
  simp only [pwA,seval,-iQ0];refine zJ5 (by omega) fun e uO uP uC O P C hR fm=>?_
  have o1:=hR.O.one;have o2:=hR.P.one;have o3:=hR.C.one;have fm':=fm.mono (N':=18) (by decide)
  have hgn:=km2.next;have n1:¬σ.next=g.next:=by omega
  obtain⟨g1,g2,g3,g4,g5,g6⟩:=fin km2 so2 hR fm';have ng:(g.set σ.next [uO,uP,uC]).next=g.next:=rfl;simp only [pwA,seval,-iQ0,o1,o2,o3,n1,g4,g5,ng];exact fin2 (((km0.trans hs0 km2).set (Nat.le_refl _) _).new _) ((so2.set (by omega) _).keep (zB _ _)) hR fm'
 by_cases e2:x1=2
 ·subst e2
  simp only [pwA,seval,-iQ0];refine QZ (xs:=[3,4,5,6,7,8,9,12]) (t:=h.next) (so1.keep (zB _ _)) (by omega) (by rw [zD,if_pos rfl];rfl) (by decide) fun y g hy m2 so2=>?_
  have km2:=(km1.new [PV.int .i64 3,PV.int .i64 4,PV.int .i64 5,PV.int .i64 6,PV.int .i64 7,PV.int .i64 8,PV.int .i64 9,PV.int .i64 12]).mv hsH m2;have yb:3≤y∧y≤12:=by
   simp only [List.mem_cons,List.not_mem_nil,or_false]at hy
   omega
  have w1:IntKind.i64.wrap (y-1)=y-1:=wrap64 (by omega) (by omega)
  simp only [pwA,seval,-iQ0,w1];refine ZB (n:=2) (by decide) (by omega) (by omega) (by decide) fun uO uP uC O P C hR fm=>?_
  obtain⟨g1,g2,g3,g4,g5,g6⟩:=fin km2 so2 hR fm;simp only [pwA,seval,-iQ0,g1,g2,g3,g4,g5];exact g6
 by_cases e3:x1=3
 ·subst e3
  simp only [pwA,seval,-iQ0];refine QZ (xs:=[4,6,8,12]) (t:=h.next) (so1.keep (zB _ _)) (by omega) (by rw [zD,if_pos rfl];rfl) (by decide) fun y g hy m2 so2=>?_
  have km2:=(km1.new [PV.int .i64 4,PV.int .i64 6,PV.int .i64 8,PV.int .i64 12]).mv hsH m2;have yb:4≤y∧y≤12:=by
   simp only [List.mem_cons,List.not_mem_nil,or_false]at hy
   omega
  have w1:IntKind.i64.wrap (y-1)=y-1:=wrap64 (by omega) (by omega)
  have d1:0≤y.tdiv 2:=Int.tdiv_nonneg (by omega) (by decide)
  have d2:y.tdiv 2≤y:=Int.tdiv_le_self _ (by omega)
  have w2:IntKind.i64.wrap (y.tdiv 2)=y.tdiv 2:=wrap64 (by omega) (by omega)
  simp only [pwA,seval,-iQ0,w1,w2];refine ZB (n:=2) (by decide) (by omega) (by omega) (by omega) fun uO uP uC O P C hR fm=>?_
  obtain⟨g1,g2,g3,g4,g5,g6⟩:=fin km2 so2 hR fm;simp only [pwA,seval,-iQ0,g1,g2,g3,g4,g5];exact g6
 by_cases e4:x1=4
 ·subst e4
  simp only [pwA,seval,-iQ0];refine zl (n:=6) so1 (by decide) fun x2 g hx2 m2 so2=>?_
  have km2:=km1.mv hsH m2
  by_cases f0:x2=0
  ·subst f0
   simp only [pwA,seval,-iQ0];refine ZB (n:=3) (m:=7) (a:=2) (c:=0) (by decide) (by decide) (by decide) (by decide) fun uO uP uC O P C hR fm=>?_
   obtain⟨g1,g2,g3,g4,g5,g6⟩:=fin km2 so2 hR fm;simp only [pwA,seval,-iQ0,g1,g2,g3,g4,g5];exact g6
  by_cases f1:x2=1
  ·subst f1
   simp only [pwA,seval,-iQ0];refine ZB (n:=4) (m:=5) (a:=2) (c:=0) (by decide) (by decide) (by decide) (by decide) fun uO uP uC O P C hR fm=>?_
   obtain⟨g1,g2,g3,g4,g5,g6⟩:=fin km2 so2 hR fm;simp only [pwA,seval,-iQ0,g1,g2,g3,g4,g5];exact g6
  by_cases f2:x2=2
  ·subst f2
   simp only [pwA,seval,-iQ0];refine ZB (n:=2) (m:=8) (a:=3) (c:=0) (by decide) (by decide) (by decide) (by decide) fun uO uP uC O P C hR fm=>?_
   obtain⟨g1,g2,g3,g4,g5,g6⟩:=fin km2 so2 hR fm;simp only [pwA,seval,-iQ0,g1,g2,g3,g4,g5];exact g6
  by_cases f3:x2=3
  ·subst f3
   simp only [pwA,seval,-iQ0];refine ZB (n:=2) (m:=8) (a:=5) (c:=0) (by decide) (by decide) (by decide) (by decide) fun uO uP uC O P C hR fm=>?_
   obtain⟨g1,g2,g3,g4,g5,g6⟩:=fin km2 so2 hR fm;simp only [pwA,seval,-iQ0,g1,g2,g3,g4,g5];exact g6
  by_cases f4:x2=4
  ·subst f4
   simp only [pwA,seval,-iQ0];refine ZB (n:=4) (m:=4) (a:=3) (c:=0) (by decide) (by decide) (by decide) (by decide) fun uO uP uC O P C hR fm=>?_
   obtain⟨g1,g2,g3,g4,g5,g6⟩:=fin km2 so2 hR fm;simp only [pwA,seval,-iQ0,g1,g2,g3,g4,g5];exact g6
  simp only [pwA,seval,-iQ0,f0,f1,f2,f3,f4];refine ZB (n:=3) (m:=9) (a:=4) (c:=0) (by decide) (by decide) (by decide) (by decide) fun uO uP uC O P C hR fm=>?_
  obtain⟨g1,g2,g3,g4,g5,g6⟩:=fin km2 so2 hR fm;simp only [pwA,seval,-iQ0,g1,g2,g3,g4,g5];exact g6
 by_cases e5:x1=5
 ·subst e5
  simp only [pwA,seval,-iQ0];refine QZ (xs:=[2,3,2,3,5]) (t:=h.next) (so1.keep (zB _ _)) (by omega) (by rw [zD,if_pos rfl];rfl) (by decide) fun y g hy m2 so2=>?_
  have km2:=(km1.new [PV.int .i64 2,PV.int .i64 3,PV.int .i64 2,PV.int .i64 3,PV.int .i64 5]).mv hsH m2;have yb:2≤y∧y≤5:=by
   simp only [List.mem_cons,List.not_mem_nil,or_false]at hy
   omega
  have w1:IntKind.i64.wrap (y-1)=y-1:=wrap64 (by omega) (by omega)
  simp only [pwA,seval,-iQ0];refine zCy so2 (by omega) fun uO uP uC O P C g' hR fm m3 so3=>?_
  obtain⟨g1,g2,g3,g4,g5,g6⟩:=fin (km2.mv hsH m3) so3 hR fm;simp only [pwA,seval,-iQ0,g1,g2,g3,g4,g5];exact g6
 by_cases e6:x1=6
 ·subst e6
  simp only [pwA,seval,-iQ0];refine zl (n:=6) so1 (by decide) fun x2 g hx2 m2 so2=>?_
  have km2:=km1.mv hsH m2
  by_cases f0:x2=0
  ·subst f0
   simp only [pwA,seval,-iQ0];have kk:Keep g (((g.new [PV.int IntKind.i64 2,PV.int IntKind.i64 0]).new [PV.int IntKind.i64 0,PV.int IntKind.i64 2]).new [PV.sl g.next 0 2 (.known 2),PV.sl (g.next+1) 0 2 (.known 2)]):=((zB _ _).new _).new _;have obm:(((g.new [PV.int IntKind.i64 2,PV.int IntKind.i64 0]).new [PV.int IntKind.i64 0,PV.int IntKind.i64 2]).new [PV.sl g.next 0 2 (.known 2),PV.sl (g.next+1) 0 2 (.known 2)]).obj (g.next+2)=some [PV.sl g.next 0 2 (.known 2),PV.sl (g.next+1) 0 2 (.known 2)]:=by rw [zD];exact if_pos rfl
   have ob0:(((g.new [PV.int IntKind.i64 2,PV.int IntKind.i64 0]).new [PV.int IntKind.i64 0,PV.int IntKind.i64 2]).new [PV.sl g.next 0 2 (.known 2),PV.sl (g.next+1) 0 2 (.known 2)]).obj g.next=some (pis [2,0]):=by simp only [pwA,seval,-iQ0];rfl
   have ob1:(((g.new [PV.int IntKind.i64 2,PV.int IntKind.i64 0]).new [PV.int IntKind.i64 0,PV.int IntKind.i64 2]).new [PV.sl g.next 0 2 (.known 2),PV.sl (g.next+1) 0 2 (.known 2)]).obj (g.next+1)=some (pis [0,2]):=by simp only [pwA,seval,-iQ0];rfl
   have hG:(((g.new [PV.int IntKind.i64 2,PV.int IntKind.i64 0]).new [PV.int IntKind.i64 0,PV.int IntKind.i64 2]).new [PV.sl g.next 0 2 (.known 2),PV.sl (g.next+1) 0 2 (.known 2)]).next=g.next+3:=rfl;generalize (((g.new [PV.int IntKind.i64 2,PV.int IntKind.i64 0]).new [PV.int IntKind.i64 0,PV.int IntKind.i64 2]).new [PV.sl g.next 0 2 (.known 2),PV.sl (g.next+1) 0 2 (.known 2)])=G at *
   have hM:MatX G (.sl (g.next+2) 0 2 (.known 2)) [[2,0],[0,2]]:=⟨g.next+2,.known 2,_,rfl,obm,by omega,zw ⟨_,_,rfl,ob0,by omega⟩ (zw ⟨_,_,rfl,ob1,by omega⟩ (All2.nil _))⟩
   refine ZH (p:=3) (m:=2) (M:=[[2,0],[0,2]]) (by decide) (by decide) hM (ma_of (by decide) (by decide)) (by decide) fun uO uP uC O P C hR fm=>?_
   obtain⟨g1,g2,g3,g4,g5,g6⟩:=fin (km2.keep kk) (so2.keep kk) hR fm;simp only [pwA,seval,-iQ0,g1,g2,g3,g4,g5];exact g6
  by_cases f1:x2=1
  ·subst f1
   simp only [pwA,seval,-iQ0];have kk:Keep g (((g.new [PV.int IntKind.i64 0,PV.int IntKind.i64 1]).new [PV.int IntKind.i64 2,PV.int IntKind.i64 0]).new [PV.sl g.next 0 2 (.known 2),PV.sl (g.next+1) 0 2 (.known 2)]):=((zB _ _).new _).new _;have obm:(((g.new [PV.int IntKind.i64 0,PV.int IntKind.i64 1]).new [PV.int IntKind.i64 2,PV.int IntKind.i64 0]).new [PV.sl g.next 0 2 (.known 2),PV.sl (g.next+1) 0 2 (.known 2)]).obj (g.next+2)=some [PV.sl g.next 0 2 (.known 2),PV.sl (g.next+1) 0 2 (.known 2)]:=by rw [zD];exact if_pos rfl
   have ob0:(((g.new [PV.int IntKind.i64 0,PV.int IntKind.i64 1]).new [PV.int IntKind.i64 2,PV.int IntKind.i64 0]).new [PV.sl g.next 0 2 (.known 2),PV.sl (g.next+1) 0 2 (.known 2)]).obj g.next=some (pis [0,1]):=by simp only [pwA,seval,-iQ0];rfl
   have ob1:(((g.new [PV.int IntKind.i64 0,PV.int IntKind.i64 1]).new [PV.int IntKind.i64 2,PV.int IntKind.i64 0]).new [PV.sl g.next 0 2 (.known 2),PV.sl (g.next+1) 0 2 (.known 2)]).obj (g.next+1)=some (pis [2,0]):=by simp only [pwA,seval,-iQ0];rfl
   have hG:(((g.new [PV.int IntKind.i64 0,PV.int IntKind.i64 1]).new [PV.int IntKind.i64 2,PV.int IntKind.i64 0]).new [PV.sl g.next 0 2 (.known 2),PV.sl (g.next+1) 0 2 (.known 2)]).next=g.next+3:=rfl;generalize (((g.new [PV.int IntKind.i64 0,PV.int IntKind.i64 1]).new [PV.int IntKind.i64 2,PV.int IntKind.i64 0]).new [PV.sl g.next 0 2 (.known 2),PV.sl (g.next+1) 0 2 (.known 2)])=G at *
   have hM:MatX G (.sl (g.next+2) 0 2 (.known 2)) [[0,1],[2,0]]:=⟨g.next+2,.known 2,_,rfl,obm,by omega,zw ⟨_,_,rfl,ob0,by omega⟩ (zw ⟨_,_,rfl,ob1,by omega⟩ (All2.nil _))⟩
   refine ZH (p:=3) (m:=4) (M:=[[0,1],[2,0]]) (by decide) (by decide) hM (ma_of (by decide) (by decide)) (by decide) fun uO uP uC O P C hR fm=>?_
   obtain⟨g1,g2,g3,g4,g5,g6⟩:=fin (km2.keep kk) (so2.keep kk) hR fm;simp only [pwA,seval,-iQ0,g1,g2,g3,g4,g5];exact g6
  by_cases f2:x2=2
  ·subst f2
   simp only [pwA,seval,-iQ0];have kk:Keep g ((((g.new [PV.int IntKind.i64 0,PV.int IntKind.i64 1,PV.int IntKind.i64 0]).new [PV.int IntKind.i64 0,PV.int IntKind.i64 0,PV.int IntKind.i64 1]).new [PV.int IntKind.i64 1,PV.int IntKind.i64 1,PV.int IntKind.i64 0]).new [PV.sl g.next 0 3 (.known 3),PV.sl (g.next+1) 0 3 (.known 3),PV.sl (g.next+2) 0 3 (.known 3)]):=(((zB _ _).new _).new _).new _;have obm:((((g.new [PV.int IntKind.i64 0,PV.int IntKind.i64 1,PV.int IntKind.i64 0]).new [PV.int IntKind.i64 0,PV.int IntKind.i64 0,PV.int IntKind.i64 1]).new [PV.int IntKind.i64 1,PV.int IntKind.i64 1,PV.int IntKind.i64 0]).new [PV.sl g.next 0 3 (.known 3),PV.sl (g.next+1) 0 3 (.known 3),PV.sl (g.next+2) 0 3 (.known 3)]).obj (g.next+3)=some [PV.sl g.next 0 3 (.known 3),PV.sl (g.next+1) 0 3 (.known 3),PV.sl (g.next+2) 0 3 (.known 3)]:=by rw [zD];exact if_pos rfl
   have ob0:((((g.new [PV.int IntKind.i64 0,PV.int IntKind.i64 1,PV.int IntKind.i64 0]).new [PV.int IntKind.i64 0,PV.int IntKind.i64 0,PV.int IntKind.i64 1]).new [PV.int IntKind.i64 1,PV.int IntKind.i64 1,PV.int IntKind.i64 0]).new [PV.sl g.next 0 3 (.known 3),PV.sl (g.next+1) 0 3 (.known 3),PV.sl (g.next+2) 0 3 (.known 3)]).obj g.next=some (pis [0,1,0]):=by simp only [pwA,seval,-iQ0];rfl
   have ob1:((((g.new [PV.int IntKind.i64 0,PV.int IntKind.i64 1,PV.int IntKind.i64 0]).new [PV.int IntKind.i64 0,PV.int IntKind.i64 0,PV.int IntKind.i64 1]).new [PV.int IntKind.i64 1,PV.int IntKind.i64 1,PV.int IntKind.i64 0]).new [PV.sl g.next 0 3 (.known 3),PV.sl (g.next+1) 0 3 (.known 3),PV.sl (g.next+2) 0 3 (.known 3)]).obj (g.next+1)=some (pis [0,0,1]):=by simp only [pwA,seval,-iQ0];rfl
   have ob2:((((g.new [PV.int IntKind.i64 0,PV.int IntKind.i64 1,PV.int IntKind.i64 0]).new [PV.int IntKind.i64 0,PV.int IntKind.i64 0,PV.int IntKind.i64 1]).new [PV.int IntKind.i64 1,PV.int IntKind.i64 1,PV.int IntKind.i64 0]).new [PV.sl g.next 0 3 (.known 3),PV.sl (g.next+1) 0 3 (.known 3),PV.sl (g.next+2) 0 3 (.known 3)]).obj (g.next+2)=some (pis [1,1,0]):=by simp only [pwA,seval,-iQ0];rfl
   have hG:((((g.new [PV.int IntKind.i64 0,PV.int IntKind.i64 1,PV.int IntKind.i64 0]).new [PV.int IntKind.i64 0,PV.int IntKind.i64 0,PV.int IntKind.i64 1]).new [PV.int IntKind.i64 1,PV.int IntKind.i64 1,PV.int IntKind.i64 0]).new [PV.sl g.next 0 3 (.known 3),PV.sl (g.next+1) 0 3 (.known 3),PV.sl (g.next+2) 0 3 (.known 3)]).next=g.next+4:=rfl;generalize ((((g.new [PV.int IntKind.i64 0,PV.int IntKind.i64 1,PV.int IntKind.i64 0]).new [PV.int IntKind.i64 0,PV.int IntKind.i64 0,PV.int IntKind.i64 1]).new [PV.int IntKind.i64 1,PV.int IntKind.i64 1,PV.int IntKind.i64 0]).new [PV.sl g.next 0 3 (.known 3),PV.sl (g.next+1) 0 3 (.known 3),PV.sl (g.next+2) 0 3 (.known 3)])=G at *
   have hM:MatX G (.sl (g.next+3) 0 3 (.known 3)) [[0,1,0],[0,0,1],[1,1,0]]:=⟨g.next+3,.known 3,_,rfl,obm,by omega,zw ⟨_,_,rfl,ob0,by omega⟩ (zw ⟨_,_,rfl,ob1,by omega⟩ (zw ⟨_,_,rfl,ob2,by omega⟩ (All2.nil _)))⟩
   refine ZH (p:=2) (m:=7) (M:=[[0,1,0],[0,0,1],[1,1,0]]) (by decide) (by decide) hM (ma_of (by decide) (by decide)) (by decide) fun uO uP uC O P C hR fm=>?_
   obtain⟨g1,g2,g3,g4,g5,g6⟩:=fin (km2.keep kk) (so2.keep kk) hR fm;simp only [pwA,seval,-iQ0,g1,g2,g3,g4,g5];exact g6
  by_cases f3:x2=3
  ·subst f3
   simp only [pwA,seval,-iQ0];have kk:Keep g ((((g.new [PV.int IntKind.i64 1,PV.int IntKind.i64 1,PV.int IntKind.i64 0]).new [PV.int IntKind.i64 0,PV.int IntKind.i64 1,PV.int IntKind.i64 1]).new [PV.int IntKind.i64 0,PV.int IntKind.i64 0,PV.int IntKind.i64 1]).new [PV.sl g.next 0 3 (.known 3),PV.sl (g.next+1) 0 3 (.known 3),PV.sl (g.next+2) 0 3 (.known 3)]):=(((zB _ _).new _).new _).new _;have obm:((((g.new [PV.int IntKind.i64 1,PV.int IntKind.i64 1,PV.int IntKind.i64 0]).new [PV.int IntKind.i64 0,PV.int IntKind.i64 1,PV.int IntKind.i64 1]).new [PV.int IntKind.i64 0,PV.int IntKind.i64 0,PV.int IntKind.i64 1]).new [PV.sl g.next 0 3 (.known 3),PV.sl (g.next+1) 0 3 (.known 3),PV.sl (g.next+2) 0 3 (.known 3)]).obj (g.next+3)=some [PV.sl g.next 0 3 (.known 3),PV.sl (g.next+1) 0 3 (.known 3),PV.sl (g.next+2) 0 3 (.known 3)]:=by rw [zD];exact if_pos rfl
   have ob0:((((g.new [PV.int IntKind.i64 1,PV.int IntKind.i64 1,PV.int IntKind.i64 0]).new [PV.int IntKind.i64 0,PV.int IntKind.i64 1,PV.int IntKind.i64 1]).new [PV.int IntKind.i64 0,PV.int IntKind.i64 0,PV.int IntKind.i64 1]).new [PV.sl g.next 0 3 (.known 3),PV.sl (g.next+1) 0 3 (.known 3),PV.sl (g.next+2) 0 3 (.known 3)]).obj g.next=some (pis [1,1,0]):=by simp only [pwA,seval,-iQ0];rfl
   have ob1:((((g.new [PV.int IntKind.i64 1,PV.int IntKind.i64 1,PV.int IntKind.i64 0]).new [PV.int IntKind.i64 0,PV.int IntKind.i64 1,PV.int IntKind.i64 1]).new [PV.int IntKind.i64 0,PV.int IntKind.i64 0,PV.int IntKind.i64 1]).new [PV.sl g.next 0 3 (.known 3),PV.sl (g.next+1) 0 3 (.known 3),PV.sl (g.next+2) 0 3 (.known 3)]).obj (g.next+1)=some (pis [0,1,1]):=by simp only [pwA,seval,-iQ0];rfl
   have ob2:((((g.new [PV.int IntKind.i64 1,PV.int IntKind.i64 1,PV.int IntKind.i64 0]).new [PV.int IntKind.i64 0,PV.int IntKind.i64 1,PV.int IntKind.i64 1]).new [PV.int IntKind.i64 0,PV.int IntKind.i64 0,PV.int IntKind.i64 1]).new [PV.sl g.next 0 3 (.known 3),PV.sl (g.next+1) 0 3 (.known 3),PV.sl (g.next+2) 0 3 (.known 3)]).obj (g.next+2)=some (pis [0,0,1]):=by simp only [pwA,seval,-iQ0];rfl
   have hG:((((g.new [PV.int IntKind.i64 1,PV.int IntKind.i64 1,PV.int IntKind.i64 0]).new [PV.int IntKind.i64 0,PV.int IntKind.i64 1,PV.int IntKind.i64 1]).new [PV.int IntKind.i64 0,PV.int IntKind.i64 0,PV.int IntKind.i64 1]).new [PV.sl g.next 0 3 (.known 3),PV.sl (g.next+1) 0 3 (.known 3),PV.sl (g.next+2) 0 3 (.known 3)]).next=g.next+4:=rfl;generalize ((((g.new [PV.int IntKind.i64 1,PV.int IntKind.i64 1,PV.int IntKind.i64 0]).new [PV.int IntKind.i64 0,PV.int IntKind.i64 1,PV.int IntKind.i64 1]).new [PV.int IntKind.i64 0,PV.int IntKind.i64 0,PV.int IntKind.i64 1]).new [PV.sl g.next 0 3 (.known 3),PV.sl (g.next+1) 0 3 (.known 3),PV.sl (g.next+2) 0 3 (.known 3)])=G at *
   have hM:MatX G (.sl (g.next+3) 0 3 (.known 3)) [[1,1,0],[0,1,1],[0,0,1]]:=⟨g.next+3,.known 3,_,rfl,obm,by omega,zw ⟨_,_,rfl,ob0,by omega⟩ (zw ⟨_,_,rfl,ob1,by omega⟩ (zw ⟨_,_,rfl,ob2,by omega⟩ (All2.nil _)))⟩
   refine ZH (p:=2) (m:=4) (M:=[[1,1,0],[0,1,1],[0,0,1]]) (by decide) (by decide) hM (ma_of (by decide) (by decide)) (by decide) fun uO uP uC O P C hR fm=>?_
   obtain⟨g1,g2,g3,g4,g5,g6⟩:=fin (km2.keep kk) (so2.keep kk) hR fm;simp only [pwA,seval,-iQ0,g1,g2,g3,g4,g5];exact g6
  by_cases f4:x2=4
  ·subst f4
   simp only [pwA,seval,-iQ0];have kk:Keep g (((((g.new [PV.int IntKind.i64 0,PV.int IntKind.i64 1,PV.int IntKind.i64 0,PV.int IntKind.i64 0]).new [PV.int IntKind.i64 1,PV.int IntKind.i64 0,PV.int IntKind.i64 0,PV.int IntKind.i64 0]).new [PV.int IntKind.i64 0,PV.int IntKind.i64 0,PV.int IntKind.i64 0,PV.int IntKind.i64 1]).new [PV.int IntKind.i64 0,PV.int IntKind.i64 0,PV.int IntKind.i64 1,PV.int IntKind.i64 0]).new [PV.sl g.next 0 4 (.known 4),PV.sl (g.next+1) 0 4 (.known 4),PV.sl (g.next+2) 0 4 (.known 4),PV.sl (g.next+3) 0 4 (.known 4)]):=((((zB _ _).new _).new _).new _).new _;have obm:(((((g.new [PV.int IntKind.i64 0,PV.int IntKind.i64 1,PV.int IntKind.i64 0,PV.int IntKind.i64 0]).new [PV.int IntKind.i64 1,PV.int IntKind.i64 0,PV.int IntKind.i64 0,PV.int IntKind.i64 0]).new [PV.int IntKind.i64 0,PV.int IntKind.i64 0,PV.int IntKind.i64 0,PV.int IntKind.i64 1]).new [PV.int IntKind.i64 0,PV.int IntKind.i64 0,PV.int IntKind.i64 1,PV.int IntKind.i64 0]).new [PV.sl g.next 0 4 (.known 4),PV.sl (g.next+1) 0 4 (.known 4),PV.sl (g.next+2) 0 4 (.known 4),PV.sl (g.next+3) 0 4 (.known 4)]).obj (g.next+4)=some [PV.sl g.next 0 4 (.known 4),PV.sl (g.next+1) 0 4 (.known 4),PV.sl (g.next+2) 0 4 (.known 4),PV.sl (g.next+3) 0 4 (.known 4)]:=by rw [zD];exact if_pos rfl
   have ob0:(((((g.new [PV.int IntKind.i64 0,PV.int IntKind.i64 1,PV.int IntKind.i64 0,PV.int IntKind.i64 0]).new [PV.int IntKind.i64 1,PV.int IntKind.i64 0,PV.int IntKind.i64 0,PV.int IntKind.i64 0]).new [PV.int IntKind.i64 0,PV.int IntKind.i64 0,PV.int IntKind.i64 0,PV.int IntKind.i64 1]).new [PV.int IntKind.i64 0,PV.int IntKind.i64 0,PV.int IntKind.i64 1,PV.int IntKind.i64 0]).new [PV.sl g.next 0 4 (.known 4),PV.sl (g.next+1) 0 4 (.known 4),PV.sl (g.next+2) 0 4 (.known 4),PV.sl (g.next+3) 0 4 (.known 4)]).obj g.next=some (pis [0,1,0,0]):=by simp only [pwA,seval,-iQ0];rfl
   have ob1:(((((g.new [PV.int IntKind.i64 0,PV.int IntKind.i64 1,PV.int IntKind.i64 0,PV.int IntKind.i64 0]).new [PV.int IntKind.i64 1,PV.int IntKind.i64 0,PV.int IntKind.i64 0,PV.int IntKind.i64 0]).new [PV.int IntKind.i64 0,PV.int IntKind.i64 0,PV.int IntKind.i64 0,PV.int IntKind.i64 1]).new [PV.int IntKind.i64 0,PV.int IntKind.i64 0,PV.int IntKind.i64 1,PV.int IntKind.i64 0]).new [PV.sl g.next 0 4 (.known 4),PV.sl (g.next+1) 0 4 (.known 4),PV.sl (g.next+2) 0 4 (.known 4),PV.sl (g.next+3) 0 4 (.known 4)]).obj (g.next+1)=some (pis [1,0,0,0]):=by simp only [pwA,seval,-iQ0];rfl
   have ob2:(((((g.new [PV.int IntKind.i64 0,PV.int IntKind.i64 1,PV.int IntKind.i64 0,PV.int IntKind.i64 0]).new [PV.int IntKind.i64 1,PV.int IntKind.i64 0,PV.int IntKind.i64 0,PV.int IntKind.i64 0]).new [PV.int IntKind.i64 0,PV.int IntKind.i64 0,PV.int IntKind.i64 0,PV.int IntKind.i64 1]).new [PV.int IntKind.i64 0,PV.int IntKind.i64 0,PV.int IntKind.i64 1,PV.int IntKind.i64 0]).new [PV.sl g.next 0 4 (.known 4),PV.sl (g.next+1) 0 4 (.known 4),PV.sl (g.next+2) 0 4 (.known 4),PV.sl (g.next+3) 0 4 (.known 4)]).obj (g.next+2)=some (pis [0,0,0,1]):=by simp only [pwA,seval,-iQ0];rfl
   have ob3:(((((g.new [PV.int IntKind.i64 0,PV.int IntKind.i64 1,PV.int IntKind.i64 0,PV.int IntKind.i64 0]).new [PV.int IntKind.i64 1,PV.int IntKind.i64 0,PV.int IntKind.i64 0,PV.int IntKind.i64 0]).new [PV.int IntKind.i64 0,PV.int IntKind.i64 0,PV.int IntKind.i64 0,PV.int IntKind.i64 1]).new [PV.int IntKind.i64 0,PV.int IntKind.i64 0,PV.int IntKind.i64 1,PV.int IntKind.i64 0]).new [PV.sl g.next 0 4 (.known 4),PV.sl (g.next+1) 0 4 (.known 4),PV.sl (g.next+2) 0 4 (.known 4),PV.sl (g.next+3) 0 4 (.known 4)]).obj (g.next+3)=some (pis [0,0,1,0]):=by simp only [pwA,seval,-iQ0];rfl
   have hG:(((((g.new [PV.int IntKind.i64 0,PV.int IntKind.i64 1,PV.int IntKind.i64 0,PV.int IntKind.i64 0]).new [PV.int IntKind.i64 1,PV.int IntKind.i64 0,PV.int IntKind.i64 0,PV.int IntKind.i64 0]).new [PV.int IntKind.i64 0,PV.int IntKind.i64 0,PV.int IntKind.i64 0,PV.int IntKind.i64 1]).new [PV.int IntKind.i64 0,PV.int IntKind.i64 0,PV.int IntKind.i64 1,PV.int IntKind.i64 0]).new [PV.sl g.next 0 4 (.known 4),PV.sl (g.next+1) 0 4 (.known 4),PV.sl (g.next+2) 0 4 (.known 4),PV.sl (g.next+3) 0 4 (.known 4)]).next=g.next+5:=rfl;generalize (((((g.new [PV.int IntKind.i64 0,PV.int IntKind.i64 1,PV.int IntKind.i64 0,PV.int IntKind.i64 0]).new [PV.int IntKind.i64 1,PV.int IntKind.i64 0,PV.int IntKind.i64 0,PV.int IntKind.i64 0]).new [PV.int IntKind.i64 0,PV.int IntKind.i64 0,PV.int IntKind.i64 0,PV.int IntKind.i64 1]).new [PV.int IntKind.i64 0,PV.int IntKind.i64 0,PV.int IntKind.i64 1,PV.int IntKind.i64 0]).new [PV.sl g.next 0 4 (.known 4),PV.sl (g.next+1) 0 4 (.known 4),PV.sl (g.next+2) 0 4 (.known 4),PV.sl (g.next+3) 0 4 (.known 4)])=G at *
   have hM:MatX G (.sl (g.next+4) 0 4 (.known 4)) [[0,1,0,0],[1,0,0,0],[0,0,0,1],[0,0,1,0]]:=⟨g.next+4,.known 4,_,rfl,obm,by omega,zw ⟨_,_,rfl,ob0,by omega⟩ (zw ⟨_,_,rfl,ob1,by omega⟩ (zw ⟨_,_,rfl,ob2,by omega⟩ (zw ⟨_,_,rfl,ob3,by omega⟩ (All2.nil _))))⟩
   refine ZH (p:=2) (m:=2) (M:=[[0,1,0,0],[1,0,0,0],[0,0,0,1],[0,0,1,0]]) (by decide) (by decide) hM (ma_of (by decide) (by decide)) (by decide) fun uO uP uC O P C hR fm=>?_
   obtain⟨g1,g2,g3,g4,g5,g6⟩:=fin (km2.keep kk) (so2.keep kk) hR fm;simp only [pwA,seval,-iQ0,g1,g2,g3,g4,g5];exact g6
  simp only [pwA,seval,-iQ0,f0,f1,f2,f3,f4];have kk:Keep g (((g.new [PV.int IntKind.i64 0,PV.int IntKind.i64 1]).new [PV.int IntKind.i64 4,PV.int IntKind.i64 4]).new [PV.sl g.next 0 2 (.known 2),PV.sl (g.next+1) 0 2 (.known 2)]):=((zB _ _).new _).new _;have obm:(((g.new [PV.int IntKind.i64 0,PV.int IntKind.i64 1]).new [PV.int IntKind.i64 4,PV.int IntKind.i64 4]).new [PV.sl g.next 0 2 (.known 2),PV.sl (g.next+1) 0 2 (.known 2)]).obj (g.next+2)=some [PV.sl g.next 0 2 (.known 2),PV.sl (g.next+1) 0 2 (.known 2)]:=by rw [zD];exact if_pos rfl
  have ob0:(((g.new [PV.int IntKind.i64 0,PV.int IntKind.i64 1]).new [PV.int IntKind.i64 4,PV.int IntKind.i64 4]).new [PV.sl g.next 0 2 (.known 2),PV.sl (g.next+1) 0 2 (.known 2)]).obj g.next=some (pis [0,1]):=by simp only [pwA,seval,-iQ0];rfl
  have ob1:(((g.new [PV.int IntKind.i64 0,PV.int IntKind.i64 1]).new [PV.int IntKind.i64 4,PV.int IntKind.i64 4]).new [PV.sl g.next 0 2 (.known 2),PV.sl (g.next+1) 0 2 (.known 2)]).obj (g.next+1)=some (pis [4,4]):=by simp only [pwA,seval,-iQ0];rfl
  have hG:(((g.new [PV.int IntKind.i64 0,PV.int IntKind.i64 1]).new [PV.int IntKind.i64 4,PV.int IntKind.i64 4]).new [PV.sl g.next 0 2 (.known 2),PV.sl (g.next+1) 0 2 (.known 2)]).next=g.next+3:=rfl;generalize (((g.new [PV.int IntKind.i64 0,PV.int IntKind.i64 1]).new [PV.int IntKind.i64 4,PV.int IntKind.i64 4]).new [PV.sl g.next 0 2 (.known 2),PV.sl (g.next+1) 0 2 (.known 2)])=G at *
  have hM:MatX G (.sl (g.next+2) 0 2 (.known 2)) [[0,1],[4,4]]:=⟨g.next+2,.known 2,_,rfl,obm,by omega,zw ⟨_,_,rfl,ob0,by omega⟩ (zw ⟨_,_,rfl,ob1,by omega⟩ (All2.nil _))⟩
  refine ZH (p:=5) (m:=3) (M:=[[0,1],[4,4]]) (by decide) (by decide) hM (ma_of (by decide) (by decide)) (by decide) fun uO uP uC O P C hR fm=>?_
  obtain⟨g1,g2,g3,g4,g5,g6⟩:=fin (km2.keep kk) (so2.keep kk) hR fm;simp only [pwA,seval,-iQ0,g1,g2,g3,g4,g5];exact g6
 simp only [pwA,seval,-iQ0,e0,e1,e2,e3,e4,e5,e6];refine zl (n:=10) so1 (by decide) fun x2 g hx2 m2 so2=>?_
 have km2:=km1.mv hsH m2;have xl:=hx2.lt (by decide)
 simp only [pwA,seval,-iQ0];refine zGo ⟨hx2.1,by omega⟩ fun uO uP uC O P C hR fm=>?_
 obtain⟨g1,g2,g3,g4,g5,g6⟩:=fin km2 so2 hR fm;simp only [pwA,seval,-iQ0,g1,g2,g3,g4,g5];exact g6
end Go.Proofs
namespace Go.Grp
end Go.Grp
namespace Go.Proofs
open Go.Ab Go.Lie Go.Grp
variable {σ σ0 h h':PHeap} {K:PV→PHeap→Prop} {b k nP nC r s0 i j n:Nat} {L L':Nat→Nat} {Q Q':Nat→Prop} {len:Nat→Nat} {v vO vP vC c vX vS vL vM:PV} {x O xs bs:List Int} {P M:List (List Int)} {C:List (List (List Int))} {cs:List PV}
def Two (b:Nat) (h:PHeap) (vO vP vC:PV):Prop:=∃(so sP sR sC t:Nat) (c1 c2 c3 c4 c5:Cap),vO=.sl so 0 1 c1∧vP=.sl sP 0 1 c2∧vC=.sl sC 0 1 c4∧(full 1 c1 1∧full 1 c2 1∧full 1 c3 1∧full 1 c4 1∧full 1 c5 0)∧
 (b≤so∧so<h.next∧b≤sP∧sP<h.next∧b≤sR∧sR<h.next∧b≤sC∧sC<h.next∧b≤t∧t<h.next)∧h.obj so=some (pis [2])∧h.obj sP=some [.sl sR 0 1 c3]∧h.obj sR=some (pis [0])∧h.obj sC=some [.sl t 0 0 c5]∧h.obj t=some []
theorem Two.set (a:Two b h vO vP vC) {s:Nat} (hs:s<b) (ds:List PV):Two b (h.set s ds) vO vP vC:=by
 obtain⟨so,sP,sR,sC,t,c1,c2,c3,c4,c5,e1,e2,e3,f,⟨b1,b2,b3,b4,b5,b6,b7,b8,b9,b10⟩,o1,o2,o3,o4,o5⟩:=a;have k:∀{u:Nat},b≤u→(h.set s ds).obj u=h.obj u:=fun hu=>by rw [zJ,if_neg (by omega)]
 exact⟨so,sP,sR,sC,t,c1,c2,c3,c4,c5,e1,e2,e3,f,⟨b1,b2,b3,b4,b5,b6,b7,b8,b9,b10⟩,by rw [k b1];exact o1,by rw [k b3];exact o2,by rw [k b5];exact o3,by rw [k b7];exact o4,by rw [k b9];exact o5⟩
theorem Two.fin (a:Two b h vO vP vC) (kk:Keep σ h) (hb:σ.next≤b) (hk:∀wO wP wC,IsPr wO wP wC [2] [[0]] [[]]→K (.agg [wO,wP,wC]) σ):Gh σ K (.agg [vO,vP,vC]) h:=by
 obtain⟨so,sP,sR,sC,t,c1,c2,c3,c4,c5,rfl,rfl,rfl,⟨f1,f2,f3,f4,f5⟩,⟨b1,b2,b3,b4,b5,b6,b7,b8,b9,b10⟩,o1,o2,o3,o4,o5⟩:=a;have e:(TR.agg [TR.row so c1 [2],TR.lst sP c2 [TR.row sR c3 [0]],TR.lst sC c4 [TR.lst t c5 []]]).pv=.agg [.sl so 0 1 c1,.sl sP 0 1 c2,.sl sC 0 1 c4]:=by simp only [TR.pv,TR.pvs,TR.row_pv];rfl
 rw [←e];have ok:(TR.agg [TR.row so c1 [2],TR.lst sP c2 [TR.row sR c3 [0]],TR.lst sC c4 [TR.lst t c5 []]]).ok h σ.next:=by
  refine⟨TR.row_ok f1 o1 (by omega) b2,⟨⟨f2,?_,by omega,b4⟩,TR.row_ok f3 o3 (by omega) b6,trivial⟩,⟨⟨f4,?_,by omega,b8⟩,⟨⟨f5,o5,by omega,b10⟩,trivial⟩,trivial⟩,trivial⟩
  ·rw [o2];simp only [TR.pvs,TR.row_pv];rfl
  ·rw [o4];simp only [TR.pvs,TR.pv];rfl
 refine Gh.treeF kk (q9 ok) fun a=>?_
 have:=hk ((TR.row so c1 [2]).fz a) ((TR.lst sP c2 [TR.row sR c3 [0]]).fz a) ((TR.lst sC c4 [TR.lst t c5 []]).fz a) ⟨TR.row_FI,⟨true,_,_,rfl,(All2.nil _).cons TR.row_FI⟩,⟨true,_,_,rfl,(All2.nil _).cons ⟨true,_,_,rfl,All2.nil _⟩⟩⟩
 simpa only [TR.fz,TR.fzs]using this
theorem zFg {s:Nat} {cap:Cap} (ho:σ.obj s=some (pis [2])) (hs:s<σ.next) (hk:∀wO wP wC,IsPr wO wP wC [2] [[0]] [[]]→K (.agg [wO,wP,wC]) σ):zA Tryz.prog 203 [.sl s 0 1 cap] σ K:=by
 refine zA.gh ?_;refine zC mix Tryz.func203 ?_
 conv=>arg 2;cbv
 refine zF rfl ?_;simp only [pwA,seval,-iQ0];refine zA6 (xs:=[2]) (by rw [zD,if_neg (by omega)];exact ho) (by show s<σ.next+1;omega) (by decide) fun cap1 hc1=>?_
 simp only [pwA,seval,-iQ0];refine zG (fun m vs h=>(m=1∧vs=[.ptr σ.next 0,.int .i64 1,.ptr (σ.next+2) 0,.int .i64 0]∧Keep σ h∧h.obj σ.next=some nil3∧h.obj (σ.next+1)=some (pis [2])∧h.obj (σ.next+2)=some [.sl (σ.next+1) 0 1 cap1,.fz true .nils 0 [],.fz true .nils 0 []]∧h.next=σ.next+3)∨
   (m=0∧vs=[.ptr σ.next 0,.int .i64 1,.ptr (σ.next+2) 0,.int .i64 1]∧Keep σ h∧h.obj σ.next=some nil3∧∃uO uP uC:PV,h.obj (σ.next+2)=some [uO,uP,uC]∧Two (σ.next+1) h uO uP uC)) 1 ?_ ?_
 ·exact .inl ⟨rfl,rfl,((zB _ _).new _).new _,by simp only [pwA,seval,-iQ0],by simp only [pwA,seval,-iQ0],by simp only [pwA,seval,-iQ0],rfl⟩
 rintro m vs h (⟨rfl,rfl,kk,ob0,ob1,ob2,hn⟩ | ⟨rfl,rfl,kk,ob0,uO,uP,uC,ob2,tw⟩)
 ·have r1:h.rd1 (σ.next+2) 1=some (.fz true .nils 0 []):=by rw [zH ob2];rfl
  have r2:h.rd1 (σ.next+2) 2=some (.fz true .nils 0 []):=by rw [zH ob2];rfl
  have n1:¬σ.next+2=h.next:=by omega
  have n2:¬σ.next+2=h.next+1:=by omega
  have n3:¬σ.next+2=h.next+2:=by omega
  simp only [pwA,seval,-iQ0,r1,r2,n1,n2,n3,mk8 (n:=1) (by omega),Go.Ab.mkL (n:=1) (by omega),qL,Qv,zCK,qM]
  have w1:h.wr (σ.next+2) 1 [.sl (h.next+2) 0 1 (.grown 1)]=some (h.set (σ.next+2) [.sl (σ.next+1) 0 1 cap1,.sl (h.next+2) 0 1 (.grown 1),.fz true .nils 0 []]):=by rw [zX ob2,if_pos ⟨by simp,by simp;rfl⟩];rfl
  have ob2':(h.set (σ.next+2) [.sl (σ.next+1) 0 1 cap1,.sl (h.next+2) 0 1 (.grown 1),.fz true .nils 0 []]).obj (σ.next+2)=some [.sl (σ.next+1) 0 1 cap1,.sl (h.next+2) 0 1 (.grown 1),.fz true .nils 0 []]:=by rw [zJ,if_pos rfl]
  have ob1':(h.set (σ.next+2) [.sl (σ.next+1) 0 1 cap1,.sl (h.next+2) 0 1 (.grown 1),.fz true .nils 0 []]).obj (σ.next+1)=some (pis [2]):=by rw [zJ,if_neg (by omega)];exact ob1
  have ob0':(h.set (σ.next+2) [.sl (σ.next+1) 0 1 cap1,.sl (h.next+2) 0 1 (.grown 1),.fz true .nils 0 []]).obj σ.next=some nil3:=by rw [zJ,if_neg (by omega)];exact ob0
  have kk':Keep σ (h.set (σ.next+2) [.sl (σ.next+1) 0 1 cap1,.sl (h.next+2) 0 1 (.grown 1),.fz true .nils 0 []]):=kk.set (by omega) _
  have hn':(h.set (σ.next+2) [.sl (σ.next+1) 0 1 cap1,.sl (h.next+2) 0 1 (.grown 1),.fz true .nils 0 []]).next=h.next:=rfl;refine⟨by decide,?_⟩
  simp only [pwA,seval,-iQ0,w1];generalize h.set (σ.next+2) [.sl (σ.next+1) 0 1 cap1,.sl (h.next+2) 0 1 (.grown 1),.fz true .nils 0 []]=g at *
  rw [←hn'];rw [←hn']at ob2'
  refine zG (fun m vs h'=>m=0∧vs=[.ptr σ.next 0,.int .i64 1,.ptr (σ.next+2) 0,.int .i64 0,.sl (g.next+3) 0 0 (.known 0),.int .i64 1]∧h'=(((g.new [PV.int .i64 0]).new [PV.sl g.next 0 1 (Cap.known 1)]).new [PV.sl g.next 0 1 (Cap.known 1)]).new []) 0 ?_ ?_
  ·exact⟨rfl,rfl,rfl⟩
  rintro m vs h' ⟨rfl,rfl,rfl⟩
  have r2':g.rd1 (σ.next+2) 2=some (.fz true .nils 0 []):=by rw [zH ob2'];rfl
  rw [←hn']at n1 n2 n3 hn
  have n4:¬σ.next+2=g.next+3:=by omega
  have n5:¬σ.next+2=g.next+4:=by omega
  have n6:¬σ.next+2=g.next+5:=by omega
  simp only [pwA,seval,-iQ0,r2',n1,n2,n3,n4,n5,n6,qL,Qv,zCK,qM];have w2:g.wr (σ.next+2) 2 [.sl (g.next+5) 0 1 (.grown 1)]=some (g.set (σ.next+2) [.sl (σ.next+1) 0 1 cap1,.sl (g.next+2) 0 1 (.grown 1),.sl (g.next+5) 0 1 (.grown 1)]):=by rw [zX ob2',if_pos ⟨by simp,by simp;rfl⟩];rfl
  have ob2'':(g.set (σ.next+2) [.sl (σ.next+1) 0 1 cap1,.sl (g.next+2) 0 1 (.grown 1),.sl (g.next+5) 0 1 (.grown 1)]).obj (σ.next+2)=some [.sl (σ.next+1) 0 1 cap1,.sl (g.next+2) 0 1 (.grown 1),.sl (g.next+5) 0 1 (.grown 1)]:=by rw [zJ,if_pos rfl]
  have ob1'':(g.set (σ.next+2) [.sl (σ.next+1) 0 1 cap1,.sl (g.next+2) 0 1 (.grown 1),.sl (g.next+5) 0 1 (.grown 1)]).obj (σ.next+1)=some (pis [2]):=by rw [zJ,if_neg (by omega)];exact ob1'
  have ob0'':(g.set (σ.next+2) [.sl (σ.next+1) 0 1 cap1,.sl (g.next+2) 0 1 (.grown 1),.sl (g.next+5) 0 1 (.grown 1)]).obj σ.next=some nil3:=by rw [zJ,if_neg (by omega)];exact ob0'
  have kk'':Keep σ (g.set (σ.next+2) [.sl (σ.next+1) 0 1 cap1,.sl (g.next+2) 0 1 (.grown 1),.sl (g.next+5) 0 1 (.grown 1)]):=kk'.set (by omega) _
  have hn'':(g.set (σ.next+2) [.sl (σ.next+1) 0 1 cap1,.sl (g.next+2) 0 1 (.grown 1),.sl (g.next+5) 0 1 (.grown 1)]).next=g.next:=rfl;simp only [pwA,seval,-iQ0,w2];generalize g.set (σ.next+2) [.sl (σ.next+1) 0 1 cap1,.sl (g.next+2) 0 1 (.grown 1),.sl (g.next+5) 0 1 (.grown 1)]=G at *
  rw [←hn'']at ob2'' hn ⊢
  have m0:∀k:Nat,¬σ.next=G.next+k:=fun k=>by omega
  have m1:∀k:Nat,¬σ.next+1=G.next+k:=fun k=>by omega
  have m2:∀k:Nat,¬σ.next+2=G.next+k:=fun k=>by omega
  have m00:¬σ.next=G.next:=m0 0;have m10:¬σ.next+1=G.next:=m1 0;have m20:¬σ.next+2=G.next:=m2 0;have eN:((((((G.new [PV.int .i64 0]).new [PV.sl G.next 0 1 (Cap.known 1)]).new [PV.sl G.next 0 1 (Cap.known 1)]).new []).new [PV.sl (G.next+3) 0 0 (Cap.known 0)]).new [PV.sl (G.next+3) 0 0 (Cap.known 0)]).next=G.next+6:=rfl;refine⟨0,by decide,.inr ⟨rfl,rfl,(((((kk''.new _).new _).new _).new _).new _).new _,?_,_,_,_,?_,σ.next+1,G.next+2,G.next,G.next+5,G.next+3,cap1,.grown 1,.known 1,.grown 1,.known 0,rfl,rfl,rfl,⟨hc1,.inl rfl,.inr rfl,.inl rfl,.inr rfl⟩,⟨?_,?_,?_,?_,?_,?_,?_,?_,?_,?_⟩,?_,?_,?_,?_,?_⟩⟩
  all_goals first
   | omega
   | (simp only [pwA,seval,-iQ0,m0,m1,m2,m00,m10,m20];done)
   | (simp only [pwA,seval,-iQ0,m0,m1,m2,m00,m10,m20];first | exact ob0' | exact ob0'' | exact ob1'' | exact ob2'' | rfl)
 have r3:h.rd (σ.next+2) 0 3=some [uO,uP,uC]:=by rw [zb ob2];rfl
 obtain⟨f1,f2,f3⟩:uO.one=true∧uP.one=true∧uC.one=true:=by
  obtain⟨so,sP,sR,sC,t,c1,c2,c3,c4,c5,rfl,rfl,rfl,_⟩:=tw;exact⟨rfl,rfl,rfl⟩
 have w:h.wr σ.next 0 [uO,uP,uC]=some (h.set σ.next [uO,uP,uC]):=by rw [zX ob0,if_pos ⟨by simp [nil3],by simp [f1,f2,f3]⟩];rfl
 have r4:(h.set σ.next [uO,uP,uC]).rd σ.next 0 3=some [uO,uP,uC]:=by rw [qZ,if_pos rfl];rfl
 have tw':=tw.set (s:=σ.next) (by omega) [uO,uP,uC]
 have kk':Keep σ (h.set σ.next [uO,uP,uC]):=kk.set (Nat.le_refl _) _;generalize h.set σ.next [uO,uP,uC]=g at *
 simp only [pwA,seval,-iQ0,r3,w,r4,f1,f2,f3];exact tw'.fin kk' (by omega) hk
end Go.Proofs
namespace Go.Grp
end Go.Grp
namespace Go.Proofs
open Go.Ab Go.Lie Go.Grp
variable {σ σ0 h h':PHeap} {K:PV→PHeap→Prop} {b k nP nC r s0 i j n:Nat} {L L':Nat→Nat} {Q Q':Nat→Prop} {len:Nat→Nat} {v vO vP vC c vX vS vL vM:PV} {x O xs bs:List Int} {P M:List (List Int)} {C:List (List (List Int))} {cs:List PV}
theorem zJ9:zQ [2] [[0]] [[]]:=by
 refine⟨by decide,rfl,rfl,by decide,by decide,fun i hi=>?_⟩
 have e:i=0:=by simp only [List.length_cons,List.length_nil]at hi;omega
 subst e;refine⟨⟨⟨rfl,fun j hj=>?_⟩,by decide⟩,rfl,fun k hk=>by simp at hk⟩
 have e:j=0:=by simp at hj;omega
 subst e
 decide
theorem zGq {l:Int} (so:So σ s0 vS bs) (hk:∀wO wP wC O P C σ',IsPr wO wP wC O P C→zQ O P C→Mv σ s0 σ'→So σ' s0 vS bs→K (.agg [wO,wP,wC]) σ'):zA Tryz.prog 150 [.ptr s0 0,.int .i64 l] σ K:=by
 have hs0:=so.lt;refine zA.gh ?_;refine zC mix Tryz.func150 ?_
 conv=>arg 2;cbv
 refine zF rfl ?_;simp only [pwA,seval,-iQ0];generalize hH:σ.new [PV.fz true AV.nils 0 [],PV.fz true AV.nils 0 [],PV.fz true AV.nils 0 []]=H;have hHn:H.next=σ.next+1:=by rw [←hH];rfl
 have hsH:s0<H.next:=by omega
 have ob0:H.obj σ.next=some nil3:=by rw [←hH];simp only [pwA,seval,-iQ0]
 have km0:KM σ s0 H:=by rw [←hH];exact so.kmK (zB _ _)
 have so0:So H s0 vS bs:=by rw [←hH];exact so.keep (zB _ _)
 clear hH;have fin2:∀{g:PHeap} {wO wP wC:PV} {O:List Int} {P:List (List Int)} {C:List (List (List Int))},KM σ s0 g→So g s0 vS bs→IsPr wO wP wC O P C→zQ O P C→Gh σ K (.agg [wO,wP,wC]) g:=fun {g wO wP wC O P C} km so' hR fm=>
  Gh.km km so' hs0 fun σ' m' so'' kp=>Gh.fin0 kp ⟨hR.O.bel _,hR.P.bel _,hR.C.bel _,trivial⟩ (hk _ _ _ O P C σ' hR fm m' so'')
 have fin:∀{g:PHeap} {wO wP wC:PV} {O:List Int} {P:List (List Int)} {C:List (List (List Int))},KM H s0 g→So g s0 vS bs→IsPr wO wP wC O P C→zQ O P C→
   g.wr σ.next 0 [wO,wP,wC]=some (g.set σ.next [wO,wP,wC])∧(g.set σ.next [wO,wP,wC]).rd σ.next 0 3=some [wO,wP,wC]∧Gh σ K (.agg [wO,wP,wC]) (g.set σ.next [wO,wP,wC]):=fun {g wO wP wC O P C} km so' hR fm=>by
  have o1:=hR.O.one;have o2:=hR.P.one;have o3:=hR.C.one;have ob:g.obj σ.next=some nil3:=by rw [km.obj (by omega) (by omega)];exact ob0
  exact⟨by rw [zX ob,if_pos ⟨by simp [nil3],by simp [o1,o2,o3]⟩];rfl,by rw [qZ,if_pos rfl];rfl,fin2 ((km0.trans hs0 km).set (Nat.le_refl _) _) (so'.set (by omega) _) hR fm⟩
 refine zG (fun m vs g=>∃i:Nat,i≤12∧m=12-i∧vs=[.ptr s0 0,.int .i64 l,.ptr σ.next 0,.int .i64 i]∧KM H s0 g∧So g s0 vS bs) 12 ?_ ?_
 ·exact⟨0,by decide,rfl,rfl,so0.km,so0⟩
 rintro m vs g ⟨i,hi,rfl,rfl,km,so1⟩
 simp only [pwA,seval,-iQ0];refine iteI (fun hlt=>?_) fun hge=>?_
 rotate_left
 ·refine zFg (s:=g.next) (by rw [zD,if_pos rfl];rfl) (Nat.lt_succ_self _) fun uO uP uC hR=>?_
  obtain⟨f1,f2,f3⟩:=fin (km.new [.int .i64 2]) (so1.keep (zB _ _)) hR zJ9;have o1:=hR.O.one;have o2:=hR.P.one;have o3:=hR.C.one;generalize g.new [PV.int .i64 2]=g' at *
  simp only [pwA,seval,-iQ0,o1,o2,o3,f1,f2];exact f3
 have wi:IntKind.i64.wrap ((i:Int)+1)=((i+1:Nat):Int):=by rw [wrap64 (by omega) (by omega)];omega
 refine zBz so1 fun vO vP vC O5 P5 C5 g1 hR5 fm m1 so2=>?_
 have p1:=hR5.O.one;have p2:=hR5.P.one;have p3:=hR5.C.one;have km1:=(km.mv hsH m1).new [vO,vP,vC];have so2':=so2.keep (zB g1 [vO,vP,vC]);have hg1:=km.next;have hm1:=m1.next;simp only [pwA,seval,-iQ0,p1,p2,p3];have ht:H.next≤g1.next:=by omega
 have ob1:(g1.new [vO,vP,vC]).obj g1.next=some [vO,vP,vC]:=by rw [zD,if_pos rfl]
 generalize g1.new [vO,vP,vC]=g2 at *
 generalize g1.next=t at *
 refine zl (n:=3) so2' (by decide) fun x g5 hx m3 so5=>?_
 have km5:=km1.mv hsH m3;have ob5:g5.obj t=some [vO,vP,vC]:=by rw [m3.obj (by omega)];exact ob1
 have r5:g5.rd t 0 3=some [vO,vP,vC]:=by rw [zb ob5];rfl
 have fm5:Fm 36 O5 P5 C5:=fm.mono (by decide)
 by_cases hx0:x=0
 case' pos=>
  subst hx0;simp only [pwA,seval,-iQ0,r5];refine zBz so5 fun yO yP yC O' P' C' g4 hR' fm' m4 so4=>?_
  have km4:=km5.mv hsH m4;have ob4:g4.obj t=some [vO,vP,vC]:=by rw [m4.obj (by omega)];exact ob5
  have r4:g4.rd t 0 3=some [vO,vP,vC]:=by rw [zb ob4];rfl
  simp only [pwA,seval,-iQ0,r4];refine zH7 hR5 fm hR' fm' fun vO vP vC O5 P5 C5 hR5 fm5=>?_
  have p1:=hR5.O.one;have p2:=hR5.P.one;have p3:=hR5.C.one;have w4:g4.wr t 0 [vO,vP,vC]=some (g4.set t [vO,vP,vC]):=by rw [zX ob4,if_pos ⟨by simp,by simp [p1,p2,p3]⟩];rfl
  have km5:=km4.set ht [vO,vP,vC];have so5:=so4.set (t:=t) (by omega) [vO,vP,vC]
  have ob5:(g4.set t [vO,vP,vC]).obj t=some [vO,vP,vC]:=by rw [zJ,if_pos rfl]
  simp only [pwA,seval,-iQ0,r4,w4,p1,p2,p3];generalize g4.set t [vO,vP,vC]=g5 at *
  have r5:g5.rd t 0 3=some [vO,vP,vC]:=by rw [zb ob5];rfl
  simp only [pwA,seval,-iQ0,r5]
 case' neg=>
  simp only [pwA,seval,-iQ0,hx0,r5]
 all_goals
  refine zm hR5 (fm5.sz (by decide)) fun tt htt=>?_
  cases tt
  ·simp only [pwA,seval,-iQ0,wi]
   exact⟨_,by omega,i+1,by omega,rfl,rfl,km5,so5⟩
  have hp:=htt.1 rfl;have hO:=hR5.O;have r50:g5.rd1 t 0=some vO:=by rw [zH ob5];rfl
  simp only [pwA,seval,-iQ0,r50];refine zBb hO hp.1 hp.2.2.2.1 fun r hr=>?_
  by_cases hl:r≤l
  ·obtain⟨f1,f2,f3⟩:=fin km5 so5 hR5 hp
   simp only [pwA,seval,-iQ0,hl,r5,p1,p2,p3,f1,f2];exact f3
  ·simp only [pwA,seval,-iQ0,hl,wi]
   exact⟨_,by omega,i+1,by omega,rfl,rfl,km5,so5⟩
end Go.Proofs
namespace Go.Grp
end Go.Grp
namespace Go.Proofs
open Go.Ab Go.Lie Go.Grp
variable {σ σ0 h h':PHeap} {K:PV→PHeap→Prop} {b k nP nC r s0 i j n:Nat} {L L':Nat→Nat} {Q Q':Nat→Prop} {len:Nat→Nat} {v vO vP vC c vX vS vL vM:PV} {x O xs bs:List Int} {P M:List (List Int)} {C:List (List (List Int))} {cs:List PV}
theorem SmP.sz (a:SmP O P C):SzP O P C:=
 ⟨by have:=a.o;omega,⟨by have:=a.p;omega,fun r hr=>by have:=a.pr r hr;omega⟩,⟨by have:=a.c;omega,fun q hq=>⟨by have:=a.q q hq;omega,fun r hr=>by have:=a.r q hq r hr;omega⟩⟩⟩
theorem zG6 (hp:zQ O P C):SmP O P C:=by
 have sh:=hp.shp;have l6:=sh.le;obtain⟨h1,h2⟩:=zER sh;refine⟨by omega,fun a ha=>?_,by rw [sh.pl];omega,fun r hr=>by rw [h2 r hr];omega,by rw [sh.cl];omega,fun q hq=>by have:=(h1 q hq).1;omega,fun q hq r hr=>by rw [(h1 q hq).2 r hr];omega⟩
 obtain⟨j,hj,rfl⟩:=List.mem_iff_getElem.1 ha
 have:=sh.pr j hj
 rw [at_eq hj]at this
 omega
theorem PQ3.smO (hp:zQ O M C) {P':List (List Int)} {C':List (List (List Int))} (a:PQ3 (fun m=>m=O.length) P' C' O.length O.length (fun i=>O.length-1-i)):SmP O P' C':=
 have l6:=hp.shp.le
 PQ3.sm (N:=O.length) ⟨a.pl,a.cl,fun r hr=>Nat.le_of_eq (a.pq r hr),a.row,fun q hq r hr=>Nat.le_of_eq (a.cq q hq r hr)⟩ (by omega) (by omega) (zG6 hp).ob (by omega) (by omega) fun i hi=>by omega
theorem zIt {R:List Int→List (List Int)→List (List (List Int))→Prop} (hs0:s0<σ.next) (hk:∀wO wP wC O P C σ',IsPr wO wP wC O P C→R O P C→Mv σ s0 σ'→So σ' s0 vS bs→K (.agg [wO,wP,wC]) σ')
  {g:PHeap} (km:KM σ s0 g) (so:So g s0 vS bs) (ob:g.obj σ.next=some nil3) {wO wP wC:PV} (hR:IsPr wO wP wC O P C) (fm:R O P C):
  wO.one=true∧wP.one=true∧wC.one=true∧g.wr σ.next 0 [wO,wP,wC]=some (g.set σ.next [wO,wP,wC])∧(g.set σ.next [wO,wP,wC]).rd σ.next 0 3=some [wO,wP,wC]∧Gh σ K (.agg [wO,wP,wC]) (g.set σ.next [wO,wP,wC]):=by
 have o1:=hR.O.one;have o2:=hR.P.one;have o3:=hR.C.one;refine⟨o1,o2,o3,by rw [zX ob,if_pos ⟨by simp [nil3],by simp [o1,o2,o3]⟩];rfl,by rw [qZ,if_pos rfl];rfl,?_⟩
 refine Gh.km (km.set (Nat.le_refl _) _) (so.set (by omega) _) hs0 fun σ' m' so' kp=>Gh.fin0 kp ⟨hR.O.bel _,hR.P.bel _,hR.C.bel _,trivial⟩ (hk _ _ _ O P C σ' hR fm m' so')
theorem zH6 {l:Int} (so:So σ s0 vS bs) (hk:∀wO wP wC O P C σ',IsPr wO wP wC O P C→SmP O P C→Mv σ s0 σ'→So σ' s0 vS bs→K (.agg [wO,wP,wC]) σ'):zA Tryz.prog 82 [.ptr s0 0,.int .i64 l] σ K:=by
 have hs0:=so.lt;refine zA.gh ?_;refine zC mix Tryz.func82 ?_
 conv=>arg 2;cbv
 refine zF rfl ?_;simp only [pwA,seval,-iQ0];generalize hH:σ.new [PV.fz true AV.nils 0 [],PV.fz true AV.nils 0 [],PV.fz true AV.nils 0 []]=H;have hHn:H.next=σ.next+1:=by rw [←hH];rfl
 have hsH:s0<H.next:=by omega
 have ob0:H.obj σ.next=some nil3:=by rw [←hH];simp only [pwA,seval,-iQ0]
 have km0:KM σ s0 H:=by rw [←hH];exact so.kmK (zB _ _)
 have so0:So H s0 vS bs:=by rw [←hH];exact so.keep (zB _ _)
 clear hH;have fin:∀{g:PHeap} {wO wP wC:PV} {O:List Int} {P:List (List Int)} {C:List (List (List Int))},KM H s0 g→So g s0 vS bs→IsPr wO wP wC O P C→SmP O P C→
   wO.one=true∧wP.one=true∧wC.one=true∧g.wr σ.next 0 [wO,wP,wC]=some (g.set σ.next [wO,wP,wC])∧(g.set σ.next [wO,wP,wC]).rd σ.next 0 3=some [wO,wP,wC]∧Gh σ K (.agg [wO,wP,wC]) (g.set σ.next [wO,wP,wC]):=fun {g wO wP wC O P C} km so' hR fm=>
  zIt hs0 hk (km0.trans hs0 km) so' (by rw [km.obj (by omega) (by omega)];exact ob0) hR fm
 refine zGq so0 fun vO vP vC O P C g1 hR hp m1 so1=>?_
 have o1:=hR.O.one;have o2:=hR.P.one;have o3:=hR.C.one;have hm1:=m1.next;have km1:=(so0.km.mv hsH m1).new [vO,vP,vC];have so1':=so1.keep (zB g1 [vO,vP,vC]);have ob1:(g1.new [vO,vP,vC]).obj g1.next=some [vO,vP,vC]:=by rw [zD,if_pos rfl]
 simp only [pwA,seval,-iQ0,o1,o2,o3];generalize g1.new [vO,vP,vC]=g2 at *
 generalize g1.next=t at *
 refine zl (n:=24) so1' (by decide) fun x g3 hx m3 so3=>?_
 have km3:=km1.mv hsH m3;have ob3:g3.obj t=some [vO,vP,vC]:=by rw [m3.obj (by omega)];exact ob1
 have r3:g3.rd t 0 3=some [vO,vP,vC]:=by rw [zb ob3];rfl
 by_cases e0:x=0
 ·subst e0
  simp only [pwA,seval,-iQ0,r3];refine zH8 so3 hR hp fun uO uP uC O' P' C' g4 hR' sm m4 so4=>?_
  obtain⟨f1,f2,f3,f4,f5,f6⟩:=fin (km3.mv hsH m4) so4 hR' sm;simp only [pwA,seval,-iQ0,f1,f2,f3,f4,f5];exact f6
 have turn:∀{K':PV→PHeap→Prop},(∀uO uP uC P' C' g4,IsPr uO uP uC O P' C'→SmP O P' C'→KM H s0 g4→So g4 s0 vS bs→K' (.agg [uO,uP,uC]) g4)→zA Tryz.prog 84 [.ptr s0 0,.agg [vO,vP,vC]] g3 K':=fun hk'=>
  zDf so3 hR hp fun uO uP uC P' C' g4 hR' hq m4 so4=>hk' uO uP uC P' C' g4 hR' (PQ3.smO hp hq) (km3.mv hsH m4) so4
 by_cases e1:x=1
 ·subst e1
  simp only [pwA,seval,-iQ0,r3];refine turn fun uO uP uC P' C' g4 hR' sm km4 so4=>?_
  obtain⟨f1,f2,f3,f4,f5,f6⟩:=fin km4 so4 hR' sm;simp only [pwA,seval,-iQ0,f1,f2,f3,f4,f5];exact f6
 by_cases e2:x=2
 ·subst e2
  simp only [pwA,seval,-iQ0,r3];refine turn fun uO uP uC P' C' g4 hR' sm km4 so4=>?_
  obtain⟨f1,f2,f3,f4,f5,f6⟩:=fin km4 so4 hR' sm;simp only [pwA,seval,-iQ0,f1,f2,f3,f4,f5];exact f6
 obtain⟨f1,f2,f3,f4,f5,f6⟩:=fin km3 so3 hR (zG6 hp);simp only [pwA,seval,-iQ0,e0,e1,e2,r3,f1,f2,f3,f4,f5];exact f6
theorem zH5 (so:So σ s0 vS bs) (hk:∀wO wP wC O P C σ',IsPr wO wP wC O P C→SmP O P C→Mv σ s0 σ'→So σ' s0 vS bs→K (.agg [wO,wP,wC]) σ'):zA Tryz.prog 30 [.ptr s0 0] σ K:=by
 have hs0:=so.lt;refine zA.gh ?_;refine zC mix Tryz.func30 ?_
 conv=>arg 2;cbv
 refine zF rfl ?_;simp only [pwA,seval,-iQ0];generalize hH:σ.new [PV.fz true AV.nils 0 [],PV.fz true AV.nils 0 [],PV.fz true AV.nils 0 []]=H;have hHn:H.next=σ.next+1:=by rw [←hH];rfl
 have hsH:s0<H.next:=by omega
 have ob0:H.obj σ.next=some nil3:=by rw [←hH];simp only [pwA,seval,-iQ0]
 have km0:KM σ s0 H:=by rw [←hH];exact so.kmK (zB _ _)
 have so0:So H s0 vS bs:=by rw [←hH];exact so.keep (zB _ _)
 clear hH;have fin:∀{g:PHeap} {wO wP wC:PV} {O:List Int} {P:List (List Int)} {C:List (List (List Int))},KM H s0 g→So g s0 vS bs→IsPr wO wP wC O P C→SmP O P C→
   wO.one=true∧wP.one=true∧wC.one=true∧g.wr σ.next 0 [wO,wP,wC]=some (g.set σ.next [wO,wP,wC])∧(g.set σ.next [wO,wP,wC]).rd σ.next 0 3=some [wO,wP,wC]∧Gh σ K (.agg [wO,wP,wC]) (g.set σ.next [wO,wP,wC]):=fun {g wO wP wC O P C} km so' hR fm=>
  zIt hs0 hk (km0.trans hs0 km) so' (by rw [km.obj (by omega) (by omega)];exact ob0) hR fm
 refine zH6 so0 fun vO vP vC O P C g1 hR sm m1 so1=>?_
 have o1:=hR.O.one;have o2:=hR.P.one;have o3:=hR.C.one;have hm1:=m1.next;have km1:=(so0.km.mv hsH m1).new [vO,vP,vC];have so1':=so1.keep (zB g1 [vO,vP,vC]);have ob1:(g1.new [vO,vP,vC]).obj g1.next=some [vO,vP,vC]:=by rw [zD,if_pos rfl]
 simp only [pwA,seval,-iQ0,o1,o2,o3];generalize g1.new [vO,vP,vC]=g2 at *
 generalize g1.next=t at *
 refine zl (n:=2) so1' (by decide) fun x g3 hx m3 so3=>?_
 have km3:=km1.mv hsH m3;have ob3:g3.obj t=some [vO,vP,vC]:=by rw [m3.obj (by omega)];exact ob1
 have r3:g3.rd t 0 3=some [vO,vP,vC]:=by rw [zb ob3];rfl
 obtain⟨f1,f2,f3,f4,f5,f6⟩:=fin km3 so3 hR sm
 by_cases e0:x=0
 ·subst e0
  simp only [pwA,seval,-iQ0,r3];refine zm hR sm.sz fun tt htt=>?_
  cases tt
  ·simp only [pwA,seval,-iQ0,r3,f1,f2,f3,f4,f5]
   exact f6
  simp only [pwA,seval,-iQ0,r3];refine zDf so3 hR (htt.1 rfl) fun uO uP uC P' C' g4 hR' hq m4 so4=>?_
  obtain⟨f1,f2,f3,f4,f5,f6⟩:=fin (km3.mv hsH m4) so4 hR' (PQ3.smO (htt.1 rfl) hq);simp only [pwA,seval,-iQ0,f1,f2,f3,f4,f5];exact f6
 ·simp only [pwA,seval,-iQ0,e0,r3,f1,f2,f3,f4,f5]
  exact f6
end Go.Proofs
namespace Go.Grp
end Go.Grp
namespace Go.Proofs
open Go.Ab Go.Lie Go.Grp
variable {σ h h':PHeap} {K:PV→PHeap→Prop} {O:List Int} {P:List (List Int)} {C:List (List (List Int))} {vO vP vC vx vM vA v:PV} {x:List Int} {A M:List (List Int)} {sp se:Nat}
def CRes (O:List Int) (P:List (List Int)) (C:List (List (List Int))) (k:Int) (G:List Pre) (L:List (List Int)) (c:Int):Prop:=
 (¬zQ O P C∧(k=0∧G=[]∧L=[])∧c=1)∨(zQ O P C∧128<ordF O O.length∧(k=0∧G=[]∧L=[])∧c=3)∨(zQ O P C∧ordF O O.length≤128∧¬Cons O P C∧(k=0∧G=[]∧L=[])∧c=4)∨
 (zQ O P C∧ordF O O.length≤128∧Cons O P C∧(k=1∧G=[(O,P,C)]∧L=regul O P C)∧c=0)
theorem Owns.append {lo t hi:Nat} {a b:List PV} (h:Owns lo t a) (g:Owns t hi b) (hl:lo≤t) (ht:t≤hi):Owns lo hi (a++b):=by
 refine⟨Zd.2 fun c hc=>?_,?_,fun o ho=>?_⟩
 ·rcases List.mem_append.1 hc with hc | hc
  ·exact Zd.1 h.wh c hc
  ·exact Zd.1 g.wh c hc
 ·rw [qK,List.nodup_append]
  refine⟨h.nd,g.nd,fun x hx y hy e=>?_⟩
  have:=h.lt x hx
  have:=g.lt y hy
  omega
 ·rw [qK,List.mem_append]at ho
  rcases ho with ho|ho
  ·have:=h.lt o ho;omega
  ·have:=g.lt o ho;omega
theorem Owns.swap {lo hi:Nat} {a b:PV} (h:Owns lo hi [a,b]):Owns lo hi [b,a]:=by
 obtain⟨⟨w1,w2,_⟩,nd,hlt⟩:=h;simp only [eads,List.append_nil]at nd hlt
 refine⟨⟨w2,w1,trivial⟩,?_,fun o ho=>?_⟩
 ·simp only [eads,List.append_nil]
  exact(List.perm_append_comm (l₁:=ead b) (l₂:=ead a)).nodup_iff.2 nd
 ·simp only [eads,List.append_nil]at ho
  exact hlt o (List.mem_append.2 ((List.mem_append.1 ho).symm))
theorem zMc {w:Bool} {a:AV}:FG (.fz w a 0 []) []:=⟨w,a,[],rfl,All2.nil _⟩
theorem zMb {w:Bool} {a:AV} {wO wP wC:PV} (h:IsPr wO wP wC O P C):FG (.fz w a 1 [wO,wP,wC]) [(O,P,C)]:=⟨w,a,[(wO,wP,wC)],rfl,(All2.nil FI3).snoc h⟩
theorem zBT (hp:zQ O P C) (hc:¬Cons O P C) (sz:SzP O P C) (hR:IsPr vO vP vC O P C) (hk:K (.tup [.fz true .nils 0 [],.int .i64 1]) σ):zA Tryz.prog 43 [.agg [vO,vP,vC]] σ K:=by
 have g0:=hR.O.one;have g1:=hR.P.one;have g2:=hR.C.one;refine zA.gh ?_;refine zC mix Tryz.func43 ?_
 conv=>arg 2;cbv
 refine zF rfl ?_;simp only [pwA,seval,-iQ0,g0,g1,g2];refine qg hR sz fun t ht=>?_
 cases t with
 | true=>exact absurd (ht.1 rfl).2 hc
 | false=>
  simp only [pwA,seval,-iQ0];exact Gh.fin0 (zB σ _) ⟨trivial,trivial,trivial⟩ hk
theorem zK3 {hE:PHeap} {g:Nat} {wO wP wC vL:PV} {L:List (List Int)} (kk:Keep σ hE) (hg:hE.obj g=some [wO,wP,wC]) (h0:σ.next≤g) (hq:IsPr wO wP wC O P C) (fL:FII vL L)
  (k:∀o,σ.top≤o→o∉qU [wO,wP,wC]→o∉addrs vL→σ.top≤max hE.top (o+1)→K (.tup [.agg [.int .i64 1,.fz true (.sl o 0 1 (.known 1)) 1 [wO,wP,wC],vL],.int .i64 0]) (σ.up (max hE.top (o+1)))):Gh σ K (.tup [.agg [.int .i64 1,.sl g 0 1 (.known 1),vL],.int .i64 0]) hE:=by
 refine Gh.freeze (s:=g) (cs:=[wO,wP,wC]) hg h0 ⟨hq.O.bel 0,hq.P.bel 0,hq.C.bel 0,trivial⟩ fun o ho hc hv=>?_
 have sL:sb g o [wO,wP,wC] vL=vL:=fL.sb _ _ _;simp only [sb,sbs,sL,capOK,and_self,if_true,decide_true,Nat.le_refl];have hv':o∉addrs vL:=by
  simp only [addrs,qU,List.nil_append,List.append_nil]at hv
  exact hv
 exact Gh.fin0T (t:=max hE.top (o+1)) ((kk.kill h0).up (by simp only [PHeap.kill];omega)) (Nat.le_refl _) ⟨⟨trivial,trivial,fL.bel _,trivial⟩,trivial,trivial⟩ fun _=>k o ho hc hv' (by have:=kk.top;omega)
theorem Qt (sz:SzP O P C) (hR:IsPr vO vP vC O P C)
  (hk:∀k G L vG vL c t,CRes O P C k G L c→FG vG G→FII vL L→Owns σ.top t [vG,vL]→σ.top≤t→K (.tup [.agg [.int .i64 k,vG,vL],.int .i64 c]) (σ.up t)):zA Tryz.prog 12 [.agg [vO,vP,vC]] σ K:=by
 have g0:=hR.O.one;have g1:=hR.P.one;have g2:=hR.C.one;have hkp:Keep σ ((σ.new [vO,vP,vC]).new [.int .i64 0,.fz true .nils 0 [],.fz true .nils 0 []]):=(zB _ _).new _;have hs:PtrG ((σ.new [vO,vP,vC]).new [.int .i64 0,.fz true .nils 0 [],.fz true .nils 0 []]) σ.next vO vP vC:=⟨by simp only [pwA,seval,-iQ0],by show σ.next<σ.next+1+1;omega⟩
 have hset:∀cs:List PV,Keep σ (((σ.new [vO,vP,vC]).new [.int .i64 0,.fz true .nils 0 [],.fz true .nils 0 []]).set (σ.next+1) cs):=fun cs=>hkp.set (Nat.le_succ _) cs
 have nilE:∀{c:Int} {g:PHeap},Keep σ g→CRes O P C 0 [] [] c→Gh σ K (.tup [.agg [.int .i64 0,.fz true .nils 0 [],.fz true .nils 0 []],.int .i64 c]) g:=fun {c g} kk h=>
  Gh.fin0T kk kk.top ⟨⟨trivial,trivial,trivial,trivial⟩,trivial,trivial⟩ fun _=>hk 0 [] [] _ _ c σ.top h zMc ⟨true,.nils,[],rfl,All2.nil _⟩ (((Owns.nil σ.top σ.top).snoc (Own.empty _ _ true .nils 0) (Nat.le_refl _) (Nat.le_refl _)).snoc (Own.empty _ _ true .nils 0) (Nat.le_refl _) (Nat.le_refl _)) (Nat.le_refl _)
 refine zA.gh ?_;refine zC mix Tryz.func12 ?_
 conv=>arg 2;cbv
 refine zF rfl ?_;simp only [pwA,seval,-iQ0,g0,g1,g2];refine qV hR sz fun t ht=>?_
 cases t with
 | false=>
  simp only [pwA,seval,-iQ0,g0,g1,g2];exact nilE hkp (.inl ⟨fun h=>(by cases ht.2 h),⟨rfl,rfl,rfl⟩,rfl⟩)
 | true=>
 have hp:=ht.1 rfl;have s:=hp.shp;have hn6:=s.le;have hb:=Zr s.pr (i:=O.length) (Nat.le_refl _);have h7:=pow7 (i:=O.length) (by omega)
 simp only [pwA,seval,-iQ0];refine zAa s hs hR.O ?_
 by_cases h128:128<ordF O O.length
 ·simp only [pwA,seval,-iQ0,h128]
  exact nilE hkp (.inr (.inl ⟨hp,h128,⟨rfl,rfl,rfl⟩,rfl⟩))
 simp only [pwA,seval,-iQ0,h128,g0,g1,g2];have hN:ordF O O.length≤128:=by omega
 by_cases hc:Cons O P C
 rotate_left
 ·refine zBT hp hc sz hR ?_
  simp only [pwA,seval,-iQ0];exact nilE hkp (.inr (.inr (.inl ⟨hp,hN,hc,⟨rfl,rfl,rfl⟩,rfl⟩)))
 refine zBS hp hc sz hR hN fun vL t1 fL oL ht1=>?_
 have l1:=fL.one;simp only [pwA,seval,-iQ0,l1];have hs2:=hs.keep ((Keep.refl _).up ht1);refine zB9 s hs2 hR fun wO wP wC t2 hq oq ht2=>?_
 have q0:=hq.O.one;have q1:=hq.P.one;have q2:=hq.C.one;have l2:=fL.cells;have z3:ofAVs (zeros [.nils,.nils,.nils] 1)=[.fz true .nils 0 [],.fz true .nils 0 [],.fz true .nils 0 []]:=rfl;simp only [pwA,seval,-iQ0,l1,l2,q0,q1,q2,z3];have kk:Keep σ (((((σ.new [vO,vP,vC]).new [.int .i64 1,.sl (σ.next+2) 0 1 (.known 1),vL]).new [wO,wP,wC]).up t1).up t2):=Keep.up (Keep.up (((zB σ _).new _).new _) ht1) ht2;refine zK3 kk (g:=σ.next+2) (by simp only [pwA,seval,-iQ0]) (by omega) hq fL fun o ho h1 h2 h3=>?_
 have ob:Owns σ.top t2 [vL,wO,wP,wC]:=Owns.append ((Owns.nil σ.top σ.top).snoc oL (Nat.le_refl _) ht1) oq ht1 ht2;refine hk 1 [(O,P,C)] (regul O P C) _ _ 0 _ (.inr (.inr (.inr ⟨hp,hN,hc,⟨rfl,rfl,rfl⟩,rfl⟩))) (zMb hq) fL ?_ h3;refine Owns.swap (Owns.last (pre:=[vL]) (rows:=[wO,wP,wC]) ob ho (Nat.lt_of_lt_of_le (Nat.lt_succ_self o) (Nat.le_max_right _ _)) (Nat.le_max_left _ _) fun hm=>?_)
 rcases List.mem_append.1 (show o∈ead vL++eads [wO,wP,wC] from hm)with hm|hm
 ·exact h2 (zAi hm)
 ·exact h1 (qd hm)
end Go.Proofs
namespace Go.Grp
end Go.Grp
namespace Go.Proofs
open Go.Ab Go.Lie Go.Grp
variable {σ h hE:PHeap} {K:PV→PHeap→Prop} {O x y:List Int} {P:List (List Int)} {C:List (List (List Int))} {vO vP vC vx vL vU:PV} {L u:List (List Int)} {sp:Nat}
theorem zMk {n:Int} (hn:0≤n∧n≤1000000) (hk:K (.int .i64 n) σ):zA Tryz.prog 209 [.int .i64 n] σ K:=by
 have w:IntKind.i64.wrap (0-n)=-n:=by rw [wrap64 (by omega) (by omega)];omega
 have e:max n (-n)=n:=by omega
 refine zC mix Tryz.func209 ?_
 conv=>arg 2;cbv
 refine zF rfl ?_;simp only [pwA,seval,-iQ0,w,e];exact hk
end Go.Proofs
namespace Go.Grp
end Go.Grp
namespace Go.Proofs
open Go.Ab Go.Lie Go.Grp
variable {σ h:PHeap} {K:PV→PHeap→Prop} {O x l a b:List Int} {P:List (List Int)} {C:List (List (List Int))} {vO vP vC vx vw v va vb:PV} {sp t:Nat} {w u:List Int}
def seenB (l:List Int) (n i:Nat):List PV:=(List.range n).map fun(j:Nat)=>.bool (decide ((j:Int)∈l.take i))
theorem Qg {n i:Nat}:(seenB l n i).length=n:=by simp [seenB]
theorem zAU {n i j:Nat} (hj:j<n):(seenB l n i)[j]? = some (.bool (decide ((j:Int)∈l.take i))):=by
 unfold seenB;rw [List.getElem?_map,List.getElem?_range hj];rfl
theorem zHa {n:Nat}:seenB l n 0=List.replicate n (.bool false):=by
 refine List.ext_getElem? fun j=>?_
 rcases Nat.lt_or_ge j n with h|h
 ·rw [zAU h,List.getElem?_replicate,if_pos h];simp
 ·rw [List.getElem?_eq_none (by rw [Qg];exact h),List.getElem?_eq_none (by simp;exact h)]
theorem zHb {n i:Nat} (hi:i<l.length) {m:Nat} (hm:l[i]=(m:Int)):(seenB l n i).set m (.bool true)=seenB l n (i+1):=by
 refine List.ext_getElem? fun j=>?_
 rcases Nat.lt_or_ge j n with h|h
 ·rw [zAU h,List.getElem?_set,Qg,List.take_succ_eq_append_getElem hi]
  by_cases e:m=j
  ·subst e
   rw [if_pos rfl,if_pos h];simp [hm]
  ·rw [if_neg e,zAU h]
   have:(j:Int)≠l[i]:=by omega
   have e2:((j:Int)∈l.take i++[l[i]])=((j:Int)∈l.take i):=by
    rw [List.mem_append,List.mem_singleton];exact propext ⟨fun h=>h.resolve_right this,.inl⟩
   simp only [e2]
 ·rw [List.getElem?_eq_none (by rw [List.length_set,Qg];exact h),List.getElem?_eq_none (by rw [Qg];exact h)]
theorem zLF {s i n:Nat} {cs:List PV} {x:PV} (ho:h.obj s=some cs) (hi:i<n) (hl:cs.length=n) (hs:s<h.next) (hx:x.one=true):
  zZ 1 8 (h.new [x]) (.sl s 0 i (.known n)) (.sl h.next 0 1 (.known 1))=some (.sl s 0 (i+1) (.known n),(h.new [x]).set s (cs.take i++[x]++cs.drop (i+1))):=by
 have o2:(h.new [x]).obj s=some cs:=by rw [zD,if_neg (by omega)];exact ho
 rw [qL];simp only [plen,Option.bind_some];rw [if_neg (by omega),qM,if_neg (by omega),if_pos (Nat.le_refl _),QX,if_pos rfl,if_pos (by simp)]
 simp only [Option.bind_some,List.drop_zero];rw [Qe,if_pos (by omega),zX o2,if_pos ⟨by simp;omega,by simp [hx]⟩]
 simp
theorem zEF (hl:l.length≤1000) (hb:∀x∈l,0≤x∧x<(l.length:Int)) (hn:l.Nodup) (hv:FI va l) (hk:K (.bool true) σ):zA Tryz.prog 163 [va] σ K:=by
 obtain⟨w0,a0,rfl⟩:=hv;refine zA.gh ?_;have hz:List.replicate l.length (PV.bool false)=seenB l l.length 0:=zHa.symm;have wl:IntKind.i64.wrap ((l.length:Int)-1)=(l.length:Int)-1:=wrap64 (by omega) (by omega)
 refine zC mix Tryz.func163 ?_
 conv=>arg 2;cbv
 refine zF rfl ?_;simp only [pwA,seval,-iQ0,Go.Ab.mkL (n:=l.length) (by omega),show(l.length:Int)*((1:Nat):Int)≤140737488355328 by omega]
 refine zG (fun m us h'=>∃i:Nat,i≤l.length∧m=l.length-i∧us=[.fz w0 a0 l.length (pis l),.sl σ.next 0 l.length (.known l.length),.fz w0 a0 l.length (pis l),.int .i64 l.length,.int .i64 i]∧h'=σ.new (seenB l l.length i)) l.length ?_ ?_
 ·refine⟨0,by omega,by omega,rfl,?_⟩
  rw [←hz]
 rintro m us h' ⟨i,hi,rfl,rfl,rfl⟩
 simp only [pwA,seval,-iQ0];refine iteI (fun hlt=>?_) fun hge=>?_
 rotate_left
 ·exact Gh.fin0 (zB σ _) trivial hk
 have b1:=hb _ (List.getElem_mem hlt);obtain⟨m,hm⟩:∃m:Nat,l[i]=(m:Int):=⟨l[i].toNat,by omega⟩
 have hml:m<l.length:=by omega
 have hnot:¬(m:Int)∈l.take i:=fun h=>by
  rw [←hm]at h
  obtain⟨q,hq,e⟩:=List.mem_iff_getElem.1 h;rw [List.length_take]at hq
  rw [List.getElem_take]at e
  have:=(List.getElem_inj (h₀:=by omega) (h₁:=hlt) hn).1 e
  omega
 have gs:(seenB l l.length i)[m]? = some (.bool false):=by rw [zAU hml,decide_eq_false hnot]
 have mI:(m:Int)≤(l.length:Int)-1:=by omega
 have mI2:(m:Int)<(l.length:Int):=by omega
 have m0:(0:Int)≤(m:Int):=by omega
 have wr:(σ.new (seenB l l.length i)).wr σ.next m [.bool true]=some ((σ.new (seenB l l.length i)).set σ.next ((seenB l l.length i).set m (.bool true))):=zFY (by rw [zD,if_pos rfl]) (by rw [Qg];exact hml) rfl
 have hset:(σ.new (seenB l l.length i)).set σ.next ((seenB l l.length i).set m (.bool true))=σ.new (seenB l l.length (i+1)):=by rw [Qi,zHb hlt hm]
 simp only [pwA,seval,-iQ0,hlt,gi hlt,zM,hm,wl];refine Qn ?_;simp only [pwA,seval,-iQ0,mI,m0,gs,hml,mI2,wr,hset,wrapS hlt (by omega:l.length≤4611686018427387904)]
 exact⟨_,by omega,i+1,by omega,rfl,rfl,rfl⟩
theorem zIT (hal:a.length≤1000) (ha:∀x∈a,0≤x∧x<(b.length:Int)) (hva:FI va a) (hvb:FI vb b) (hk:∀v,FI v (a.map fun x=>b.getD x.toNat 0)→K v σ):zA Tryz.prog 211 [va,vb] σ K:=by
 obtain⟨w0,a0,rfl⟩:=hva;obtain⟨w1,a1,rfl⟩:=hvb;refine zA.gh ?_;refine zC mix Tryz.func211 ?_
 conv=>arg 2;cbv
 refine zF rfl ?_;simp only [pwA,seval,-iQ0,mk8 (n:=a.length) (by omega),Go.Ab.mkL (n:=a.length) (by omega),zi]
 generalize hcs:(a.map fun x=>b.getD x.toNat 0)=cs at *
 have hcl:cs.length=a.length:=by rw [←hcs,List.length_map]
 refine zG (fun m us h'=>∃i:Nat,i≤a.length∧m=a.length-i∧us=[.fz w1 a1 b.length (pis b),.sl σ.next 0 i (.known a.length),.fz w0 a0 a.length (pis a),.int .i64 a.length,.int .i64 i]∧Keep σ h'∧h'.obj σ.next=some (pis (cs.take i++List.replicate (a.length-i) 0))∧σ.next<h'.next) a.length ?_ ?_
 ·exact⟨0,by omega,by omega,rfl,zB σ _,by rw [zD,if_pos rfl];simp,Nat.lt_succ_self _⟩
 rintro m us h' ⟨i,hi,rfl,rfl,kk,ho,hn⟩
 simp only [pwA,seval,-iQ0];refine iteI (fun hlt=>?_) fun hge=>?_
 rotate_left
 ·obtain rfl:i=a.length:=by omega
  rw [Nat.sub_self,List.replicate_zero,List.append_nil,←hcl,List.take_length]at ho
  rw [←hcl];exact Gh.finF (s:=σ.next) kk ho (Nat.le_refl _) (zO _ _) (by simp [capOK]) fun o=>hk _ ⟨true,_,rfl⟩
 have b1:=ha _ (List.getElem_mem hlt);obtain⟨m,hm⟩:∃m:Nat,a[i]=(m:Int):=⟨a[i].toNat,by omega⟩
 have hml:m<b.length:=by omega
 have mI:(m:Int)<(b.length:Int):=by omega
 have hci:cs[i]'(by omega)=b[m]:=by
  subst hcs;rw [List.getElem_map,hm,Int.toNat_natCast,List.getD_eq_getElem?_getD,List.getElem?_eq_getElem hml];rfl
 have hap:=zLF (x:=.int .i64 b[m]) ho hlt (by rw [zI,List.length_append,List.length_take,List.length_replicate];omega) hn rfl
 have e:(pis (cs.take i++List.replicate (a.length-i) 0)).take i++[PV.int .i64 b[m]]++(pis (cs.take i++List.replicate (a.length-i) 0)).drop (i+1)=pis (cs.take (i+1)++List.replicate (a.length-(i+1)) 0):=by
  rw [za (by rw [List.length_append,List.length_take,List.length_replicate];omega)]
  congr 1
  rw [List.set_append_right _ _ (by rw [List.length_take];omega),List.length_take,Nat.min_eq_left (by omega),Nat.sub_self,List.take_succ_eq_append_getElem (by omega),hci,List.append_assoc]
  congr 1
  rw [show a.length-i=(a.length-(i+1))+1 by omega,List.replicate_succ]
  rfl
 rw [e]at hap
 simp only [pwA,seval,-iQ0,hlt,gi hlt,gi hml,zM,hm,mI,hml,hap,show ¬σ.next=h'.next by omega,wrapS hlt (by omega:a.length≤4611686018427387904)]
 exact⟨_,by omega,i+1,by omega,rfl,rfl,(kk.set (Nat.le_refl _) _).new _,rfl,by show σ.next<h'.next+1;omega⟩
theorem zIH (hl:l.length≤1000) {c:List Int} (hc:c.length=l.length) (hb:∀x∈l,0≤x∧x<(l.length:Int)) (hci:∀t (ht:t<l.length),c.getD (l[t]).toNat 0=t) (hsur:∀j:Nat,j<l.length→(j:Int)∈l) (hv:FI va l) (hk:∀v,FI v c→K v σ):zA Tryz.prog 210 [va] σ K:=by
 obtain⟨w0,a0,rfl⟩:=hv;refine zA.gh ?_;refine zC mix Tryz.func210 ?_
 conv=>arg 2;cbv
 refine zF rfl ?_;simp only [pwA,seval,-iQ0,mk8 (n:=l.length) (by omega),Go.Ab.mkL (n:=l.length) (by omega),zi]
 refine zG (fun m us h'=>∃(i:Nat) (z:List Int),i≤l.length∧m=l.length-i∧us=[.sl σ.next 0 l.length (.known l.length),.fz w0 a0 l.length (pis l),.int .i64 l.length,.int .i64 i]∧h'=σ.new (pis z)∧z.length=l.length∧∀j:Nat,(j:Int)∈l.take i→j<l.length→z.getD j 0=c.getD j 0) l.length ?_ ?_
 ·exact⟨0,List.replicate l.length 0,by omega,by omega,rfl,rfl,by simp,fun j hj=>by simp at hj⟩
 rintro m us h' ⟨i,z,hi,rfl,rfl,rfl,hzl,hz⟩
 simp only [pwA,seval,-iQ0];refine iteI (fun hlt=>?_) fun hge=>?_
 rotate_left
 ·obtain rfl:i=l.length:=by omega
  have hzc:z=c:=by
   refine List.ext_getElem (by omega) fun j h1 h2=>?_
   have:=hz j (by rw [List.take_length];exact hsur j (by omega)) (by omega)
   rwa [List.getD_eq_getElem?_getD,List.getD_eq_getElem?_getD,List.getElem?_eq_getElem h1,List.getElem?_eq_getElem h2]at this
  subst hzc;rw [←hzl];exact Gh.finF (s:=σ.next) (zB σ _) (by rw [zD,if_pos rfl]) (Nat.le_refl _) (zO _ _) (by simp [capOK]) fun o=>hk _ ⟨true,_,rfl⟩
 have b1:=hb _ (List.getElem_mem hlt);obtain⟨m,hm⟩:∃m:Nat,l[i]=(m:Int):=⟨l[i].toNat,by omega⟩
 have hml:m<l.length:=by omega
 have mI:(m:Int)<(l.length:Int):=by omega
 have wr:(σ.new (pis z)).wr σ.next m [.int .i64 i]=some ((σ.new (pis z)).set σ.next ((pis z).set m (.int .i64 i))):=zFY (by rw [zD,if_pos rfl]) (by rw [zI];omega) rfl
 have hset:(σ.new (pis z)).set σ.next ((pis z).set m (.int .i64 i))=σ.new (pis (z.set m i)):=by
  rw [Qi];simp [pis]
 simp only [pwA,seval,-iQ0,hlt,gi hlt,zM,hm,mI,hml,wr,hset,wrapS hlt (by omega:l.length≤4611686018427387904)]
 refine⟨_,by omega,i+1,z.set m i,by omega,rfl,rfl,rfl,by rw [List.length_set];exact hzl,fun j hj hjl=>?_⟩
 rw [List.take_succ_eq_append_getElem hlt,List.mem_append,List.mem_singleton]at hj
 rw [List.getD_eq_getElem?_getD,List.getElem?_set]
 by_cases e:m=j
 ·subst e
  rw [if_pos rfl,if_pos (by omega)]
  have:=hci i hlt
  rw [hm,Int.toNat_natCast]at this
  rw [this];rfl
 ·rw [if_neg e,←List.getD_eq_getElem?_getD]
  exact hz j (hj.resolve_right fun h=>e (by omega)) hjl
end Go.Proofs
namespace Go.Grp
end Go.Grp
namespace Go.Proofs
open Go.Ab Go.Lie Go.Grp
variable {σ h:PHeap} {K:PV→PHeap→Prop} {O x a b:List Int} {P:List (List Int)} {C:List (List (List Int))} {vO vP vC vx vw v va vb vL:PV} {sp t:Nat} {w u:List Int} {l:Int}
noncomputable def bl (O:List Int) (P:List (List Int)) (C:List (List (List Int))) (l:Int):List Int:=(List.range (nEl O)).map fun t=>numF O (ac O P C (dgs O O.length t) l) O.length
noncomputable def cw (O:List Int) (P:List (List Int)) (C:List (List (List Int))) (w:List Int):List Int:=(List.range (nEl O)).map fun t=>numF O (acW O P C (dgs O O.length t) w) O.length
theorem qz:(bl O P C l).length=nEl O:=by simp [bl]
theorem zJt:(cw O P C w).length=nEl O:=by simp [cw]
theorem zHL (ht:t<nEl O):(bl O P C l).getD t 0=numF O (ac O P C (dgs O O.length t) l) O.length:=by
 rw [List.getD_eq_getElem?_getD,List.getElem?_eq_getElem (by rw [qz];exact ht)]
 simp [bl]
theorem zJw (ht:t<(bl O P C l).length):(bl O P C l)[t]=numF O (ac O P C (dgs O O.length t) l) O.length:=by simp [bl]
section
variable (s:Shp O P C) (F:Full O P C O.length)
include s F
theorem bl_bd (hl:l≠0∧-(O.length:Int)≤l∧l≤(O.length:Int)):∀x∈bl O P C l,0≤x∧x<(nEl O:Int):=fun x hx=>by
 obtain⟨t,_,rfl⟩:=List.mem_map.1 hx
 have:=zAJ s (ac_in s F hl (qX s t))
 omega
theorem cw_bd (hw:Lts O.length w):∀x∈cw O P C w,0≤x∧x<(nEl O:Int):=fun x hx=>by
 obtain⟨t,_,rfl⟩:=List.mem_map.1 hx
 have:=zAJ s (zGB s F hw (qX s t))
 omega
theorem zJs:cw O P C []=(List.range (nEl O)).map fun(t:Nat)=>(t:Int):=by
 unfold cw;refine List.map_congr_left fun t ht=>?_
 exact zAK s (List.mem_range.1 ht)
theorem zL4 (hw:Lts O.length w):(cw O P C w).map (fun x=>(bl O P C l).getD x.toNat 0)=cw O P C (w++[l]):=by
 unfold cw;rw [List.map_map];refine List.map_congr_left fun t ht=>?_
 have hy:=zGB s F hw (qX s t);have hn:=zAJ s hy
 show(bl O P C l).getD _ 0=_
 rw [zHL hn.1,zDt s hy,zEM]
 rfl
theorem zLD (hl:1≤l∧l≤(O.length:Int)):(bl O P C l).Nodup:=by
 unfold bl;rw [List.Nodup,List.pairwise_map];refine(List.nodup_range (n:=nEl O)).imp_of_mem fun {a b} ha hb hne he=>hne ?_
 have ha':=qX s a;have hb':=qX s b;have h1:=zAL s (ac_in s F (by omega) ha') (ac_in s F (by omega) hb') he
 obtain⟨j,rfl⟩:∃j:Nat,l=(j:Int)+1:=⟨l.toNat-1,by omega⟩
 rw [QQ,QQ]at h1
 exact zJn s (List.mem_range.1 ha) (List.mem_range.1 hb) (F.g.cancelR (s.unit (by omega) (by omega)) ha' hb' h1)
theorem zL9 {j:Nat} (hj:j<O.length):(∀t (ht:t<(bl O P C ((j:Int)+1)).length),(bl O P C (-((j:Int)+1))).getD ((bl O P C ((j:Int)+1))[t]).toNat 0=t)∧∀q:Nat,q<(bl O P C ((j:Int)+1)).length→(q:Int)∈bl O P C ((j:Int)+1):=by
 have hu:gS O (Grp.unit O j):=s.unit hj (Nat.zero_le _);have hi:=(F.g.inv_in hu).1;refine⟨fun t ht=>?_,fun q hq=>?_⟩
 ·rw [zJw ht]
  rw [qz]at ht
  have hy:=ac_in s F (l:=(j:Int)+1) (by omega) (qX s t)
  rw [zHL (zAJ s hy).1,zDt s hy,zJ0,QQ,F.g.as (qX s t) hu hi,F.g.inv_r hu,F.g.r1 (qX s t),zAK s ht]
 ·rw [qz]at hq
  have hy:gS O (gm O P C (dgs O O.length q) (ginv (gS O) (gm O P C) (zv O) (Grp.unit O j))):=F.g.cl (qX s q) hi;have hn:=zAJ s hy;refine List.mem_map.2 ⟨_,List.mem_range.2 hn.1,?_⟩;rw [zDt s hy,QQ,F.g.as (qX s q) hi hu,F.g.inv_l hu,F.g.r1 (qX s q),zAK s hq]
end
theorem zAW {j:Nat}:zAB O P C j=bl O P C ((j:Int)+1):=by
 unfold zAB bl;refine List.map_congr_left fun t _=>?_
 rw [QQ];rfl
theorem zMA {n:Int} (hn:0≤n∧n≤1000000) (hk:K (.int .i64 n) σ):zA Tryz.prog 209 [.int .i64 (-n)] σ K:=by
 have w:IntKind.i64.wrap (0 - -n)=n:=by rw [wrap64 (by omega) (by omega)];omega
 have e:max (-n) n=n:=by omega
 refine zC mix Tryz.func209 ?_
 conv=>arg 2;cbv
 refine zF rfl ?_;simp only [pwA,seval,-iQ0,w,e];exact hk
set_option maxHeartbeats 1600000 in
theorem zEJ (s:Shp O P C) (F:Full O P C O.length) (hN:nEl O≤128) (hw:Lts O.length w) (hwl:w.length≤1000) (hvw:FI vw w) (hvL:FII vL (regul O P C)) (hk:∀v,FI v (cw O P C w)→K v σ):zA Tryz.prog 165 [vw,vL,.int .i64 (nEl O)] σ K:=by
 obtain⟨w0,a0,rfl⟩:=hvw;have hvL0:=hvL;obtain⟨wL,aL,rL,rfl,hrL⟩:=hvL;have hrl:(regul O P C).length=O.length:=by simp [regul]
 have h6:=s.le;refine zA.gh ?_;refine zC mix Tryz.func165 ?_
 conv=>arg 2;cbv
 refine zF rfl ?_;simp only [pwA,seval,-iQ0,mk8 (n:=nEl O) (by omega),Go.Ab.mkL (n:=nEl O) (by omega),zi]
 refine zG (fun m us h'=>∃i:Nat,i≤nEl O∧m=nEl O-i∧us=[.fz w0 a0 w.length (pis w),.fz wL aL (regul O P C).length rL,.sl σ.next 0 (nEl O) (.known (nEl O)),.int .i64 (nEl O),.int .i64 i]∧h'=σ.new (pis ((List.range i).map (fun(t:Nat)=>(t:Int))++List.replicate (nEl O-i) 0))) (nEl O) ?_ ?_
 ·exact⟨0,by omega,by omega,rfl,by simp⟩
 rintro m us h' ⟨i,hi,rfl,rfl,rfl⟩
 simp only [pwA,seval,-iQ0];refine iteI (fun hlt=>?_) fun hge=>?_
 ·have hl1:i+1≤((List.range i).map (fun(t:Nat)=>(t:Int))++List.replicate (nEl O-i) 0).length:=by simp;omega
  have e:(pis ((List.range i).map (fun(t:Nat)=>(t:Int))++List.replicate (nEl O-i) 0)).take i++[PV.int .i64 i]++(pis ((List.range i).map (fun(t:Nat)=>(t:Int))++List.replicate (nEl O-i) 0)).drop (i+1)=pis ((List.range (i+1)).map (fun(t:Nat)=>(t:Int))++List.replicate (nEl O-(i+1)) 0):=by
   rw [za (by simp;omega)]
   congr 1
   rw [List.set_append_right _ _ (by simp),List.length_map,List.length_range,Nat.sub_self,List.range_succ,List.map_append,List.append_assoc]
   congr 1
   rw [show nEl O-i=(nEl O-(i+1))+1 by omega,List.replicate_succ]
   rfl
  have iI:(i:Int)<(nEl O:Int):=by omega
  simp only [pwA,seval,-iQ0,hlt,iI,hl1,e,zI,wrapS hlt (by omega:nEl O≤4611686018427387904)]
  exact⟨_,by omega,i+1,by omega,rfl,rfl,rfl⟩
 obtain rfl:i=nEl O:=by omega
 rw [Nat.sub_self,List.replicate_zero,List.append_nil,←zJs s F];have hcl:=zJt (O:=O) (P:=P) (C:=C) (w:=[]);refine QS (fun m us h'=>∃(i:Nat) (vv:PV),i≤w.length∧m=w.length-i∧us=[.fz wL aL (regul O P C).length rL,vv,.fz w0 a0 w.length (pis w),.int .i64 w.length,.int .i64 i]∧Keep σ h'∧FI vv (cw O P C (w.take i))) w.length ?_ ?_
 ·refine .fz σ.next (pis (cw O P C [])) (by rw [zD,if_pos rfl]) (zO _ _) fun o=>.here ⟨0,.fz true (.sl o 0 (nEl O) (.known (nEl O))) (nEl O) (pis (cw O P C [])),by omega,by omega,?_,(zB σ _).kill (Nat.le_refl _),⟨true,_,by rw [List.take_zero,hcl]⟩⟩
  have capN:capOK (.known (nEl O)) (nEl O)=true:=by simp [capOK]
  show sbs σ.next o (pis (cw O P C [])) [PV.fz wL aL (regul O P C).length rL,PV.sl σ.next 0 (nEl O) (.known (nEl O)),PV.fz w0 a0 w.length (pis w),PV.int .i64 w.length,PV.int .i64 0]=_;simp only [sbs,sb,capN,and_self,if_true]
  rfl
 clear hge hi
 rintro m us h' ⟨i,vv,hi,rfl,rfl,hkp,hvv⟩
 simp only [pwA,seval,-iQ0];refine iteI (fun hlt=>?_) fun hge=>?_
 rotate_left
 ·obtain rfl:i=w.length:=by omega
  rw [List.take_length]at hvv
  exact Gh.fin0 hkp (hvv.bel _) (hk _ hvv)
 have hl:=hw _ (List.getElem_mem hlt);have hwt:Lts O.length (w.take i):=fun q hq=>hw q (List.mem_of_mem_take hq)
 have hws:w.take (i+1)=w.take i++[w[i]]:=List.take_succ_eq_append_getElem hlt;have nxt:∀{vb:PV},FI vb (bl O P C w[i])→∀{K':PV→PHeap→Prop},(∀v,FI v (cw O P C (w.take (i+1)))→K' v h')→zA Tryz.prog 211 [vv,vb] h' K':=fun {vb} hvb {K'} hk'=>
  zIT (by rw [zJt];omega) (fun x hx=>by have:=cw_bd s F hwt x hx;rw [qz];exact this) hvv hvb fun v hv=>hk' v (by rw [hws,←zL4 s F hwt];exact hv)
 simp only [pwA,seval,-iQ0,hlt,gi hlt,zM];rcases Int.lt_or_le w[i] 0 with hneg|hpos
 ·obtain⟨j,hj⟩:∃j:Nat,w[i]=-((j:Int)+1):=⟨(-w[i]).toNat-1,by omega⟩
  have hjO:j<O.length:=by omega
  have hjr:j<(regul O P C).length:=by rw [hrl];exact hjO
  obtain⟨w5,a5,hr5⟩:=hrL.rowI hjr;have hrow:(regul O P C)[j]=bl O P C ((j:Int)+1):=by rw [←zAW];simp [regul]
  have wj:IntKind.i64.wrap ((j:Int)+1-1)=(j:Int):=by rw [wrap64 (by omega) (by omega)];omega
  have jI:(j:Int)<((regul O P C).length:Int):=by omega
  have nI:-((j:Int)+1)<0:=by omega
  rw [hj];refine zMA (by omega) ?_
  simp only [pwA,seval,-iQ0,wj,hjr,jI,hr5,nI];obtain⟨q1,q2⟩:=zL9 s F hjO;refine zIH (l:=(regul O P C)[j]) (c:=bl O P C (-((j:Int)+1))) (by rw [hrow,qz];omega) (by rw [hrow,qz,qz]) (fun x hx=>by rw [hrow]at hx ⊢;rw [qz];exact bl_bd s F (by omega) x hx) (fun t ht=>by simp only [hrow]at ht ⊢;exact q1 t ht) (fun q hq=>by rw [hrow]at hq ⊢;exact q2 q hq) ⟨w5,a5,rfl⟩ fun vb hvb=>?_
  simp only [pwA,seval,-iQ0];refine nxt (by rw [hj];exact hvb) fun v hv=>?_
  simp only [pwA,seval,-iQ0,wrapS hlt (by omega:w.length≤4611686018427387904)]
  exact⟨_,by omega,.here ⟨i+1,v,by omega,rfl,rfl,hkp,hv⟩⟩
 ·obtain⟨j,hj⟩:∃j:Nat,w[i]=(j:Int)+1:=⟨w[i].toNat-1,by omega⟩
  have hjO:j<O.length:=by omega
  have hjr:j<(regul O P C).length:=by rw [hrl];exact hjO
  obtain⟨w5,a5,hr5⟩:=hrL.rowI hjr;have hrow:(regul O P C)[j]=bl O P C ((j:Int)+1):=by rw [←zAW];simp [regul]
  have wj:IntKind.i64.wrap ((j:Int)+1-1)=(j:Int):=by rw [wrap64 (by omega) (by omega)];omega
  have jI:(j:Int)<((regul O P C).length:Int):=by omega
  have nI:¬(j:Int)+1<0:=by omega
  rw [hj];refine zMk (n:=(j:Int)+1) (by omega) ?_
  simp only [pwA,seval,-iQ0,wj,hjr,jI,hr5,nI];refine nxt (by rw [hj,←hrow];exact⟨w5,a5,rfl⟩) fun v hv=>?_
  simp only [pwA,seval,-iQ0,wrapS hlt (by omega:w.length≤4611686018427387904)]
  exact⟨_,by omega,.here ⟨i+1,v,by omega,rfl,rfl,hkp,hv⟩⟩
end Go.Proofs
