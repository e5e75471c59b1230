/- STRINGS MADE OF BYTES, against the abstract value. -/
import Derived.Test.YtcbdjookdepkbaaGreatAAbEff
import Derived.Laws.BytesString
set_option linter.unusedSimpArgs false
set_option linter.unusedVariables false
namespace Go.Ab
open Go.RowKit
variable {P:Program} {B:Nat} {w0 w:World} {j:Inj} {h:AHeap}
theorem zEt:∀{vs:List AV} {cs:List Value} {s:List UInt8},VIs j vs cs→zAP vs=some s→∃ns:List Int,cs=ns.map (Value.int .u8)∧s=ns.map fun n=>UInt8.ofNat n.toNat
 | [],cs,s,hv,hs=>by
  cases hs;rw [show cs=[] from hv]
  exact⟨[],rfl,rfl⟩
 | v::vs,cs,s,hv,hs=>by
  obtain⟨c,r,rfl,h1,h2⟩:=hv;unfold zAP at hs
  split at hs
  ·rename_i heq
   cases heq
  ·rename_i n r' heq
   cases heq;obtain⟨t,ht,rfl⟩:=Option.map_eq_some_iff.1 hs;obtain⟨ns,rfl,rfl⟩:=zEt h2 ht;exact⟨n::ns,by rw [show c=.int .u8 n from h1];rfl,rfl⟩
  ·cases hs
theorem zDi:∀(ns:List Int) (s:ByteArray),ns.foldl (fun r n=>r.push (UInt8.ofNat n.toNat)) s=⟨(s.data.toList++ns.map fun n=>UInt8.ofNat n.toNat).toArray⟩
 | [],s=>by simp
 | n::ns,s=>by
  rw [List.foldl_cons,zDi ns];simp [ByteArray.push]
theorem zHx (m:MR B w0 j h w) {src dst et:TypeId} (hs:P.underlying src=some (.slice et)) (he:P.underlying et=some (.int .u8)) (hd:P.underlying dst=some .string) {x:AV} {c:Value} (hx:VI j x c) {s:List UInt8}
  (hv:((alen x).bind fun n=>(QW 1 h x n).bind zAP)=some s) {K:AV→AHeap→Prop} (hk:K (.str s) h):Ends P (do pure (.value (←convert src dst c))) w B w0 j h K:=by
 simp only [Option.bind_eq_some_iff]at hv
 obtain⟨n,hn,cs,hf,hb⟩:=hv;obtain⟨o,cp,rfl,_⟩:=Q5 hx hn;refine⟨.str s,h,j,.string ⟨s.toArray⟩,w,.inl ?_,FR.refl _ _,m,rfl,hk⟩;have key:(Conv.bytesToString (.slice o n cp)).run P w=.ok (.string ⟨s.toArray⟩) w:=by
  by_cases h0:n=0
  ·subst h0
   have:s=[]:=by
    unfold QW at hf
    rw [if_pos rfl]at hf
    cases hf;cases hb;rfl
   subst this;cases o with
   | none=>rfl
   | some a=>
    have h1:(loadCells a 0).run P w=.ok (([]:List Int).map (Value.int .u8)).toArray w:=by simp [loadCells,loadCellsFrom]
    rw [run_bytesToString (P:=P) w a 0 cp [] h1]
    rfl
  ·obtain⟨ad,len',cp',nc,hcx,hle,hvs,hnl,hone,hcells⟩:=zAO m hx h0 hf
   cases hcx;obtain⟨ns,rfl,rfl⟩:=zEt hvs hb;have h1:(loadCells ad n).run P w=.ok (ns.map (Value.int .u8)).toArray w:=by
    have:=run_loadCells_list (P:=P) w ad (ns.map (Value.int .u8)) hcells
    rw [hnl,Nat.mul_one]at this
    exact this
   rw [run_bytesToString (P:=P) w ad n cp ns h1,zDi]
   simp
 rw [Sem.run_bind,run_convert_bytes_string (P:=P) w src dst et o n cp hs he hd,key]
 rfl
end Go.Ab
