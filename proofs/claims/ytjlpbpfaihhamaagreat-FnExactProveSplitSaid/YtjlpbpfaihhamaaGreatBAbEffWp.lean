/- An operation with an effect, as a step of the walk. -/
import Derived.Test.YtjlpbpfaihhamaaGreatBAbEMap
set_option linter.unusedSimpArgs false
set_option linter.unusedVariables false
namespace Go.Ab
open Go.RowKit
variable {P:Program} {B:Nat} {w0 w:World} {j:Inj} {h:AHeap} {nt:Nat} {e:Env} {a:Act}
theorem Ends.wp {o:Oper} {K:AV→AHeap→Prop} {next:Act→World→Prop} {Q:Exit→Act→World→Prop} (he:Ends P (execOp a.eval o) w B w0 j h K)
  (hn:∀v h' j' cv w',FR j h j' h'→MR B w0 j' h' w'→VI j' v cv→K v h'→next (a.put o.dst cv) w'):o.wp P a w next Q:=by
 obtain⟨v,h',j',cv,w',hr,hf,hm,hv,hk⟩:=he;unfold Oper.wp;rcases hr with hr|⟨hr,rfl⟩
 ·rw [hr];exact hn v h' j' cv w' hf hm hv hk
 ·rw [hr];exact hn v h' j' undef w' hf hm hv hk
theorem zBU {f:FuncId} (hf:okF P f=true) (args:Array Value):(callFunc f args).run P w=.ok (.enter f args) w:=by
 unfold okF at hf
 split at hf
 ·rename_i fn hfn
  simp only [Bool.and_eq_true,Bool.not_eq_true']at hf
  have h2:fn.body.isNone=false:=by rw [Option.isNone_eq_false_iff];exact hf.1
  simp only [callFunc,Sem.run_bind,run_program,Result.andThen_ok,hfn,hf.2,h2,Bool.false_eq_true,if_false,Sem.run_pure]
 ·cases hf
theorem zKL (m:MR B w0 j h w) {o:Oper} {f:FuncId} {args:List AV} {cargs:Array Value} (hrun:(execOp a.eval o).run P w=.ok (.enter f cargs) w) (hargs:VIs j args cargs.toList)
  {K:AV→AHeap→Prop} (hk:qj P f args h K) {next:Act→World→Prop} {Q:Exit→Act→World→Prop}
  (hn:∀v h' j' cv w',FR j h j' h'→MR B w0 j' h' w'→VI j' v cv→K v h'→next (a.put o.dst cv) w'):o.wp P a w next Q:=by
 unfold Oper.wp;rw [hrun];have hc:=hk B w0 j w cargs.toList m hargs;rw [Array.toArray_toList]at hc
 refine hc.mono ?_
 rintro en w' ⟨v,h',j',cv,rfl,hf,hm,hv,hk⟩
 exact hn v h' j' cv w' hf hm hv hk
theorem zLU (m:MR B w0 j h w) (r:ER nt j e a) {o:Oper} {io:IOp} (hc:copE P o.op=some io) {K:AV→AHeap→Prop} (he:eff P io e h K) {next:Act→World→Prop} {Q:Exit→Act→World→Prop}
  (hn:∀v h' j' cv w',FR j h j' h'→MR B w0 j' h' w'→VI j' v cv→K v h'→next (a.put o.dst cv) w'):o.wp P a w next Q:=by
 obtain⟨dst,op,ty,pos,after,guard⟩:=o;cases op<;>simp only [copE]at hc<;>(try (cases hc;done))
 case alloc t=>
  simp only [Option.bind_eq_some_iff,Option.map_eq_some_iff]at hc
  obtain⟨z,⟨i,hi,hz⟩,zs,hzs,rfl⟩:=hc;exact Ends.wp (o:=⟨dst,.alloc t,ty,pos,after,guard⟩) (zLY m hi hz hzs he) hn
 case box t x=>
  simp only [Option.map_eq_some_iff]at hc
  obtain⟨ix,hx,rfl⟩:=hc;exact Ends.wp (o:=⟨dst,.box t x,ty,pos,after,guard⟩) (zPC m (zI r hx) he.1 he.2) hn
 case buildSlice t len ps=>
  split at hc
  ·rename_i et ht
   simp only [Option.bind_eq_some_iff]at hc
   obtain⟨i,hi,z,hz,zs,hzs,qs,hqs,hc⟩:=hc
   split at hc
   ·rename_i hb
    cases hc;obtain⟨cs,hf,hk⟩:=he;exact Ends.wp (o:=⟨dst,.buildSlice t len ps,ty,pos,after,guard⟩) (zIk m r ht hi hz hzs hqs hb.1 hb.2.1 hb.2.2 hf hk) hn
   ·cases hc
  ·cases hc
 case store t x v=>
  simp only [Option.bind_eq_some_iff]at hc
  obtain⟨i,hi,ix,hx,iv,hv,hc⟩:=hc;cases hc;simp only [eff]at he
  split at he
  ·rename_i o k hp
   have hp':=zI r hx;rw [hp]at hp'
   obtain⟨hl,h',hw,hk⟩:=he;exact Ends.wp (o:=⟨dst,.store t x v,ty,pos,after,guard⟩) (zKS m hi hp' (zI r hv) hl hw hk) hn
  ·exact he.elim
 case makeSlice t l c=>
  split at hc
  ·rename_i et ht
   simp only [Option.bind_eq_some_iff]at hc
   obtain⟨i,hi,z,hz,zs,hzs,il,hil,ic,hic,hc⟩:=hc
   split at hc
   ·rename_i hb
    cases hc;simp only [eff]at he
    split at he
    ·rename_i kl l' kc c' h1 h2
     have q1:=zI r hil;have q2:=zI r hic;rw [h1]at q1
     rw [h2]at q2
     obtain⟨⟨b1,b2,b3,b4⟩,hk⟩:=he
     have:=zJY (P:=P) (t:=t) m ht hi hz hzs hb.1 hb.2 (kl:=kl) (kc:=kc) b1 b2 b3 b4 hk
     rw [←show a.eval l=Value.int kl l' from q1,←show a.eval c=Value.int kc c' from q2]at this
     exact Ends.wp (o:=⟨dst,.makeSlice t l c,ty,pos,after,guard⟩) this hn
    ·exact he.elim
   ·cases hc
  ·cases hc
 case call c=>
  obtain⟨callee,args,argTypes⟩:=c;simp only [zDz]at hc
  split at hc<;>(try (cases hc;done))
  ·split at hc<;>(try (cases hc;done))
   ·rename_i s x t t' hargs hts
    split at hc<;>(try (cases hc;done))
    rename_i et ht
    split at hc
    rotate_left
    ·split at hc<;>(try (cases hc;done))
     rename_i kn ht'
     have e1:args = #[s,x]:=by rw [←Array.toArray_toList (xs:=args),hargs]
     have e2:argTypes = #[t,t']:=by rw [←Array.toArray_toList (xs:=argTypes),hts]
     clear hargs hts;subst e1;subst e2;simp only [Option.bind_eq_some_iff]at hc
     obtain⟨i,hi,z,hz,zs,hzs,is,his,ix,hix,hc⟩:=hc
     split at hc
     ·rename_i hb
      cases hc;simp only [eff]at he
      split at he
      ·rename_i k n h1 h2
       have q1:=zI r his;have q2:=zI r hix;rw [h1]at q1
       rw [h2]at q2
       obtain⟨⟨b1,b2,b3⟩,hk⟩:=he;obtain⟨v,h',hv,hk⟩:∃v h',(if 0<n then agrow i.size i.bytes h .nils (zeros zs n.toNat) n.toNat else(asame .nils).map fun v=>(v,h))=some (v,h')∧K v h':=by
        by_cases b0:0<n
        ·rw [if_pos b0]at hk ⊢
         have bb:n.toNat*i.bytes≤140737488355328:=by
          have e:((n.toNat*i.bytes:Nat):Int)=n*i.bytes:=by rw [Int.natCast_mul,Int.toNat_of_nonneg b1]
          omega
         exact⟨_,_,by simp only [agrow];rw [if_pos ⟨bb,by omega⟩],hk⟩
        ·rw [if_neg b0]at hk ⊢
         exact⟨_,_,rfl,hk⟩
       obtain⟨j',cv,w',hr,hf,hm,hvi⟩:=zCv (P:=P) (ty:=ty) m ht ht' hi hz hzs hb.1 hb.2 (k:=k) b1 b2 b3 q1 hv;rw [←show a.eval x=Value.int k n from q2]at hr
       refine Ends.wp ⟨_,_,j',cv,w',.inl ?_,hf,hm,hvi,hk⟩ hn;simp [execOp,resolve,invoke,builtin,hr]
      ·rename_i o off len c k n h1 h2
       have q1:=zI r his;have q2:=zI r hix;rw [h1]at q1
       rw [h2]at q2
       obtain⟨⟨b1,b2,b3⟩,p,hv,hk⟩:=he;obtain⟨j',cv,w',hr,hf,hm,hvi⟩:=zCv (P:=P) (ty:=ty) m ht ht' hi hz hzs hb.1 hb.2 (k:=k) b1 b2 b3 q1 hv;rw [←show a.eval x=Value.int k n from q2]at hr
       refine Ends.wp ⟨_,_,j',cv,w',.inl ?_,hf,hm,hvi,hk⟩ hn;simp [execOp,resolve,invoke,builtin,hr]
      ·exact he.elim
     ·cases hc
    rename_i htt
    subst htt;have e1:args = #[s,x]:=by rw [←Array.toArray_toList (xs:=args),hargs]
    have e2:argTypes = #[t,t]:=by rw [←Array.toArray_toList (xs:=argTypes),hts]
    clear hargs hts;subst e1;subst e2;simp only [Option.bind_eq_some_iff]at hc
    obtain⟨i,hi,z,hz,is,his,ix,hix,hc⟩:=hc
    split at hc
    ·rename_i hb
     cases hc;obtain⟨⟨v,h'⟩,hv,hk⟩:=he;obtain⟨j',cv,w',hr,hf,hm,hvi⟩:=zIq (P:=P) (ty:=ty) m ht hi hz hb.1 hb.2 (zI r his) (zI r hix) hv;refine Ends.wp ⟨v,h',j',cv,w',.inl ?_,hf,hm,hvi,hk⟩ hn;simp [execOp,resolve,invoke,builtin,hr]
    ·cases hc
   ·rename_i d s t t' hargs hts
    split at hc<;>(try (cases hc;done))
    rename_i et ht
    have e1:args = #[d,s]:=by rw [←Array.toArray_toList (xs:=args),hargs]
    have e2:argTypes = #[t,t']:=by rw [←Array.toArray_toList (xs:=argTypes),hts]
    clear hargs hts;subst e1;subst e2;simp only [Option.bind_eq_some_iff]at hc
    obtain⟨i,hi,id,hid,is,his,hc⟩:=hc;cases hc;obtain⟨⟨v,h'⟩,hv,hk⟩:=he;obtain⟨cv,w',hr,hf,hm,hvi⟩:=zLR (P:=P) (ty:=ty) (t':=t') m ht hi (zI r hid) (zI r his) hv;refine Ends.wp ⟨v,h',j,cv,w',.inl ?_,hf,hm,hvi,hk⟩ hn;simp [execOp,resolve,invoke,builtin,hr]
  ·rename_i f
   split at hc
   ·rename_i hok
    simp only [Option.map_eq_some_iff]at hc
    obtain⟨ixs,hxs,rfl⟩:=hc;have he':qj P f (ixs.map (·.ev e)) h K:=he
    refine zKL (o:=⟨dst,.call ⟨.value (.func f),args,argTypes⟩,ty,pos,after,guard⟩) m (cargs:=args.map a.eval) (args:=ixs.map (·.ev e)) ?_ (by simpa using zAn r hxs) he' hn
    simp [execOp,resolve,Act.eval,Deferred.ofValue,invoke,zBU hok]
   ·cases hc
  ·rename_i t
   simp only [Option.map_eq_some_iff]at hc
   obtain⟨ixs,hxs,rfl⟩:=hc;simp only [eff]at he
   split at he
   ·rename_i f first caps hfv
    have hv:=r.vals t;rw [show e t=_ from hfv]at hv
    obtain⟨vs,us,h1,h2,h3⟩:=hv;refine zKL (o:=⟨dst,.call ⟨.value (.tmp t),args,argTypes⟩,ty,pos,after,guard⟩) m (cargs:=vs.toArray++args.map a.eval++us.toArray) ?_ (by simpa using (h1.append (zAn r hxs)).append h2) he.2 hn
    have hev:a.eval (.tmp t)=.func (.func f) vs.toArray us.toArray:=h3;simp [execOp,resolve,hev,Deferred.ofValue,invoke,zBU he.1]
   ·exact he.elim
 case convert src dt x=>
  split at hc<;>(try (cases hc;done))
  rename_i et h1 h2
  split at hc<;>(try (cases hc;done))
  rename_i h3
  simp only [Option.map_eq_some_iff]at hc
  obtain⟨ix,hx,rfl⟩:=hc;obtain⟨s,hv,hk⟩:=he;exact Ends.wp (o:=⟨dst,.convert src _ x,ty,pos,after,guard⟩) (zKR m h1 h3 h2 (zI r hx) hv hk) hn
 case makeMap t hnt=>
  split at hc<;>(try (cases hc;done))
  rename_i hr
  cases hc;cases hnt with
  | some _=>cases hr
  | none=>
  exact Ends.wp (o:=⟨dst,.makeMap _ none,ty,pos,after,guard⟩) (zID m he) hn
 case lookup t x k ok=>
  split at hc<;>(try (cases hc;done))
  rename_i hb
  subst hb;simp only [Option.bind_eq_some_iff]at hc
  obtain⟨q,hq,ix,hx,ik,hik,hc⟩:=hc;cases hc;simp only [eff]at he
  split at he
  ·rename_i o e1
   have q1:=zI r hx;have q2:=zI r hik;rw [e1]at q1
   obtain⟨rr,hv,hk⟩:=he;exact Ends.wp (o:=⟨dst,.lookup _ _ _ false,ty,pos,after,guard⟩) (zJZ (P:=P) m hq q1 q2 hv hk) hn
  ·exact he.elim
 case mapUpdate t x k v=>
  simp only [Option.bind_eq_some_iff]at hc
  obtain⟨q,hq,ix,hx,ik,hik,iv,hiv,hc⟩:=hc;cases hc;simp only [eff]at he
  split at he
  ·rename_i o e1
   have q1:=zI r hx;have q2:=zI r hik;have q3:=zI r hiv;rw [e1]at q1
   obtain⟨cs,hw,hk⟩:=he;exact Ends.wp (o:=⟨dst,.mapUpdate _ _ _ _,ty,pos,after,guard⟩) (zEQ (P:=P) m hq q1 q2 q3 hw hk) hn
  ·exact he.elim
 case insert t x k v=>
  simp only [Option.bind_eq_some_iff]at hc
  obtain⟨q,hq,ix,hx,ik,hik,iv,hiv,hc⟩:=hc;cases hc;simp only [eff]at he
  split at he
  ·rename_i o e1
   have q1:=zI r hx;have q2:=zI r hik;have q3:=zI r hiv;rw [e1]at q1
   obtain⟨cs,hw,hk⟩:=he;exact Ends.wp (o:=⟨dst,.insert _ _ _ _,ty,pos,after,guard⟩) (zEQ (P:=P) m hq q1 q2 q3 hw hk) hn
  ·exact he.elim
end Go.Ab
