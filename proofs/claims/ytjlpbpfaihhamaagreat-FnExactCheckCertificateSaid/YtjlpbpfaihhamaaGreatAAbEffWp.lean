/- . -/
import Derived.Test.YtjlpbpfaihhamaaGreatAAbEMap
set_option linter.unusedSimpArgs false
set_option linter.unusedVariables false
namespace Go.Ab
open Go.RowKit
variable{P:Program}{B:Nat}{w0 w:World}{j:Inj}{h:AHeap}{nt:Nat}{e:Env}{a:Act}
theorem Ends.wp{o:Oper}{K:AV->AHeap->Prop}{next:Act->World->Prop}{Q:Exit->Act->World->Prop}(he:Ends P (execOp a.eval o) w B w0 j h K)
  (hn:∀v h' j' cv w',FR j h j' h'->MR B w0 j' h' w'->VI j' v cv->K v h'->next (a.put o.dst cv) w'):o.wp P a w next Q:=by
 obtain⟨v,h',j',cv,w',hr,hf,hm,hv,hk⟩:=he;unfold Oper.wp;rcases hr with hr|⟨hr,rfl⟩
 ·rw[hr];exact hn v h' j' cv w' hf hm hv hk
 ·rw[hr];exact hn v h' j' undef w' hf hm hv hk
theorem zCY{f:FuncId}(hf:okF P f=true)(args:Array Value):(callFunc f args).run P w=.ok (.enter f args) w:=by
 unfold okF at hf
 split at hf
 ·rename_i fn tp
  simp only[Bool.and_eq_true,Bool.not_eq_true']at hf
  have h2:fn.body.isNone=false:=by rw[Option.isNone_eq_false_iff];exact hf.1
  simp only[callFunc,Sem.run_bind,run_program,Result.andThen_ok,tp,hf.2,h2,Bool.false_eq_true,if_false,Sem.run_pure]
 ·cases hf
theorem zIE(m:MR B w0 j h w){o:Oper}{f:FuncId}{args:List AV}{cargs:Array Value}(nP:(execOp a.eval o).run P w=.ok (.enter f cargs) w)(aQ:VIs j args cargs.toList)
  {K:AV->AHeap->Prop} (hk:qj P f args h K) {next:Act->World->Prop} {Q:Exit->Act->World->Prop}
  (hn:∀v h' j' cv w',FR j h j' h'->MR B w0 j' h' w'->VI j' v cv->K v h'->next (a.put o.dst cv) w'):o.wp P a w next Q:=by
 unfold Oper.wp;rw[nP];have hc:=hk B w0 j w cargs.toList m aQ;rw[Array.toArray_toList]at hc
 refine hc.mono ?_
 rintro en w' ⟨v,h',j',cv,rfl,hf,hm,hv,hk⟩
 exact hn v h' j' cv w' hf hm hv hk
theorem zJG(m:MR B w0 j h w)(r:ER nt j e a){o:Oper}{io:IOp}(hc:copE P o.op=some io){K:AV->AHeap->Prop}(he:eff P io e h K){next:Act->World->Prop}{Q:Exit->Act->World->Prop}
  (hn:∀v h' j' cv w',FR j h j' h'->MR B w0 j' h' w'->VI j' v cv->K v h'->next (a.put o.dst cv) w'):o.wp P a w next Q:=by
 obtain⟨dst,op,ty,pos,after,guard⟩:=o;cases op<;>simp only[copE]at hc<;>(try (cases hc;done))
 case alloc t=>
  simp only[Option.bind_eq_some_iff,Option.map_eq_some_iff]at hc
  obtain⟨z,⟨i,hi,hz⟩,zs,db,rfl⟩:=hc;exact Ends.wp (o:=⟨dst,.alloc t,ty,pos,after,guard⟩) (zJJ m hi hz db he) hn
 case box t x=>
  simp only[Option.map_eq_some_iff]at hc
  obtain⟨ix,hx,rfl⟩:=hc;exact Ends.wp (o:=⟨dst,.box t x,ty,pos,after,guard⟩) (zLx m (zI r hx) he.1 he.2) hn
 case buildSlice t len ps=>
  split at hc
  ·rename_i et ht
   simp only[Option.bind_eq_some_iff]at hc
   obtain⟨i,hi,z,hz,zs,db,qs,jx,hc⟩:=hc
   split at hc
   ·rename_i hb
    cases hc;obtain⟨cs,hf,hk⟩:=he;exact Ends.wp (o:=⟨dst,.buildSlice t len ps,ty,pos,after,guard⟩) (zGn m r ht hi hz db jx hb.1 hb.2.1 hb.2.2 hf hk) hn
   ·cases hc
  ·cases hc
 case store t x v=>
  simp only[Option.bind_eq_some_iff]at hc
  obtain⟨i,hi,ix,hx,iv,hv,hc⟩:=hc;cases hc;simp only[eff]at he
  split at he
  ·rename_i o k hp
   have eN:=zI r hx;rw[hp]at eN
   obtain⟨hl,h',hw,hk⟩:=he;exact Ends.wp (o:=⟨dst,.store t x v,ty,pos,after,guard⟩) (zIO m hi eN (zI r hv) hl hw hk) hn
  ·exact he.elim
 case makeSlice t l c=>
  split at hc
  ·rename_i et ht
   simp only[Option.bind_eq_some_iff]at hc
   obtain⟨i,hi,z,hz,zs,db,il,aH,ic,yj,hc⟩:=hc
   split at hc
   ·rename_i hb
    cases hc;simp only[eff]at he
    split at he
    ·rename_i kl l' kc c' h1 h2
     have q1:=zI r aH;have q2:=zI r yj;rw[h1]at q1
     rw[h2]at q2
     obtain⟨⟨b1,b2,b3,b4⟩,hk⟩:=he
     have:=zHW (P:=P) (t:=t) m ht hi hz db hb.1 hb.2 (kl:=kl) (kc:=kc) b1 b2 b3 b4 hk
     rw[<-show a.eval l=Value.int kl l' from q1,<-show a.eval c=Value.int kc c' from q2]at this
     exact Ends.wp (o:=⟨dst,.makeSlice t l c,ty,pos,after,guard⟩) this hn
    ·exact he.elim
   ·cases hc
  ·cases hc
 case call c=>
  obtain⟨callee,args,argTypes⟩:=c;simp only[zCl]at hc
  split at hc<;>(try (cases hc;done))
  ·split at hc<;>(try (cases hc;done))
   ·rename_i s x t t' aQ fS
    split at hc<;>(try (cases hc;done))
    rename_i et ht
    split at hc
    rotate_left
    ·split at hc<;>(try (cases hc;done))
     rename_i kn dA
     have e1:args = #[s,x]:=by rw[<-Array.toArray_toList (xs:=args),aQ]
     have e2:argTypes = #[t,t']:=by rw[<-Array.toArray_toList (xs:=argTypes),fS]
     clear aQ fS;subst e1;subst e2;simp only[Option.bind_eq_some_iff]at hc
     obtain⟨i,hi,z,hz,zs,db,is,pZ,ix,uJ,hc⟩:=hc
     split at hc
     ·rename_i hb
      cases hc;simp only[eff]at he
      split at he
      ·rename_i k n h1 h2
       have q1:=zI r pZ;have q2:=zI r uJ;rw[h1]at q1
       rw[h2]at q2
       obtain⟨⟨b1,b2,b3⟩,hk⟩:=he;obtain⟨v,h',hv,hk⟩:∃v h',(if 0<n then agrow i.size i.bytes h .nils (zeros zs n.toNat) n.toNat else(asame .nils).map fun v=>(v,h))=some (v,h')∧K v h':=by
        by_cases b0:0<n
        ·rw[if_pos b0]at hk ⊢
         have bb:n.toNat*i.bytes<=140737488355328:=by
          have e:((n.toNat*i.bytes:Nat):Int)=n*i.bytes:=by rw[Int.natCast_mul,Int.toNat_of_nonneg b1]
          omega
         exact⟨_,_,by simp only[agrow];rw[if_pos ⟨bb,by omega⟩],hk⟩
        ·rw[if_neg b0]at hk ⊢
         exact⟨_,_,rfl,hk⟩
       obtain⟨j',cv,w',hr,hf,hm,ju⟩:=zBw (P:=P) (ty:=ty) m ht dA hi hz db hb.1 hb.2 (k:=k) b1 b2 b3 q1 hv;rw[<-show a.eval x=Value.int k n from q2]at hr
       refine Ends.wp ⟨_,_,j',cv,w',.inl ?_,hf,hm,ju,hk⟩ hn;simp[execOp,resolve,invoke,builtin,hr]
      ·rename_i o off len c k n h1 h2
       have q1:=zI r pZ;have q2:=zI r uJ;rw[h1]at q1
       rw[h2]at q2
       obtain⟨⟨b1,b2,b3⟩,p,hv,hk⟩:=he;obtain⟨j',cv,w',hr,hf,hm,ju⟩:=zBw (P:=P) (ty:=ty) m ht dA hi hz db hb.1 hb.2 (k:=k) b1 b2 b3 q1 hv;rw[<-show a.eval x=Value.int k n from q2]at hr
       refine Ends.wp ⟨_,_,j',cv,w',.inl ?_,hf,hm,ju,hk⟩ hn;simp[execOp,resolve,invoke,builtin,hr]
      ·exact he.elim
     ·cases hc
    rename_i CC
    subst CC;have e1:args = #[s,x]:=by rw[<-Array.toArray_toList (xs:=args),aQ]
    have e2:argTypes = #[t,t]:=by rw[<-Array.toArray_toList (xs:=argTypes),fS]
    clear aQ fS;subst e1;subst e2;simp only[Option.bind_eq_some_iff]at hc
    obtain⟨i,hi,z,hz,is,pZ,ix,uJ,hc⟩:=hc
    split at hc
    ·rename_i hb
     cases hc;obtain⟨⟨v,h'⟩,hv,hk⟩:=he;obtain⟨j',cv,w',hr,hf,hm,ju⟩:=zGu (P:=P) (ty:=ty) m ht hi hz hb.1 hb.2 (zI r pZ) (zI r uJ) hv;refine Ends.wp ⟨v,h',j',cv,w',.inl ?_,hf,hm,ju,hk⟩ hn;simp[execOp,resolve,invoke,builtin,hr]
    ·cases hc
   ·rename_i d s t t' aQ fS
    split at hc<;>(try (cases hc;done))
    rename_i et ht
    have e1:args = #[d,s]:=by rw[<-Array.toArray_toList (xs:=args),aQ]
    have e2:argTypes = #[t,t']:=by rw[<-Array.toArray_toList (xs:=argTypes),fS]
    clear aQ fS;subst e1;subst e2;simp only[Option.bind_eq_some_iff]at hc
    obtain⟨i,hi,id,iU,is,pZ,hc⟩:=hc;cases hc;obtain⟨⟨v,h'⟩,hv,hk⟩:=he;obtain⟨cv,w',hr,hf,hm,ju⟩:=zJC (P:=P) (ty:=ty) (t':=t') m ht hi (zI r iU) (zI r pZ) hv;refine Ends.wp ⟨v,h',j,cv,w',.inl ?_,hf,hm,ju,hk⟩ hn;simp[execOp,resolve,invoke,builtin,hr]
  ·rename_i f
   split at hc
   ·rename_i bE
    simp only[Option.map_eq_some_iff]at hc
    obtain⟨ixs,wV,rfl⟩:=hc;have Dn:qj P f (ixs.map (·.ev e)) h K:=he
    refine zIE (o:=⟨dst,.call ⟨.value (.func f),args,argTypes⟩,ty,pos,after,guard⟩) m (cargs:=args.map a.eval) (args:=ixs.map (·.ev e)) ?_ (by simpa using Qr r wV) Dn hn
    simp[execOp,resolve,Act.eval,Deferred.ofValue,invoke,zCY bE]
   ·cases hc
  ·rename_i t
   simp only[Option.map_eq_some_iff]at hc
   obtain⟨ixs,wV,rfl⟩:=hc;simp only[eff]at he
   split at he
   ·rename_i f first cf Dg
    have hv:=r.vals t;rw[show e t=_ from Dg]at hv
    obtain⟨vs,us,h1,h2,h3⟩:=hv;refine zIE (o:=⟨dst,.call ⟨.value (.tmp t),args,argTypes⟩,ty,pos,after,guard⟩) m (cargs:=vs.toArray++args.map a.eval++us.toArray) ?_ (by simpa using (h1.append (Qr r wV)).append h2) he.2 hn
    have yw:a.eval (.tmp t)=.func (.func f) vs.toArray us.toArray:=h3;simp[execOp,resolve,yw,Deferred.ofValue,invoke,zCY he.1]
   ·exact he.elim
 case convert src dt x=>
  split at hc<;>(try (cases hc;done))
  rename_i et h1 h2
  split at hc<;>(try (cases hc;done))
  rename_i h3
  simp only[Option.map_eq_some_iff]at hc
  obtain⟨ix,hx,rfl⟩:=hc;obtain⟨s,hv,hk⟩:=he;exact Ends.wp (o:=⟨dst,.convert src _ x,ty,pos,after,guard⟩) (zIN m h1 h3 h2 (zI r hx) hv hk) hn
 case makeMap t CV=>
  split at hc<;>(try (cases hc;done))
  rename_i hr
  cases hc;cases CV with
  |some _=>cases hr
  |none=>
  obtain⟨N,hk⟩:=he;exact Ends.wp (o:=⟨dst,.makeMap _ none,ty,pos,after,guard⟩) (zGH m hk) hn
 case lookup t x k ok=>
  split at hc<;>(try (cases hc;done))
  rename_i hb
  obtain⟨hb,rfl⟩:=hb;simp only[Option.bind_eq_some_iff]at hc
  obtain⟨ix,hx,ik,s9,hc⟩:=hc;cases hc;simp only[eff]at he
  split at he
  ·rename_i o kk i e1 e2
   have q1:=zI r hx;have q2:=zI r s9;rw[e1]at q1
   rw[e2]at q2
   obtain⟨⟨rfl,h0⟩,v,hv,hk⟩:=he
   have:=zHX (P:=P) m hb q1 h0 hv hk
   rw[<-show a.eval _=Value.int .i64 i from q2]at this
   exact Ends.wp (o:=⟨dst,.lookup _ _ _ false,ty,pos,after,guard⟩) this hn
  ·exact he.elim
 case mapUpdate t x k v=>
  split at hc<;>(try (cases hc;done))
  rename_i hb
  simp only[Option.bind_eq_some_iff]at hc
  obtain⟨ix,hx,ik,s9,iv,yh,hc⟩:=hc;cases hc;simp only[eff]at he
  split at he
  ·rename_i o kk i b e1 e2 e3
   have q1:=zI r hx;have q2:=zI r s9;have q3:=zI r yh;rw[e1]at q1
   rw[e2]at q2
   rw[e3]at q3
   obtain⟨⟨rfl,h0⟩,h',hw,hk⟩:=he
   have:=zDB (P:=P) m hb q1 h0 hw hk
   rw[<-show a.eval _=Value.int .i64 i from q2,<-show a.eval _=Value.bool b from q3]at this
   exact Ends.wp (o:=⟨dst,.mapUpdate _ _ _ _,ty,pos,after,guard⟩) this hn
  ·exact he.elim
 case insert t x k v=>
  split at hc<;>(try (cases hc;done))
  rename_i hb
  simp only[Option.bind_eq_some_iff]at hc
  obtain⟨ix,hx,ik,s9,iv,yh,hc⟩:=hc;cases hc;simp only[eff]at he
  split at he
  ·rename_i o kk i b e1 e2 e3
   have q1:=zI r hx;have q2:=zI r s9;have q3:=zI r yh;rw[e1]at q1
   rw[e2]at q2
   rw[e3]at q3
   obtain⟨⟨rfl,h0⟩,h',hw,hk⟩:=he
   have:=zDB (P:=P) m hb q1 h0 hw hk
   rw[<-show a.eval _=Value.int .i64 i from q2,<-show a.eval _=Value.bool b from q3]at this
   exact Ends.wp (o:=⟨dst,.insert _ _ _ _,ty,pos,after,guard⟩) this hn
  ·exact he.elim
end Go.Ab
