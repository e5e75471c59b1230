/- OPERATIONS ON MAPS from whole numbers to truth values, against the abstract value. -/
import Derived.Test.YtjlpbpfaihhamaaGreatBAbEff
import Derived.MapKept
import Derived.Laws.BytesString
set_option linter.unusedSimpArgs false
set_option linter.unusedVariables false
namespace Go.Ab
open Go.RowKit
variable {P:Program} {B:Nat} {w0 w:World} {j:Inj} {h:AHeap}
theorem Lf.vi {a:AV} {v:Value} (l:Lf a v) (j:Inj):VI j a v:=by
 obtain⟨h1,h2⟩:=l;cases a<;>first | (cases h1;done) | exact h2
theorem lf_of {a:AV} {v:Value} (h1:a.leaf=true) (h2:VI j a v):Lf a v:=by
 refine⟨h1,?_⟩;cases a<;>first | (cases h1;done) | exact h2
theorem zFc {t:TypeId} {kt:KT} {z:AV} (ht:mapTy P t=some (kt,z)):∃k v i zv,P.underlying t=some (.map k v)∧P.underlying k=some kt.desc∧P.info? v=some i∧i.zero=some zv∧Lf z zv:=by
 unfold mapTy at ht
 split at ht
 ·rename_i k v hm
  simp only [Option.bind_eq_some_iff]at ht
  obtain⟨kt',hk,i,hi,zv,hz,hq⟩:=ht;have hd:P.underlying k=some kt'.desc:=by
   split at hk
   ·rename_i kd he;cases hk;exact he
   ·rename_i he;cases hk;exact he
   ·cases hk
  split at hq
  ·cases hq;exact⟨k,v,i,_,hm,hd,hi,hz,rfl,rfl⟩
  ·cases hq;exact⟨k,v,i,_,hm,hd,hi,hz,rfl,rfl⟩
  ·cases hq
 ·cases ht
theorem zIP {kt:KT} {a:AV} {v:Value} (hf:kt.fits a=true) (l:Lf a v):MapKept.IsKey kt.desc v:=by
 cases kt<;>cases a<;>simp only [KT.fits,reduceCtorEq,decide_eq_true_eq]at hf
 ·subst hf
  rw [show v=_ from l.2];rfl
 ·rw [show v=_ from l.2];trivial
theorem zEG {kt:KT} {a b:AV} {v u:Value} (fa:kt.fits a=true) (fb:kt.fits b=true) (la:Lf a v) (lb:Lf b u):Instr.sameNow kt.desc v u=some (AV.keq a b)∧(AV.keq a b=true→u=v):=by
 cases kt with
 | int kd=>
  cases a<;>simp only [KT.fits,reduceCtorEq,decide_eq_true_eq]at fa
  rename_i ka x
  cases b<;>simp only [KT.fits,reduceCtorEq,decide_eq_true_eq]at fb
  rename_i kb y
  subst fa;subst fb;rw [show v=Value.int _ x from la.2,show u=Value.int _ y from lb.2]
  refine⟨?_,fun e=>by rw [of_decide_eq_true e]⟩
  simp only [KT.desc,Instr.sameNow,AV.keq,if_true]
  congr 1
 | str=>
  cases a<;>simp only [KT.fits,reduceCtorEq]at fa
  cases b<;>simp only [KT.fits,reduceCtorEq]at fb
  rename_i x y
  rw [show v=Value.string ⟨x.toArray⟩ from la.2,show u=Value.string ⟨y.toArray⟩ from lb.2]
  refine⟨?_,fun e=>by rw [show x=y from of_decide_eq_true e]⟩
  simp only [KT.desc,Instr.sameNow,AV.keq]
  congr 1
  by_cases e:x=y
  ·subst e
   rw [decide_eq_true rfl];exact(MapKept.bytes_beq _ _).2 rfl
  ·rw [decide_eq_false e]
   refine Bool.eq_false_iff.2 fun q=>e ?_
   have:=(MapKept.bytes_beq _ _).1 q
   injection this with this
   simpa using this
theorem zFb {kt:KT} {k:AV} {kv:Value} (hf:kt.fits k=true) (lk:Lf k kv):∀{es:List MapEntry} {cells:List AV} {r:Option AV} (n:Nat),MapAs es cells→mget kt k cells=some r→
  (r=none∧Instr.findNow kt.desc kv es n=some none)∨∃v p e,r=some v∧Instr.findNow kt.desc kv es n=some (some (n+p,e.val))∧es[p]? = some e∧Lf v e.val
 | [],_,r,n,hm,hg=>by
  rw [show _=[] from hm]at hg
  cases hg;exact .inl ⟨rfl,rfl⟩
 | e::es,_,r,n,hm,hg=>by
  obtain⟨k',v',r',rfl,l1,l2,hm⟩:=hm;rw [mget]at hg
  split at hg
  ·rename_i hf'
   obtain⟨s1,s2⟩:=zEG hf hf' lk l1
   split at hg
   ·rename_i he
    cases hg;exact .inr ⟨v',0,e,rfl,by simp [Instr.findNow,s1,he],rfl,l2⟩
   ·rename_i he
    have he:AV.keq k k'=false:=Bool.eq_false_iff.2 he;rcases zFb hf lk (n+1) hm hg with ⟨a1,a2⟩|⟨v,p,f,a1,a2,a3,a4⟩
    ·exact .inl ⟨a1,by simp [Instr.findNow,s1,he,a2]⟩
    ·exact .inr ⟨v,p+1,f,a1,by simp [Instr.findNow,s1,he,a2];omega,by simpa using a3,a4⟩
  ·cases hg
theorem zFa {kt:KT} {k v:AV} {kv vv:Value} (hf:kt.fits k=true) (lk:Lf k kv) (lv:Lf v vv):∀{es:List MapEntry} {cells cells':List AV} (n:Nat),MapAs es cells→mset kt k v cells=some cells'→
  (Instr.findNow kt.desc kv es n=some none∧∀c,MapAs (es++[{ key:=kv,val:=vv,born:=c }]) cells')∨
  ∃p e,Instr.findNow kt.desc kv es n=some (some (n+p,e.val))∧es[p]? = some e∧e.key=kv∧MapAs (es.modify p fun x=>{ x with key:=kv,val:=vv }) cells'
 | [],_,_,n,hm,hg=>by
  rw [show _=[] from hm]at hg
  cases hg;exact .inl ⟨rfl,fun c=>⟨k,v,[],rfl,lk,lv,rfl⟩⟩
 | e::es,_,_,n,hm,hg=>by
  obtain⟨k',v',r',rfl,l1,l2,hm⟩:=hm;rw [mset]at hg
  split at hg
  ·rename_i hf'
   obtain⟨s1,s2⟩:=zEG hf hf' lk l1
   split at hg
   ·rename_i he
    cases hg;have hk:e.key=kv:=s2 he;exact .inr ⟨0,e,by simp [Instr.findNow,s1,he],rfl,hk,k',v,r',rfl,by rw [←hk];exact l1,lv,hm⟩
   ·rename_i he
    have he:AV.keq k k'=false:=Bool.eq_false_iff.2 he;obtain⟨c',hg2,rfl⟩:=Option.map_eq_some_iff.1 hg;rcases zFa hf lk lv (n+1) hm hg2 with ⟨a1,a2⟩|⟨p,f,a1,a2,a3,a4⟩
    ·exact .inl ⟨by simp [Instr.findNow,s1,he,a1],fun c=>⟨k',v',c',rfl,l1,l2,a2 c⟩⟩
    ·exact .inr ⟨p+1,f,by simp [Instr.findNow,s1,he,a1];omega,by simpa using a2,a3,k',v',c',rfl,l1,l2,a4⟩
  ·cases hg
theorem MR.newMap (m:MR B w0 j h w):
  MR B w0 (j.put h.next ⟨w.heap.size,0,0,true⟩) (h.new ⟨true,[]⟩) (w.alloc (.map #[] 0))∧FR j h (j.put h.next ⟨w.heap.size,0,0,true⟩) (h.new ⟨true,[]⟩):=by
 have hle:=m.put_le ⟨w.heap.size,0,0,true⟩;refine⟨⟨m.below.alloc m.bnd _,by simp;have:=m.bnd;omega,m.dr,?_,?_,?_,?_⟩,?_⟩
 ·intro o ho
  simp only [AHeap.new]at ho
  simp only [AHeap.new,Inj.put,if_neg (show ¬o=h.next by omega)]
  exact m.fresh o (by omega)
 ·intro o ob l ho hl hp
  by_cases e:o=h.next
  ·subst e
   simp only [Inj.put,if_true,Option.some.injEq]at hl
   subst hl;cases hp
  ·simp only [AHeap.new,if_neg e]at ho
   simp only [Inj.put,if_neg e]at hl
   exact(m.obj o ob l ho hl hp).alloc _ hle
 ·intro o ob l ho hl hp
  by_cases e:o=h.next
  ·subst e
   simp only [AHeap.new,if_true,Option.some.injEq]at ho
   simp only [Inj.put,if_true,Option.some.injEq]at hl
   subst ho;subst hl;exact⟨rfl,m.bnd,#[],0,heap_alloc_new w _,rfl⟩
  ·simp only [AHeap.new,if_neg e]at ho
   simp only [Inj.put,if_neg e]at hl
   exact(m.maps o ob l ho hl hp).alloc _
 ·intro o o' ob ob' l l' hne ho ho' hl hl' hrw
  have old:∀{p:Nat} {ob:AObj} {l:Loc},h.obj p=some ob→j p=some l→l.blk<w.heap.size:=by
   intro p ob l a b;exact m.row_lt a b
  by_cases e:o=h.next
  ·have e':o'≠h.next:=fun x=>hne (e.trans x.symm)
   subst e;simp only [Inj.put,if_true,Option.some.injEq]at hl
   simp only [Inj.put,if_neg e']at hl'
   simp only [AHeap.new,if_neg e']at ho'
   have:=old ho' hl'
   subst hl;show w.heap.size≠_;omega
  ·simp only [AHeap.new,if_neg e]at ho
   simp only [Inj.put,if_neg e]at hl
   by_cases e':o'=h.next
   ·subst e'
    simp only [Inj.put,if_true,Option.some.injEq]at hl'
    have:=old ho hl
    subst hl';show _≠w.heap.size;omega
   ·simp only [AHeap.new,if_neg e']at ho'
    simp only [Inj.put,if_neg e']at hl'
    exact m.apart o o' ob ob' l l' hne ho ho' hl hl' hrw
 ·refine⟨by simp [AHeap.new],fun o ho=>?_,fun o ho _=>?_⟩
  ·simp [Inj.put,Nat.ne_of_lt ho]
  ·simp [AHeap.new,Nat.ne_of_lt ho]
theorem MR.setMap (m:MR B w0 j h w) {o:Nat} {ob:AObj} {l:Loc} {cells:List AV} {es':Array MapEntry} {clock':Nat} {es:Array MapEntry} {clock:Nat} (ho:h.obj o=some ob) (hl:j o=some l) (hmp:l.mp=true)
  (hrow:w.heap[l.blk]? = some (.map es clock)) (hc:MapAs es'.toList cells):
  MR B w0 j (h.set o cells) { w with heap:=w.heap.setIfInBounds l.blk (.map es' clock') }∧FR j h j (h.set o cells):=by
 obtain⟨hrw,hB,_⟩:=m.maps o ob l ho hl hmp;obtain⟨hsame,hother⟩:=MapKept.heap_set (o':=.map es' clock') hrow;have hsize:(w.heap.setIfInBounds l.blk (.map es' clock')).size=w.heap.size:=by simp
 refine⟨⟨m.below.trans ⟨rfl,rfl,rfl,by rw [hsize];exact Nat.le_refl _,fun k hk=>hother k (by omega)⟩,by show B≤(w.heap.setIfInBounds l.blk (.map es' clock')).size;rw [hsize];exact m.bnd,m.dr,?_,?_,?_,?_⟩,?_⟩
 ·intro p hp
  have:=m.lt hl
  simp only [AHeap.set]at hp ⊢
  rw [if_neg (by omega)]
  exact m.fresh p hp
 ·intro p obp lp hp hlp hpm
  by_cases e:p=o
  ·subst e
   rw [hl]at hlp
   cases hlp;rw [hmp]at hpm;cases hpm
  ·simp only [AHeap.set,if_neg e]at hp
   have hk:=m.obj p obp lp hp hlp hpm;refine⟨hk.one,?_⟩;obtain⟨c,t,f,x,y⟩:=hk.row;have hne:lp.blk≠l.blk:=fun e'=>m.apart o p ob obp l lp (fun x=>e x.symm) ho hp hl hlp hrw e'.symm
   exact⟨c,t,f,by rw [hother _ hne];exact x,y⟩
 ·intro p obp lp hp hlp hpm
  by_cases e:p=o
  ·subst e
   simp only [AHeap.set,if_true,Option.some.injEq]at hp
   rw [hl]at hlp
   cases hlp;subst hp;exact⟨rfl,hB,es',clock',hsame,hc⟩
  ·simp only [AHeap.set,if_neg e]at hp
   have hk:=m.maps p obp lp hp hlp hpm;obtain⟨es2,clock2,x,y⟩:=hk.row;have hne:lp.blk≠l.blk:=fun e'=>m.apart o p ob obp l lp (fun x=>e x.symm) ho hp hl hlp hrw e'.symm
   exact⟨hk.rw,hk.ge,es2,clock2,by rw [hother _ hne];exact x,y⟩
 ·intro p p' obp obp' lp lp' hne hp hp' hlp hlp' hrwp
  have conv:∀{q:Nat} {obq:AObj},(h.set o cells).obj q=some obq→∃ob',h.obj q=some ob'∧(obq.rw=true→ob'.rw=true):=by
   intro q obq hq
   by_cases e:q=o
   ·subst e;exact⟨ob,ho,fun _=>hrw⟩
   ·simp only [AHeap.set,if_neg e]at hq;exact⟨obq,hq,id⟩
  obtain⟨a,ha,har⟩:=conv hp;obtain⟨b,hb,_⟩:=conv hp';exact m.apart p p' a b lp lp' hne ha hb hlp hlp' (har hrwp)
 ·refine⟨Nat.le_refl _,fun _ _=>rfl,fun p _ hn=>?_⟩
  simp only [AHeap.set];rw [if_neg (fun e=>by subst e;rw [hl]at hn;cases hn)]
theorem zID (m:MR B w0 j h w) {t:TypeId} {K:AV→AHeap→Prop} (hk:K (.mref h.next) (h.new ⟨true,[]⟩)):
  Ends P (do pure (.value (←Instr.makeMap t none))) w B w0 j h K:=by
 obtain⟨hm,hf⟩:=m.newMap;refine⟨.mref h.next,_,_,.map (some w.heap.size),_,.inl ?_,hf,hm,⟨⟨w.heap.size,0,0,true⟩,by simp [Inj.put],rfl,rfl⟩,hk⟩
 simp [Instr.makeMap]
theorem zJZ (m:MR B w0 j h w) {t:TypeId} {kt:KT} {z:AV} (ht:mapTy P t=some (kt,z)) {o:Nat} {k:AV} {x kv:Value} (hx:VI j (.mref o) x) (hkv:VI j k kv) {r:Option AV}
  (hv:((h.obj o).bind fun ob=>if kt.fits k=true then mget kt k ob.cells else none)=some r) {K:AV→AHeap→Prop} (hk:K (r.getD z) h):
  Ends P (do pure (.value (←Instr.lookup t x kv false))) w B w0 j h K:=by
 obtain⟨ke,e,ti,zv,h1,h2,h3,h4,h5⟩:=zFc ht;obtain⟨l,hl,rfl,hmp⟩:=hx;simp only [Option.bind_eq_some_iff]at hv
 obtain⟨ob,ho,hv⟩:=hv
 split at hv
 ·rename_i hf
  have lk:Lf k kv:=lf_of (by cases kt<;>cases k<;>simp [KT.fits,AV.leaf]at hf ⊢) hkv
  have hkey:=zIP hf lk;obtain⟨hrw,hB,es,clock,hrow,hma⟩:=m.maps o ob l ho hl hmp;have hz:(zeroValue e).run P w=.ok zv w:=by simp [zeroValue,typeInfo,h3,h4]
  rcases zFb hf lk 0 hma hv with ⟨rfl,a2⟩|⟨v,p,f,rfl,a1,_,a4⟩
  ·refine⟨z,h,j,zv,w,.inl ?_,FR.refl _ _,m,h5.vi j,hk⟩
   simp [Instr.lookup,run_underlying h1,MapKept.run_getObj_map hrow,MapKept.run_checkKey h2 hkey,MapKept.run_findKey h2 a2,hz]
  ·refine⟨v,h,j,f.val,w,.inl ?_,FR.refl _ _,m,a4.vi j,hk⟩
   simp [Instr.lookup,run_underlying h1,MapKept.run_getObj_map hrow,MapKept.run_checkKey h2 hkey,MapKept.run_findKey h2 a1]
 ·cases hv
theorem zEQ (m:MR B w0 j h w) {t:TypeId} {kt:KT} {z:AV} (ht:mapTy P t=some (kt,z)) {o:Nat} {k v:AV} {x kv vv:Value} (hx:VI j (.mref o) x) (hkv:VI j k kv) (hvv:VI j v vv) {cs:List AV}
  (hw:((h.obj o).bind fun ob=>if kt.fits k=true∧v.leaf=true then mset kt k v ob.cells else none)=some cs)
  {K:AV→AHeap→Prop} (hk:K .undef (h.set o cs)):Ends P (do Instr.mapUpdate t x kv vv;pure .skip) w B w0 j h K:=by
 obtain⟨ke,e,ti,zv,h1,h2,h3,h4,h5⟩:=zFc ht;obtain⟨l,hl,rfl,hmp⟩:=hx;simp only [Option.bind_eq_some_iff]at hw
 obtain⟨ob,ho,hw⟩:=hw
 split at hw
 ·rename_i hf
  obtain⟨hf,hlv⟩:=hf;have lk:Lf k kv:=lf_of (by cases kt<;>cases k<;>simp [KT.fits,AV.leaf]at hf ⊢) hkv
  have lv:Lf v vv:=lf_of hlv hvv;have hkey:=zIP hf lk;obtain⟨hrw,hB,es,clock,hrow,hma⟩:=m.maps o ob l ho hl hmp;rcases zFa hf lk lv 0 hma hw with ⟨a1,a2⟩|⟨p,f,a1,a2,a3,a4⟩
  ·have hma':MapAs (es.push { key:=kv,val:=vv,born:=clock }).toList cs:=by
    rw [Array.toList_push];exact a2 clock
   obtain⟨hm,hff⟩:=m.setMap (clock':=clock+1) ho hl hmp hrow hma';refine⟨.undef,_,j,undef,_,.inr ⟨?_,rfl⟩,hff,hm,trivial,hk⟩;simp [Instr.mapUpdate,run_underlying h1,MapKept.run_getObj_map hrow,MapKept.run_checkKey h2 hkey,MapKept.run_findKey h2 a1,MapKept.run_setObj_map _ hrow]
  ·have hma':MapAs (es.modify p fun x=>{ x with key:=kv,val:=vv }).toList cs:=by
    rw [Array.toList_modify];exact a4
   obtain⟨hm,hff⟩:=m.setMap (clock':=clock) ho hl hmp hrow hma';refine⟨.undef,_,j,undef,_,.inr ⟨?_,rfl⟩,hff,hm,trivial,hk⟩;have hj':es[p]? = some f:=by simpa using a2
   simp [Instr.mapUpdate,run_underlying h1,MapKept.run_getObj_map hrow,MapKept.run_checkKey h2 hkey,MapKept.run_findKey h2 a1,hj',a3,MapKept.run_keyThatStays hkey,MapKept.run_setObj_map _ hrow]
 ·cases hw
theorem zGq:∀{vs:List AV} {cs:List Value} {s:List UInt8},VIs j vs cs→zBZ vs=some s→∃ns:List Int,cs=ns.map (Value.int .u8)∧s=ns.map fun n=>UInt8.ofNat n.toNat
 | [],cs,s,hv,hs=>by
  cases hs;rw [show cs=[] from hv]
  exact⟨[],rfl,rfl⟩
 | v::vs,cs,s,hv,hs=>by
  obtain⟨c,r,rfl,h1,h2⟩:=hv;unfold zBZ at hs
  split at hs
  ·rename_i heq
   cases heq
  ·rename_i n r' heq
   cases heq;obtain⟨t,ht,rfl⟩:=Option.map_eq_some_iff.1 hs;obtain⟨ns,rfl,rfl⟩:=zGq h2 ht;exact⟨n::ns,by rw [show c=.int .u8 n from h1];rfl,rfl⟩
  ·cases hs
theorem zFp:∀(ns:List Int) (s:ByteArray),ns.foldl (fun r n=>r.push (UInt8.ofNat n.toNat)) s=⟨(s.data.toList++ns.map fun n=>UInt8.ofNat n.toNat).toArray⟩
 | [],s=>by simp
 | n::ns,s=>by
  rw [List.foldl_cons,zFp ns];simp [ByteArray.push]
theorem zKR (m:MR B w0 j h w) {src dst et:TypeId} (hs:P.underlying src=some (.slice et)) (he:P.underlying et=some (.int .u8)) (hd:P.underlying dst=some .string) {x:AV} {c:Value} (hx:VI j x c) {s:List UInt8}
  (hv:((alen x).bind fun n=>(zAP 1 h x n).bind zBZ)=some s) {K:AV→AHeap→Prop} (hk:K (.str s) h):Ends P (do pure (.value (←convert src dst c))) w B w0 j h K:=by
 simp only [Option.bind_eq_some_iff]at hv
 obtain⟨n,hn,cs,hf,hb⟩:=hv;obtain⟨o,cp,rfl,_⟩:=zA2 hx hn;refine⟨.str s,h,j,.string ⟨s.toArray⟩,w,.inl ?_,FR.refl _ _,m,rfl,hk⟩;have key:(Conv.bytesToString (.slice o n cp)).run P w=.ok (.string ⟨s.toArray⟩) w:=by
  by_cases h0:n=0
  ·subst h0
   have:s=[]:=by
    unfold zAP at hf
    rw [if_pos rfl]at hf
    cases hf;cases hb;rfl
   subst this;cases o with
   | none=>rfl
   | some a=>
    have h1:(loadCells a 0).run P w=.ok (([]:List Int).map (Value.int .u8)).toArray w:=by simp [loadCells,loadCellsFrom]
    rw [run_bytesToString (P:=P) w a 0 cp [] h1]
    rfl
  ·obtain⟨ad,len',cp',nc,hcx,hle,hvs,hnl,hone,hcells⟩:=zBW m hx h0 hf
   cases hcx;obtain⟨ns,rfl,rfl⟩:=zGq hvs hb;have h1:(loadCells ad n).run P w=.ok (ns.map (Value.int .u8)).toArray w:=by
    have:=run_loadCells_list (P:=P) w ad (ns.map (Value.int .u8)) hcells
    rw [hnl,Nat.mul_one]at this
    exact this
   rw [run_bytesToString (P:=P) w ad n cp ns h1,zFp]
   simp
 rw [Sem.run_bind,run_convert_bytes_string (P:=P) w src dst et o n cp hs he hd,key]
 rfl
end Go.Ab
