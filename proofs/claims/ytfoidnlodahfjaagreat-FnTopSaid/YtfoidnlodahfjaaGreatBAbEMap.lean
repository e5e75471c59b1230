/- OPERATIONS ON MAPS from whole numbers to truth values, against the abstract value. -/
import Derived.Test.YtfoidnlodahfjaaGreatBAbEff
import Derived.MapKept
import Derived.Laws.BytesString
set_option linter.unusedSimpArgs false
set_option linter.unusedVariables false
namespace Go.Ab
open Go.RowKit
variable {P:Program} {B:Nat} {w0 w:World} {j:Inj} {h:AHeap}
theorem zEb {t:TypeId} (ht:isBM P t=true):∃k v i,P.underlying t=some (.map k v)∧P.underlying k=some (.int .i64)∧P.info? v=some i∧i.zero=some (.bool false):=by
 unfold isBM at ht
 split at ht
 ·rename_i k v hm
  simp only [Bool.and_eq_true]at ht
  obtain⟨h1,h2⟩:=ht
  split at h1
  ·rename_i hk
   split at h2
   ·rename_i i hi
    split at h2
    ·rename_i hz;exact⟨k,v,i,hm,hk,hi,hz⟩
    ·cases h2
   ·cases h2
  ·cases h1
 ·cases ht
theorem MapAs.empty (N:Nat):MapAs [] (List.replicate N (.bool false)):=
 ⟨fun e he=>by simp at he,fun i v hv=>by
  rw [List.getElem?_replicate]at hv
  split at hv
  ·cases hv;rfl
  ·cases hv⟩
theorem MR.newMap (m:MR B w0 j h w) (N:Nat):
  MR B w0 (j.put h.next ⟨w.heap.size,0,0,true⟩) (h.new ⟨true,List.replicate N (.bool false)⟩) (w.alloc (.map #[] 0))∧FR j h (j.put h.next ⟨w.heap.size,0,0,true⟩) (h.new ⟨true,List.replicate N (.bool false)⟩):=by
 have hle:=m.put_le ⟨w.heap.size,0,0,true⟩;refine⟨⟨m.below.alloc m.bnd _,by simp;have:=m.bnd;omega,?_,?_,?_,?_⟩,?_⟩
 ·intro o ho
  simp only [AHeap.new]at ho
  simp only [AHeap.new,Inj.put,if_neg (show ¬o=h.next by omega)]
  exact m.fresh o (by omega)
 ·intro o ob l ho hl hp
  by_cases e:o=h.next
  ·subst e
   simp only [Inj.put,if_true,Option.some.injEq]at hl
   subst hl;cases hp
  ·simp only [AHeap.new,if_neg e]at ho
   simp only [Inj.put,if_neg e]at hl
   exact(m.obj o ob l ho hl hp).alloc _ hle
 ·intro o ob l ho hl hp
  by_cases e:o=h.next
  ·subst e
   simp only [AHeap.new,if_true,Option.some.injEq]at ho
   simp only [Inj.put,if_true,Option.some.injEq]at hl
   subst ho;subst hl;exact⟨rfl,m.bnd,#[],0,heap_alloc_new w _,MapAs.empty N⟩
  ·simp only [AHeap.new,if_neg e]at ho
   simp only [Inj.put,if_neg e]at hl
   exact(m.maps o ob l ho hl hp).alloc _
 ·intro o o' ob ob' l l' hne ho ho' hl hl' hrw
  have old:∀{p:Nat} {ob:AObj} {l:Loc},h.obj p=some ob→j p=some l→l.blk<w.heap.size:=by
   intro p ob l a b;exact m.row_lt a b
  by_cases e:o=h.next
  ·have e':o'≠h.next:=fun x=>hne (e.trans x.symm)
   subst e;simp only [Inj.put,if_true,Option.some.injEq]at hl
   simp only [Inj.put,if_neg e']at hl'
   simp only [AHeap.new,if_neg e']at ho'
   have:=old ho' hl'
   subst hl;show w.heap.size≠_;omega
  ·simp only [AHeap.new,if_neg e]at ho
   simp only [Inj.put,if_neg e]at hl
   by_cases e':o'=h.next
   ·subst e'
    simp only [Inj.put,if_true,Option.some.injEq]at hl'
    have:=old ho hl
    subst hl';show _≠w.heap.size;omega
   ·simp only [AHeap.new,if_neg e']at ho'
    simp only [Inj.put,if_neg e']at hl'
    exact m.apart o o' ob ob' l l' hne ho ho' hl hl' hrw
 ·refine⟨by simp [AHeap.new],fun o ho=>?_,fun o ho _=>?_⟩
  ·simp [Inj.put,Nat.ne_of_lt ho]
  ·simp [AHeap.new,Nat.ne_of_lt ho]
theorem MR.setMap (m:MR B w0 j h w) {o:Nat} {ob:AObj} {l:Loc} {cells:List AV} {es':Array MapEntry} {clock':Nat} {es:Array MapEntry} {clock:Nat} (ho:h.obj o=some ob) (hl:j o=some l) (hmp:l.mp=true)
  (hrow:w.heap[l.blk]? = some (.map es clock)) (hc:MapAs es'.toList cells):
  MR B w0 j (h.set o cells) { w with heap:=w.heap.setIfInBounds l.blk (.map es' clock') }∧FR j h j (h.set o cells):=by
 obtain⟨hrw,hB,_⟩:=m.maps o ob l ho hl hmp;obtain⟨hsame,hother⟩:=MapKept.heap_set (o':=.map es' clock') hrow;have hsize:(w.heap.setIfInBounds l.blk (.map es' clock')).size=w.heap.size:=by simp
 refine⟨⟨m.below.trans ⟨rfl,rfl,rfl,by rw [hsize];exact Nat.le_refl _,fun k hk=>hother k (by omega)⟩,by show B≤(w.heap.setIfInBounds l.blk (.map es' clock')).size;rw [hsize];exact m.bnd,?_,?_,?_,?_⟩,?_⟩
 ·intro p hp
  have:=m.lt hl
  simp only [AHeap.set]at hp ⊢
  rw [if_neg (by omega)]
  exact m.fresh p hp
 ·intro p obp lp hp hlp hpm
  by_cases e:p=o
  ·subst e
   rw [hl]at hlp
   cases hlp;rw [hmp]at hpm;cases hpm
  ·simp only [AHeap.set,if_neg e]at hp
   have hk:=m.obj p obp lp hp hlp hpm;refine⟨hk.one,?_⟩;obtain⟨c,t,f,x,y⟩:=hk.row;have hne:lp.blk≠l.blk:=fun e'=>m.apart o p ob obp l lp (fun x=>e x.symm) ho hp hl hlp hrw e'.symm
   exact⟨c,t,f,by rw [hother _ hne];exact x,y⟩
 ·intro p obp lp hp hlp hpm
  by_cases e:p=o
  ·subst e
   simp only [AHeap.set,if_true,Option.some.injEq]at hp
   rw [hl]at hlp
   cases hlp;subst hp;exact⟨rfl,hB,es',clock',hsame,hc⟩
  ·simp only [AHeap.set,if_neg e]at hp
   have hk:=m.maps p obp lp hp hlp hpm;obtain⟨es2,clock2,x,y⟩:=hk.row;have hne:lp.blk≠l.blk:=fun e'=>m.apart o p ob obp l lp (fun x=>e x.symm) ho hp hl hlp hrw e'.symm
   exact⟨hk.rw,hk.ge,es2,clock2,by rw [hother _ hne];exact x,y⟩
 ·intro p p' obp obp' lp lp' hne hp hp' hlp hlp' hrwp
  have conv:∀{q:Nat} {obq:AObj},(h.set o cells).obj q=some obq→∃ob',h.obj q=some ob'∧(obq.rw=true→ob'.rw=true):=by
   intro q obq hq
   by_cases e:q=o
   ·subst e;exact⟨ob,ho,fun _=>hrw⟩
   ·simp only [AHeap.set,if_neg e]at hq;exact⟨obq,hq,id⟩
  obtain⟨a,ha,har⟩:=conv hp;obtain⟨b,hb,_⟩:=conv hp';exact m.apart p p' a b lp lp' hne ha hb hlp hlp' (har hrwp)
 ·refine⟨Nat.le_refl _,fun _ _=>rfl,fun p _ hn=>?_⟩
  simp only [AHeap.set];rw [if_neg (fun e=>by subst e;rw [hl]at hn;cases hn)]
theorem zEa {i:Nat} {v:Value}:keyIs i v=true↔v=.int .i64 (i:Int):=by
 cases v<;>simp [keyIs]
 rename_i k n
 cases k<;>simp [keyIs]
theorem zBQ {i:Nat}:∀{es:List MapEntry} (n:Nat),(∀x∈es,∃(k:Int) (b:Bool),x.key=Value.int .i64 k∧x.val=Value.bool b)→
  (Instr.findNow (.int .i64) (.int .i64 (i:Int)) es n=some none∧mapAt i es=false∧∀x∈es,x.key≠.int .i64 (i:Int))∨
  ∃p e,Instr.findNow (.int .i64) (.int .i64 (i:Int)) es n=some (some (n+p,.bool (mapAt i es)))∧es[p]? = some e∧e.key=.int .i64 (i:Int)∧(∀q f,q<p→es[q]? = some f→f.key≠.int .i64 (i:Int))
 | [],n,_=>.inl ⟨rfl,rfl,by simp⟩
 | e::es,n,h=>by
  obtain⟨k,b,h1,h2⟩:=h e (by simp)
  by_cases hk:k=(i:Int)
  ·subst hk
   refine .inr ⟨0,e,?_,rfl,h1,fun q f hq=>by omega⟩
   simp [Instr.findNow,Instr.sameNow,h1,mapAt,keyIs,h2,valOf]
  ·have hne:keyIs i e.key=false:=by rw [h1];simp [keyIs,hk]
   have hno:((i:Int) == k)=false:=by simp;exact fun x=>hk x.symm
   rcases zBQ (i:=i) (es:=es) (n+1) (fun x hx=>h x (by simp [hx]))with ⟨a1,a2,a3⟩|⟨p,f,a1,a2,a3,a4⟩
   ·refine .inl ⟨?_,?_,?_⟩
    ·rw [←a1]
     simp [Instr.findNow,Instr.sameNow,h1,hno]
    ·rw [mapAt,hne];simpa using a2
    ·intro x hx
     simp only [List.mem_cons]at hx
     rcases hx with rfl|hx
     ·rw [h1];simp [hk]
     ·exact a3 x hx
   ·refine .inr ⟨p+1,f,?_,by simpa using a2,a3,fun q g hq hg=>?_⟩
    ·have e1:n+(p+1)=n+1+p:=by omega
     have e2:mapAt i (e::es)=mapAt i es:=by rw [mapAt,hne];simp
     rw [e1,e2,←a1];simp [Instr.findNow,Instr.sameNow,h1,hno]
    ·cases q with
     | zero=>simp at hg;subst hg;rw [h1];simp [hk]
     | succ q=>exact a4 q g (by omega) (by simpa using hg)
theorem zBu {i:Nat} {f:MapEntry}:∀{es:List MapEntry},(∀x∈es,x.key≠.int .i64 (i:Int))→mapAt i (es++[f])=if keyIs i f.key=true then valOf f.val else false
 | [],_=>by simp [mapAt]
 | e::es,h=>by
  rw [List.cons_append,mapAt,if_neg (fun q=>h e (by simp) (zEa.1 q))]
  exact zBu fun x hx=>h x (by simp [hx])
theorem zAe {i:Nat} {f:MapEntry} (hf:keyIs i f.key=false):∀{es:List MapEntry},mapAt i (es++[f])=mapAt i es
 | []=>by simp [mapAt,hf]
 | e::es=>by
  rw [List.cons_append,mapAt,mapAt]
  split
  ·rfl
  ·exact zAe hf
theorem zAc {i:Nat} {k v:Value} (hk:keyIs i k=false):∀{es:List MapEntry} {p:Nat} {e:MapEntry},es[p]? = some e→keyIs i e.key=false→mapAt i (es.modify p fun x=>{ x with key:=k,val:=v })=mapAt i es
 | [],p,e,h,_=>by simp at h
 | f::es,0,e,h,he=>by
  simp at h;subst h
  simp [List.modify,mapAt,hk,he]
 | f::es,p+1,e,h,he=>by
  rw [List.modify_succ_cons,mapAt,mapAt]
  split
  ·rfl
  ·exact zAc hk (by simpa using h) he
theorem zAd {i:Nat} {k v:Value} (hk:keyIs i k=true):∀{es:List MapEntry} {p:Nat} {e:MapEntry},es[p]? = some e→(∀q f,q<p→es[q]? = some f→f.key≠.int .i64 (i:Int))→
  mapAt i (es.modify p fun x=>{ x with key:=k,val:=v })=valOf v
 | [],p,e,h,_=>by simp at h
 | f::es,0,e,h,he=>by
  simp [List.modify,mapAt,hk]
 | f::es,p+1,e,h,he=>by
  rw [List.modify_succ_cons,mapAt,if_neg (fun q=>he 0 f (by omega) rfl (zEa.1 q))]
  exact zAd hk (by simpa using h) fun q g hq hg=>he (q+1) g (by omega) (by simpa using hg)
theorem zFd (m:MR B w0 j h w) {t:TypeId} {N:Nat} {K:AV→AHeap→Prop} (hk:K (.mref h.next) (h.new ⟨true,List.replicate N (.bool false)⟩)):
  Ends P (do pure (.value (←Instr.makeMap t none))) w B w0 j h K:=by
 obtain⟨hm,hf⟩:=m.newMap N;refine⟨.mref h.next,_,_,.map (some w.heap.size),_,.inl ?_,hf,hm,⟨⟨w.heap.size,0,0,true⟩,by simp [Inj.put],rfl,rfl⟩,hk⟩
 simp [Instr.makeMap]
theorem zGk (m:MR B w0 j h w) {t:TypeId} (ht:isBM P t=true) {o:Nat} {i:Int} {x:Value} (hx:VI j (.mref o) x) (h0:0≤i) {v:AV} (hv:h.rd1 o i.toNat=some v) {K:AV→AHeap→Prop} (hk:K v h):
  Ends P (do pure (.value (←Instr.lookup t x (.int .i64 i) false))) w B w0 j h K:=by
 obtain⟨k,e,ti,h1,h2,h3,h4⟩:=zEb ht;obtain⟨l,hl,rfl,hmp⟩:=hx;unfold AHeap.rd1 at hv
 cases ho:h.obj o with
 | none=>simp [ho]at hv
 | some ob=>
  simp only [ho,Option.bind_some]at hv
  obtain⟨hrw,hB,es,clock,hrow,hma⟩:=m.maps o ob l ho hl hmp;have hc:=hma.cell _ v hv;obtain⟨q,rfl⟩:∃q:Nat,i=q:=⟨i.toNat,by omega⟩
  rw [Int.toNat_natCast]at hc
  subst hc;refine⟨.bool (mapAt q es.toList),h,j,.bool (mapAt q es.toList),w,.inl ?_,FR.refl _ _,m,rfl,hk⟩;have hkey:MapKept.IsKey (.int .i64) (.int .i64 (q:Int)):=by simp [MapKept.IsKey]
  have hz:(zeroValue e).run P w=.ok (.bool false) w:=by simp [zeroValue,typeInfo,h3,h4]
  rcases zBQ (i:=q) (es:=es.toList) 0 hma.ent with ⟨a1,a2,_⟩|⟨p,f,a1,_⟩
  ·simp [Instr.lookup,run_underlying h1,MapKept.run_getObj_map hrow,MapKept.run_checkKey h2 hkey,MapKept.run_findKey h2 a1,hz,a2]
  ·simp [Instr.lookup,run_underlying h1,MapKept.run_getObj_map hrow,MapKept.run_checkKey h2 hkey,MapKept.run_findKey h2 a1]
theorem zCh (m:MR B w0 j h w) {t:TypeId} (ht:isBM P t=true) {o:Nat} {i:Int} {b:Bool} {x:Value} (hx:VI j (.mref o) x) (h0:0≤i) {h':AHeap} (hw:h.wr o i.toNat [.bool b]=some h')
  {K:AV→AHeap→Prop} (hk:K .undef h'):Ends P (do Instr.mapUpdate t x (.int .i64 i) (.bool b);pure .skip) w B w0 j h K:=by
 obtain⟨k,e,ti,h1,h2,h3,h4⟩:=zEb ht;obtain⟨l,hl,rfl,hmp⟩:=hx;obtain⟨ob,ho,hrw,hlen,_,rfl⟩:=AHeap.wr_some hw;obtain⟨_,hB,es,clock,hrow,hma⟩:=m.maps o ob l ho hl hmp;obtain⟨q,rfl⟩:∃q:Nat,i=q:=⟨i.toNat,by omega⟩
 rw [Int.toNat_natCast]at hk hlen
 have hkey:MapKept.IsKey (.int .i64) (.int .i64 (q:Int)):=by simp [MapKept.IsKey]
 simp only [List.length_cons,List.length_nil,Nat.zero_add]at hlen hk
 have cells:∀(s:Nat) (v:AV),(ob.cells.take q++[AV.bool b]++ob.cells.drop (q+1))[s]? = some v→(s=q∧v=.bool b)∨(s≠q∧ob.cells[s]? = some v):=by
  intro s v hs;rcases Nat.lt_or_ge s q with y|y
  ·rw [List.append_assoc,List.getElem?_append_left (by simp;omega),List.getElem?_take,if_pos y]at hs
   exact .inr ⟨by omega,hs⟩
  ·rcases Nat.eq_or_lt_of_le y with rfl | z
   ·rw [List.append_assoc,List.getElem?_append_right (by simp;omega)]at hs
    have e0:q-(List.take q ob.cells).length=0:=by simp;omega
    rw [e0]at hs
    simp at hs
    exact .inl ⟨rfl,hs.symm⟩
   ·rw [List.getElem?_append_right (by simp;omega),List.getElem?_drop]at hs
    refine .inr ⟨by omega,?_⟩
    rw [←hs]
    congr 1
    simp
    omega
 rcases zBQ (i:=q) (es:=es.toList) 0 hma.ent with ⟨a1,a2,a3⟩|⟨p,f,a1,a2,a3,a4⟩
 ·have hma':MapAs (es.push { key:=.int .i64 (q:Int),val:=.bool b,born:=clock }).toList (ob.cells.take q++[AV.bool b]++ob.cells.drop (q+1)):=by
   rw [Array.toList_push];refine⟨fun x hx=>?_,fun s v hs=>?_⟩
   ·simp only [List.mem_append,List.mem_singleton]at hx
    rcases hx with hx|rfl
    ·exact hma.ent x hx
    ·exact⟨_,_,rfl,rfl⟩
   ·rcases cells s v hs with ⟨rfl,rfl⟩ | ⟨hne,hv⟩
    ·rw [zBu a3];simp [keyIs,valOf]
    ·rw [zAe (by simp [keyIs];omega)];exact hma.cell s v hv
  obtain⟨hm,hf⟩:=m.setMap (clock':=clock+1) ho hl hmp hrow hma';refine⟨.undef,_,j,undef,_,.inr ⟨?_,rfl⟩,hf,hm,trivial,hk⟩;simp [Instr.mapUpdate,run_underlying h1,MapKept.run_getObj_map hrow,MapKept.run_checkKey h2 hkey,MapKept.run_findKey h2 a1,MapKept.run_setObj_map _ hrow]
 ·have hma':MapAs (es.modify p fun x=>{ x with key:=.int .i64 (q:Int),val:=.bool b }).toList (ob.cells.take q++[AV.bool b]++ob.cells.drop (q+1)):=by
   rw [Array.toList_modify];refine⟨fun x hx=>?_,fun s v hs=>?_⟩
   ·obtain⟨n,hn⟩:=List.mem_iff_getElem?.1 hx
    rw [List.getElem?_modify]at hn
    simp only [Option.map_eq_map,Option.map_eq_some_iff]at hn
    obtain⟨y,hy,rfl⟩:=hn
    split
    ·exact⟨_,_,rfl,rfl⟩
    ·exact hma.ent y (List.mem_of_getElem? hy)
   ·rcases cells s v hs with ⟨rfl,rfl⟩ | ⟨hne,hv⟩
    ·rw [zAd (by simp [keyIs]) a2 a4];simp [valOf]
    ·rw [zAc (by simp [keyIs];omega) a2 (by rw [a3];simp [keyIs];omega)];exact hma.cell s v hv
  obtain⟨hm,hf⟩:=m.setMap (clock':=clock) ho hl hmp hrow hma';refine⟨.undef,_,j,undef,_,.inr ⟨?_,rfl⟩,hf,hm,trivial,hk⟩;have hj:es[0+p]? = some f:=by simpa using a2
  have hj':es[p]? = some f:=by simpa using a2
  simp [Instr.mapUpdate,run_underlying h1,MapKept.run_getObj_map hrow,MapKept.run_checkKey h2 hkey,MapKept.run_findKey h2 a1,hj',a3,MapKept.run_keyThatStays hkey,MapKept.run_setObj_map _ hrow]
theorem zEg:∀{vs:List AV} {cs:List Value} {s:List UInt8},VIs j vs cs→zAO vs=some s→∃ns:List Int,cs=ns.map (Value.int .u8)∧s=ns.map fun n=>UInt8.ofNat n.toNat
 | [],cs,s,hv,hs=>by
  cases hs;rw [show cs=[] from hv]
  exact⟨[],rfl,rfl⟩
 | v::vs,cs,s,hv,hs=>by
  obtain⟨c,r,rfl,h1,h2⟩:=hv;unfold zAO at hs
  split at hs
  ·rename_i heq
   cases heq
  ·rename_i n r' heq
   cases heq;obtain⟨t,ht,rfl⟩:=Option.map_eq_some_iff.1 hs;obtain⟨ns,rfl,rfl⟩:=zEg h2 ht;exact⟨n::ns,by rw [show c=.int .u8 n from h1];rfl,rfl⟩
  ·cases hs
theorem zDl:∀(ns:List Int) (s:ByteArray),ns.foldl (fun r n=>r.push (UInt8.ofNat n.toNat)) s=⟨(s.data.toList++ns.map fun n=>UInt8.ofNat n.toNat).toArray⟩
 | [],s=>by simp
 | n::ns,s=>by
  rw [List.foldl_cons,zDl ns];simp [ByteArray.push]
theorem zHX (m:MR B w0 j h w) {src dst et:TypeId} (hs:P.underlying src=some (.slice et)) (he:P.underlying et=some (.int .u8)) (hd:P.underlying dst=some .string) {x:AV} {c:Value} (hx:VI j x c) {s:List UInt8}
  (hv:((alen x).bind fun n=>(QP 1 h x n).bind zAO)=some s) {K:AV→AHeap→Prop} (hk:K (.str s) h):Ends P (do pure (.value (←convert src dst c))) w B w0 j h K:=by
 simp only [Option.bind_eq_some_iff]at hv
 obtain⟨n,hn,cs,hf,hb⟩:=hv;obtain⟨o,cp,rfl,_⟩:=Q3 hx hn;refine⟨.str s,h,j,.string ⟨s.toArray⟩,w,.inl ?_,FR.refl _ _,m,rfl,hk⟩;have key:(Conv.bytesToString (.slice o n cp)).run P w=.ok (.string ⟨s.toArray⟩) w:=by
  by_cases h0:n=0
  ·subst h0
   have:s=[]:=by
    unfold QP at hf
    rw [if_pos rfl]at hf
    cases hf;cases hb;rfl
   subst this;cases o with
   | none=>rfl
   | some a=>
    have h1:(loadCells a 0).run P w=.ok (([]:List Int).map (Value.int .u8)).toArray w:=by simp [loadCells,loadCellsFrom]
    rw [run_bytesToString (P:=P) w a 0 cp [] h1]
    rfl
  ·obtain⟨ad,len',cp',nc,hcx,hle,hvs,hnl,hone,hcells⟩:=zAN m hx h0 hf
   cases hcx;obtain⟨ns,rfl,rfl⟩:=zEg hvs hb;have h1:(loadCells ad n).run P w=.ok (ns.map (Value.int .u8)).toArray w:=by
    have:=run_loadCells_list (P:=P) w ad (ns.map (Value.int .u8)) hcells
    rw [hnl,Nat.mul_one]at this
    exact this
   rw [run_bytesToString (P:=P) w ad n cp ns h1,zDl]
   simp
 rw [Sem.run_bind,run_convert_bytes_string (P:=P) w src dst et o n cp hs he hd,key]
 rfl
end Go.Ab
