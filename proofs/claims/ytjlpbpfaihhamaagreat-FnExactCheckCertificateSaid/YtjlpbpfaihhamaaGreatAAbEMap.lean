/- . -/
import Derived.Test.YtjlpbpfaihhamaaGreatAAbEff
import Derived.MapKept
import Derived.Laws.BytesString
set_option linter.unusedSimpArgs false
set_option linter.unusedVariables false
namespace Go.Ab
open Go.RowKit
variable{P:Program}{B:Nat}{w0 w:World}{j:Inj}{h:AHeap}
theorem zFA{t:TypeId}(ht:isBM P t=true):∃k v i,P.underlying t=some (.map k v)∧P.underlying k=some (.int .i64)∧P.info? v=some i∧i.zero=some (.bool false):=by
 unfold isBM at ht
 split at ht
 ·rename_i k v hm
  simp only[Bool.and_eq_true]at ht
  obtain⟨h1,h2⟩:=ht
  split at h1
  ·rename_i hk
   split at h2
   ·rename_i i hi
    split at h2
    ·rename_i hz;exact⟨k,v,i,hm,hk,hi,hz⟩
    ·cases h2
   ·cases h2
  ·cases h1
 ·cases ht
theorem MapAs.empty(N:Nat):MapAs [] (List.replicate N (.bool false)):=
 ⟨fun e he=>by simp at he,fun i v hv=>by
  rw[List.getElem?_replicate]at hv
  split at hv
  ·cases hv;rfl
  ·cases hv⟩
theorem MR.newMap(m:MR B w0 j h w)(N:Nat):
  MR B w0 (j.put h.next ⟨w.heap.size,0,0,true⟩) (h.new ⟨true,List.replicate N (.bool false)⟩) (w.alloc (.map #[] 0))∧FR j h (j.put h.next ⟨w.heap.size,0,0,true⟩) (h.new ⟨true,List.replicate N (.bool false)⟩):=by
 have hle:=m.put_le ⟨w.heap.size,0,0,true⟩;refine⟨⟨m.below.alloc m.bnd _,by simp;have:=m.bnd;omega,?_,?_,?_,?_⟩,?_⟩
 ·intro o ho
  simp only[AHeap.new]at ho
  simp only[AHeap.new,Inj.put,if_neg (show ¬o=h.next by omega)]
  exact m.fresh o (by omega)
 ·intro o ob l ho hl hp
  by_cases e:o=h.next
  ·subst e
   simp only[Inj.put,if_true,Option.some.injEq]at hl
   subst hl;cases hp
  ·simp only[AHeap.new,if_neg e]at ho
   simp only[Inj.put,if_neg e]at hl
   exact(m.obj o ob l ho hl hp).alloc _ hle
 ·intro o ob l ho hl hp
  by_cases e:o=h.next
  ·subst e
   simp only[AHeap.new,if_true,Option.some.injEq]at ho
   simp only[Inj.put,if_true,Option.some.injEq]at hl
   subst ho;subst hl;exact⟨rfl,m.bnd,#[],0,heap_alloc_new w _,MapAs.empty N⟩
  ·simp only[AHeap.new,if_neg e]at ho
   simp only[Inj.put,if_neg e]at hl
   exact(m.maps o ob l ho hl hp).alloc _
 ·intro o o' ob fm l l' aC ho cR hl aY dB
  have old:∀{p:Nat} {ob:AObj} {l:Loc},h.obj p=some ob->j p=some l->l.blk<w.heap.size:=by
   intro p ob l a b;exact m.row_lt a b
  by_cases e:o=h.next
  ·have e':o'≠h.next:=fun x=>aC (e.trans x.symm)
   subst e;simp only[Inj.put,if_true,Option.some.injEq]at hl
   simp only[Inj.put,if_neg e']at aY
   simp only[AHeap.new,if_neg e']at cR
   have:=old cR aY
   subst hl;show w.heap.size≠_;omega
  ·simp only[AHeap.new,if_neg e]at ho
   simp only[Inj.put,if_neg e]at hl
   by_cases e':o'=h.next
   ·subst e'
    simp only[Inj.put,if_true,Option.some.injEq]at aY
    have:=old ho hl
    subst aY;show _≠w.heap.size;omega
   ·simp only[AHeap.new,if_neg e']at cR
    simp only[Inj.put,if_neg e']at aY
    exact m.apart o o' ob fm l l' aC ho cR hl aY dB
 ·refine⟨by simp[AHeap.new],fun o ho=>?_,fun o ho _=>?_⟩
  ·simp[Inj.put,Nat.ne_of_lt ho]
  ·simp[AHeap.new,Nat.ne_of_lt ho]
theorem MR.setMap(m:MR B w0 j h w){o:Nat}{ob:AObj}{l:Loc}{cells:List AV}{rh:Array MapEntry}{clock':Nat}{es:Array MapEntry}{clock:Nat}(ho:h.obj o=some ob)(hl:j o=some l)(bj:l.mp=true)
  (aK:w.heap[l.blk]? = some (.map es clock)) (hc:MapAs rh.toList cells):
  MR B w0 j (h.set o cells) { w with heap:=w.heap.setIfInBounds l.blk (.map rh clock') }∧FR j h j (h.set o cells):=by
 obtain⟨dB,hB,_⟩:=m.maps o ob l ho hl bj;obtain⟨gR,bX⟩:=MapKept.heap_set (o':=.map rh clock') aK;have eu:(w.heap.setIfInBounds l.blk (.map rh clock')).size=w.heap.size:=by simp
 refine⟨⟨m.below.trans ⟨rfl,rfl,rfl,by rw[eu];exact Nat.le_refl _,fun k hk=>bX k (by omega)⟩,by show B<=(w.heap.setIfInBounds l.blk (.map rh clock')).size;rw[eu];exact m.bnd,?_,?_,?_,?_⟩,?_⟩
 ·intro p hp
  have:=m.lt hl
  simp only[AHeap.set]at hp ⊢
  rw[if_neg (by omega)]
  exact m.fresh p hp
 ·intro p jr lp hp ec kB
  by_cases e:p=o
  ·subst e
   rw[hl]at ec
   cases ec;rw[bj]at kB;cases kB
  ·simp only[AHeap.set,if_neg e]at hp
   have hk:=m.obj p jr lp hp ec kB;refine⟨hk.one,?_⟩;obtain⟨c,t,f,x,y⟩:=hk.row;have aC:lp.blk≠l.blk:=fun e'=>m.apart o p ob jr l lp (fun x=>e x.symm) ho hp hl ec dB e'.symm
   exact⟨c,t,f,by rw[bX _ aC];exact x,y⟩
 ·intro p jr lp hp ec kB
  by_cases e:p=o
  ·subst e
   simp only[AHeap.set,if_true,Option.some.injEq]at hp
   rw[hl]at ec
   cases ec;subst hp;exact⟨rfl,hB,rh,clock',gR,hc⟩
  ·simp only[AHeap.set,if_neg e]at hp
   have hk:=m.maps p jr lp hp ec kB;obtain⟨Ef,pf,x,y⟩:=hk.row;have aC:lp.blk≠l.blk:=fun e'=>m.apart o p ob jr l lp (fun x=>e x.symm) ho hp hl ec dB e'.symm
   exact⟨hk.rw,hk.ge,Ef,pf,by rw[bX _ aC];exact x,y⟩
 ·intro p p' jr vY lp wH aC hp eN ec ov nO
  have conv:∀{q:Nat} {gM:AObj},(h.set o cells).obj q=some gM->∃fm,h.obj q=some fm∧(gM.rw=true->fm.rw=true):=by
   intro q gM hq
   by_cases e:q=o
   ·subst e;exact⟨ob,ho,fun _=>dB⟩
   ·simp only[AHeap.set,if_neg e]at hq;exact⟨gM,hq,id⟩
  obtain⟨a,ha,yE⟩:=conv hp;obtain⟨b,hb,_⟩:=conv eN;exact m.apart p p' a b lp wH aC ha hb ec ov (yE nO)
 ·refine⟨Nat.le_refl _,fun _ _=>rfl,fun p _ hn=>?_⟩
  simp only[AHeap.set];rw[if_neg (fun e=>by subst e;rw[hl]at hn;cases hn)]
theorem zE9{i:Nat}{v:Value}:keyIs i v=true↔v=.int .i64 (i:Int):=by
 cases v<;>simp[keyIs]
 rename_i k n
 cases k<;>simp[keyIs]
theorem zBh{i:Nat}:∀{es:List MapEntry} (n:Nat),(∀x∈es,∃(k:Int) (b:Bool),x.key=Value.int .i64 k∧x.val=Value.bool b)->
  (Instr.findNow (.int .i64) (.int .i64 (i:Int)) es n=some none∧mapAt i es=false∧∀x∈es,x.key≠.int .i64 (i:Int))∨
  ∃p e,Instr.findNow (.int .i64) (.int .i64 (i:Int)) es n=some (some (n+p,.bool (mapAt i es)))∧es[p]? = some e∧e.key=.int .i64 (i:Int)∧(∀q f,q<p->es[q]? = some f->f.key≠.int .i64 (i:Int))
 |[],n,_=>.inl ⟨rfl,rfl,by simp⟩
 |e::es,n,h=>by
  obtain⟨k,b,h1,h2⟩:=h e (by simp)
  by_cases hk:k=(i:Int)
  ·subst hk
   refine .inr ⟨0,e,?_,rfl,h1,fun q f hq=>by omega⟩
   simp[Instr.findNow,Instr.sameNow,h1,mapAt,keyIs,h2,valOf]
  ·have aC:keyIs i e.key=false:=by rw[h1];simp[keyIs,hk]
   have lF:((i:Int) == k)=false:=by simp;exact fun x=>hk x.symm
   rcases zBh (i:=i) (es:=es) (n+1) (fun x hx=>h x (by simp[hx]))with ⟨a1,a2,a3⟩|⟨p,f,a1,a2,a3,a4⟩
   ·refine .inl ⟨?_,?_,?_⟩
    ·rw[<-a1]
     simp[Instr.findNow,Instr.sameNow,h1,lF]
    ·rw[mapAt,aC];simpa using a2
    ·intro x hx
     simp only[List.mem_cons]at hx
     rcases hx with rfl|hx
     ·rw[h1];simp[hk]
     ·exact a3 x hx
   ·refine .inr ⟨p+1,f,?_,by simpa using a2,a3,fun q g hq hg=>?_⟩
    ·have e1:n+(p+1)=n+1+p:=by omega
     have e2:mapAt i (e::es)=mapAt i es:=by rw[mapAt,aC];simp
     rw[e1,e2,<-a1];simp[Instr.findNow,Instr.sameNow,h1,lF]
    ·cases q with
     |zero=>simp at hg;subst hg;rw[h1];simp[hk]
     |succ q=>exact a4 q g (by omega) (by simpa using hg)
theorem zCI{i:Nat}{f:MapEntry}:∀{es:List MapEntry},(∀x∈es,x.key≠.int .i64 (i:Int))->mapAt i (es++[f])=if keyIs i f.key=true then valOf f.val else false
 |[],_=>by simp[mapAt]
 |e::es,h=>by
  rw[List.cons_append,mapAt,if_neg (fun q=>h e (by simp) (zE9.1 q))]
  exact zCI fun x hx=>h x (by simp[hx])
theorem zAp{i:Nat}{f:MapEntry}(hf:keyIs i f.key=false):∀{es:List MapEntry},mapAt i (es++[f])=mapAt i es
 |[]=>by simp[mapAt,hf]
 |e::es=>by
  rw[List.cons_append,mapAt,mapAt]
  split
  ·rfl
  ·exact zAp hf
theorem zAn{i:Nat}{k v:Value}(hk:keyIs i k=false):∀{es:List MapEntry} {p:Nat} {e:MapEntry},es[p]? = some e->keyIs i e.key=false->mapAt i (es.modify p fun x=>{ x with key:=k,val:=v })=mapAt i es
 |[],p,e,h,_=>by simp at h
 |f::es,0,e,h,he=>by
  simp at h;subst h
  simp[List.modify,mapAt,hk,he]
 |f::es,p+1,e,h,he=>by
  rw[List.modify_succ_cons,mapAt,mapAt]
  split
  ·rfl
  ·exact zAn hk (by simpa using h) he
theorem zAo{i:Nat}{k v:Value}(hk:keyIs i k=true):∀{es:List MapEntry} {p:Nat} {e:MapEntry},es[p]? = some e->(∀q f,q<p->es[q]? = some f->f.key≠.int .i64 (i:Int))->
  mapAt i (es.modify p fun x=>{ x with key:=k,val:=v })=valOf v
 |[],p,e,h,_=>by simp at h
 |f::es,0,e,h,he=>by
  simp[List.modify,mapAt,hk]
 |f::es,p+1,e,h,he=>by
  rw[List.modify_succ_cons,mapAt,if_neg (fun q=>he 0 f (by omega) rfl (zE9.1 q))]
  exact zAo hk (by simpa using h) fun q g hq hg=>he (q+1) g (by omega) (by simpa using hg)
theorem zGH(m:MR B w0 j h w){t:TypeId}{N:Nat}{K:AV->AHeap->Prop}(hk:K (.mref h.next) (h.new ⟨true,List.replicate N (.bool false)⟩)):
  Ends P (do pure (.value (<-Instr.makeMap t none))) w B w0 j h K:=by
 obtain⟨hm,hf⟩:=m.newMap N;refine⟨.mref h.next,_,_,.map (some w.heap.size),_,.inl ?_,hf,hm,⟨⟨w.heap.size,0,0,true⟩,by simp[Inj.put],rfl,rfl⟩,hk⟩
 simp[Instr.makeMap]
theorem zHX(m:MR B w0 j h w){t:TypeId}(ht:isBM P t=true){o:Nat}{i:Int}{x:Value}(hx:VI j (.mref o) x)(h0:0<=i){v:AV}(hv:h.rd1 o i.toNat=some v){K:AV->AHeap->Prop}(hk:K v h):
  Ends P (do pure (.value (<-Instr.lookup t x (.int .i64 i) false))) w B w0 j h K:=by
 obtain⟨k,e,ti,h1,h2,h3,h4⟩:=zFA ht;obtain⟨l,hl,rfl,bj⟩:=hx;unfold AHeap.rd1 at hv
 cases ho:h.obj o with
 |none=>simp[ho]at hv
 |some ob=>
  simp only[ho,Option.bind_some]at hv
  obtain⟨dB,hB,es,clock,aK,mQ⟩:=m.maps o ob l ho hl bj;have hc:=mQ.cell _ v hv;obtain⟨q,rfl⟩:∃q:Nat,i=q:=⟨i.toNat,by omega⟩
  rw[Int.toNat_natCast]at hc
  subst hc;refine⟨.bool (mapAt q es.toList),h,j,.bool (mapAt q es.toList),w,.inl ?_,FR.refl _ _,m,rfl,hk⟩;have jB:MapKept.IsKey (.int .i64) (.int .i64 (q:Int)):=by simp[MapKept.IsKey]
  have hz:(zeroValue e).run P w=.ok (.bool false) w:=by simp[zeroValue,typeInfo,h3,h4]
  rcases zBh (i:=q) (es:=es.toList) 0 mQ.ent with ⟨a1,a2,_⟩|⟨p,f,a1,_⟩
  ·simp[Instr.lookup,run_underlying h1,MapKept.run_getObj_map aK,MapKept.run_checkKey h2 jB,MapKept.run_findKey h2 a1,hz,a2]
  ·simp[Instr.lookup,run_underlying h1,MapKept.run_getObj_map aK,MapKept.run_checkKey h2 jB,MapKept.run_findKey h2 a1]
theorem zDB(m:MR B w0 j h w){t:TypeId}(ht:isBM P t=true){o:Nat}{i:Int}{b:Bool}{x:Value}(hx:VI j (.mref o) x)(h0:0<=i){h':AHeap}(hw:h.wr o i.toNat [.bool b]=some h')
  {K:AV->AHeap->Prop} (hk:K .undef h'):Ends P (do Instr.mapUpdate t x (.int .i64 i) (.bool b);pure .skip) w B w0 j h K:=by
 obtain⟨k,e,ti,h1,h2,h3,h4⟩:=zFA ht;obtain⟨l,hl,rfl,bj⟩:=hx;obtain⟨ob,ho,dB,hlen,_,rfl⟩:=AHeap.wr_some hw;obtain⟨_,hB,es,clock,aK,mQ⟩:=m.maps o ob l ho hl bj;obtain⟨q,rfl⟩:∃q:Nat,i=q:=⟨i.toNat,by omega⟩
 rw[Int.toNat_natCast]at hk hlen
 have jB:MapKept.IsKey (.int .i64) (.int .i64 (q:Int)):=by simp[MapKept.IsKey]
 simp only[List.length_cons,List.length_nil,Nat.zero_add]at hlen hk
 have cells:∀(s:Nat) (v:AV),(ob.cells.take q++[AV.bool b]++ob.cells.drop (q+1))[s]? = some v->(s=q∧v=.bool b)∨(s≠q∧ob.cells[s]? = some v):=by
  intro s v hs;rcases Nat.lt_or_ge s q with y|y
  ·rw[List.append_assoc,List.getElem?_append_left (by simp;omega),List.getElem?_take,if_pos y]at hs
   exact .inr ⟨by omega,hs⟩
  ·rcases Nat.eq_or_lt_of_le y with rfl|z
   ·rw[List.append_assoc,List.getElem?_append_right (by simp;omega)]at hs
    have e0:q-(List.take q ob.cells).length=0:=by simp;omega
    rw[e0]at hs
    simp at hs
    exact .inl ⟨rfl,hs.symm⟩
   ·rw[List.getElem?_append_right (by simp;omega),List.getElem?_drop]at hs
    refine .inr ⟨by omega,?_⟩
    rw[<-hs]
    congr 1
    simp
    omega
 rcases zBh (i:=q) (es:=es.toList) 0 mQ.ent with ⟨a1,a2,a3⟩|⟨p,f,a1,a2,a3,a4⟩
 ·have n9:MapAs (es.push { key:=.int .i64 (q:Int),val:=.bool b,born:=clock }).toList (ob.cells.take q++[AV.bool b]++ob.cells.drop (q+1)):=by
   rw[Array.toList_push];refine⟨fun x hx=>?_,fun s v hs=>?_⟩
   ·simp only[List.mem_append,List.mem_singleton]at hx
    rcases hx with hx|rfl
    ·exact mQ.ent x hx
    ·exact⟨_,_,rfl,rfl⟩
   ·rcases cells s v hs with ⟨rfl,rfl⟩|⟨aC,hv⟩
    ·rw[zCI a3];simp[keyIs,valOf]
    ·rw[zAp (by simp[keyIs];omega)];exact mQ.cell s v hv
  obtain⟨hm,hf⟩:=m.setMap (clock':=clock+1) ho hl bj aK n9;refine⟨.undef,_,j,undef,_,.inr ⟨?_,rfl⟩,hf,hm,trivial,hk⟩;simp[Instr.mapUpdate,run_underlying h1,MapKept.run_getObj_map aK,MapKept.run_checkKey h2 jB,MapKept.run_findKey h2 a1,MapKept.run_setObj_map _ aK]
 ·have n9:MapAs (es.modify p fun x=>{ x with key:=.int .i64 (q:Int),val:=.bool b }).toList (ob.cells.take q++[AV.bool b]++ob.cells.drop (q+1)):=by
   rw[Array.toList_modify];refine⟨fun x hx=>?_,fun s v hs=>?_⟩
   ·obtain⟨n,hn⟩:=List.mem_iff_getElem?.1 hx
    rw[List.getElem?_modify]at hn
    simp only[Option.map_eq_map,Option.map_eq_some_iff]at hn
    obtain⟨y,hy,rfl⟩:=hn
    split
    ·exact⟨_,_,rfl,rfl⟩
    ·exact mQ.ent y (List.mem_of_getElem? hy)
   ·rcases cells s v hs with ⟨rfl,rfl⟩|⟨aC,hv⟩
    ·rw[zAo (by simp[keyIs]) a2 a4];simp[valOf]
    ·rw[zAn (by simp[keyIs];omega) a2 (by rw[a3];simp[keyIs];omega)];exact mQ.cell s v hv
  obtain⟨hm,hf⟩:=m.setMap (clock':=clock) ho hl bj aK n9;refine⟨.undef,_,j,undef,_,.inr ⟨?_,rfl⟩,hf,hm,trivial,hk⟩;have hj:es[0+p]? = some f:=by simpa using a2
  have uI:es[p]? = some f:=by simpa using a2
  simp[Instr.mapUpdate,run_underlying h1,MapKept.run_getObj_map aK,MapKept.run_checkKey h2 jB,MapKept.run_findKey h2 a1,uI,a3,MapKept.run_keyThatStays jB,MapKept.run_setObj_map _ aK]
theorem zFD:∀{vs:List AV} {cs:List Value} {s:List UInt8},VIs j vs cs->zAe vs=some s->∃ns:List Int,cs=ns.map (Value.int .u8)∧s=ns.map fun n=>UInt8.ofNat n.toNat
 |[],cs,s,hv,hs=>by
  cases hs;rw[show cs=[] from hv]
  exact⟨[],rfl,rfl⟩
 |v::vs,cs,s,hv,hs=>by
  obtain⟨c,r,rfl,h1,h2⟩:=hv;unfold zAe at hs
  split at hs
  ·rename_i heq
   cases heq
  ·rename_i n r' heq
   cases heq;obtain⟨t,ht,rfl⟩:=Option.map_eq_some_iff.1 hs;obtain⟨ns,rfl,rfl⟩:=zFD h2 ht;exact⟨n::ns,by rw[show c=.int .u8 n from h1];rfl,rfl⟩
  ·cases hs
theorem zEP:∀(ns:List Int) (s:ByteArray),ns.foldl (fun r n=>r.push (UInt8.ofNat n.toNat)) s=⟨(s.data.toList++ns.map fun n=>UInt8.ofNat n.toNat).toArray⟩
 |[],s=>by simp
 |n::ns,s=>by
  rw[List.foldl_cons,zEP ns];simp[ByteArray.push]
theorem zIN(m:MR B w0 j h w){src dst et:TypeId}(hs:P.underlying src=some (.slice et))(he:P.underlying et=some (.int .u8))(hd:P.underlying dst=some .string){x:AV}{c:Value}(hx:VI j x c){s:List UInt8}
  (hv:((alen x).bind fun n=>(QS 1 h x n).bind zAe)=some s) {K:AV->AHeap->Prop} (hk:K (.str s) h):Ends P (do pure (.value (<-convert src dst c))) w B w0 j h K:=by
 simp only[Option.bind_eq_some_iff]at hv
 obtain⟨n,hn,cs,hf,hb⟩:=hv;obtain⟨o,cp,rfl,_⟩:=Q6 hx hn;refine⟨.str s,h,j,.string ⟨s.toArray⟩,w,.inl ?_,FR.refl _ _,m,rfl,hk⟩;have key:(Conv.bytesToString (.slice o n cp)).run P w=.ok (.string ⟨s.toArray⟩) w:=by
  by_cases h0:n=0
  ·subst h0
   have:s=[]:=by
    unfold QS at hf
    rw[if_pos rfl]at hf
    cases hf;cases hb;rfl
   subst this;cases o with
   |none=>rfl
   |some a=>
    have h1:(loadCells a 0).run P w=.ok (([]:List Int).map (Value.int .u8)).toArray w:=by simp[loadCells,loadCellsFrom]
    rw[run_bytesToString (P:=P) w a 0 cp [] h1]
    rfl
  ·obtain⟨ad,jt,zj,nc,oQ,hle,dX,fI,aS,cQ⟩:=zAd m hx h0 hf
   cases oQ;obtain⟨ns,rfl,rfl⟩:=zFD dX hb;have h1:(loadCells ad n).run P w=.ok (ns.map (Value.int .u8)).toArray w:=by
    have:=run_loadCells_list (P:=P) w ad (ns.map (Value.int .u8)) cQ
    rw[fI,Nat.mul_one]at this
    exact this
   rw[run_bytesToString (P:=P) w ad n cp ns h1,zEP]
   simp
 rw[Sem.run_bind,run_convert_bytes_string (P:=P) w src dst et o n cp hs he hd,key]
 rfl
end Go.Ab
