/- A STRUCT WHOSE LAST CELL IS A RESULT: what holds of the cell holds of the struct. -/
import Derived.Test.YtjlpbpfaihhamaaGreatBAbPq
set_option linter.unusedVariables false
set_option linter.unusedSimpArgs false
namespace Go.Ab
variable {σ0 σ1:PHeap} {K:PV→PHeap→Prop} {p d:Int}
theorem PAcc.setX {b e n s:Nat} {h:PHeap} {v:PV} {cs ds:List PV} (a:PAcc b e h v n cs) (hs:s<b):PAcc b e (h.set s ds) v n cs:=by
 rcases a with a|⟨t,cap,rfl,h1,h2,h3,h4,h5⟩
 ·exact .inl a
 ·exact .inr ⟨t,cap,rfl,h1,by rw [zn,if_neg (by omega)];exact h2,h3,h4,h5⟩
theorem zQ9 {h h':PHeap} {s i:Nat} {vs:List PV} (hw:h.wr s i vs=some h'):h'.top=h.top:=by
 unfold PHeap.wr at hw
 cases ho:h.obj s with
 | none=>rw [ho]at hw;cases hw
 | some cs=>
  rw [ho]at hw
  simp only [Option.bind_some]at hw
  split at hw
  ·cases hw;rfl
  ·cases hw
theorem zMJ {e b m:Nat} {h:PHeap} {v:PV} {news:List PV} {q:PV×PHeap} (hq:pgrow e b h v news m=some q):q.2.top=h.top:=by
 unfold pgrow at hq
 split at hq
 ·split at hq
  ·cases hq;rfl
  ·cases hq
 ·split at hq
  ·cases hq;rfl
  ·cases hq
 ·split at hq
  ·simp only [Option.map_eq_some_iff]at hq
   obtain⟨h2,h3,rfl⟩:=hq;exact zQ9 h3
  ·split at hq
   ·simp only [Option.map_eq_some_iff]at hq
    obtain⟨h2,h3,rfl⟩:=hq
    rfl
   ·cases hq
 ·split at hq
  ·simp only [Option.bind_eq_some_iff]at hq
   obtain⟨cs,h2,h3⟩:=hq
   split at h3
   ·cases h3;rfl
   ·cases h3
  ·cases hq
 ·cases hq
theorem zJS {e b:Nat} {h:PHeap} {v x:PV} {q:PV×PHeap} (hq:qo e b h v x=some q):q.2.top=h.top:=by
 unfold qo at hq
 simp only [Option.bind_eq_some_iff]at hq
 obtain⟨m,h1,h2⟩:=hq
 split at h2
 ·simp only [Option.map_eq_some_iff]at h2
  obtain⟨v',h3,rfl⟩:=h2
  rfl
 ·simp only [Option.bind_eq_some_iff]at h2
  obtain⟨news,h3,h4⟩:=h2;exact zMJ h4
theorem zAU {e b:Nat} {h:PHeap} {v x:PV} {K:PV×PHeap→Prop} (c:optK (qo e b h v x) fun q=>q.2.top=h.top→K q):optK (qo e b h v x) K:=by
 obtain⟨q,hq,k⟩:=c;exact⟨q,hq,k (zJS hq)⟩
end Go.Ab
