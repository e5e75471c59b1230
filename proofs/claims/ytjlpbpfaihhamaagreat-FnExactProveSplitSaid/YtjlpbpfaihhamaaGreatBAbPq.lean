/- ROWS IN SLOTS OF THEIR OWN: they are frozen at a function's end, all new. -/
import Derived.Test.YtjlpbpfaihhamaaGreatBAbPz
import Derived.Test.YtjlpbpfaihhamaaGreatBAbPn
set_option linter.unusedVariables false
set_option linter.unusedSimpArgs false
namespace Go.Ab
variable {σ0 σ1:PHeap} {K:PV→PHeap→Prop} {n lo hi:Nat}
theorem Gh.freezeH {v:PV} {s:Nat} {cs:List PV} (hs:σ1.obj s=some cs) (h0:σ0.next≤s) (hb:Bels 0 cs)
  (k:∀o,σ0.top≤o→(∀t ds,σ1.obj t=some ds→o∉ZQ ds)→o∉addrs v→Gh σ0 K (sb s o cs v) (((σ1.kill s).sub s o cs).up (max σ1.top (o+1)))):Gh σ0 K v σ1:=by
 intro w ι Z h b r hv h1 h2 h3 h4;obtain⟨r',hc0,ho,hz⟩:=r.freeze hs hb;have hbs:=h3 s cs h0 hs;have hz1:∀o,Z o→(Z o∨o=ι s)∧h.obj o=h.obj o:=fun o ho=>⟨.inl ho,rfl⟩
 have r3:=r'.sub (s:=s) rfl (.inr rfl) ho (hc0.mono hz1 (Nat.le_refl _));have conv:∀{t:Nat} {a:List PV},((σ1.kill s).sub s (ι s) cs).obj t=some a→∃b,σ1.obj t=some b:=fun {t a} ht=>by
  simp only [PHeap.sub,PHeap.kill,Option.map_eq_some_iff]at ht
  obtain⟨b,hb,_⟩:=ht
  split at hb
  ·cases hb
  ·exact⟨b,hb⟩
 obtain⟨v2,σ2,ι2,Z2,g1,g2,g3,g4,g5,g6,g7,g8,g9⟩:=k (ι s) (by omega) (fun t ds ht hm=>hz (QK (r.obj t ds ht).2.1 _ hm)) (fun hm=>hz (zGW hv _ hm)) w ι (fun o=>Z o∨o=ι s) h b r3
  (VOK.sb (.inr rfl) ho (hc0.mono hz1 (Nat.le_refl _)) (hv.mono hz1 (Nat.le_refl _))) h1 h2 (fun t ds ht hd=>by obtain⟨b,hb⟩:=conv hd;exact h3 t b ht hb)
  (fun t ht hd=>by
   have:=h4 t ht hd
   simp only [PHeap.sub,PHeap.kill,PHeap.up]
   split
   ·rfl
   ·rw [this];rfl)
 exact⟨v2,σ2,ι2,Z2,g1,g2,g3,g4,fun o ho=>g5 o (.inl ho),g6,g7,g8.trans (er_sb rfl v),g9⟩
end Go.Ab
