/- The walk that looks only at what comes next. -/
import Derived.Test.YtkhbdmlhjnijaaaBAbAid
set_option linter.unusedVariables false
namespace Go.Ab
def nm {α:Type} (a:α):α:=a
theorem nm_eq {α:Type} (a:α):nm a=a:=Eq.trans rfl rfl
section
variable {P:Program}
@[congr] theorem cg_vc {c:IC} {Q:Exit→Env→AHeap→Prop} {e e':Env} {h h':AHeap} (h1:nm e=e') (h2:h=h'):vc P c Q e h=vc P c Q e' h':=by rw [nm_eq]at h1;rw [h1,h2]
@[congr] theorem cg_TV {t:OT} {K:Env→AHeap→Prop} {e e':Env} {h h':AHeap} (h1:nm e=e') (h2:h=h'):TV P t e h K=TV P t e' h' K:=by rw [nm_eq]at h1;rw [h1,h2]
@[congr] theorem cg_RV {its:List II} {K:Env→AHeap→Prop} {e e':Env} {h h':AHeap} (h1:nm e=e') (h2:h=h'):RV P its e h K=RV P its e' h' K:=by rw [nm_eq]at h1;rw [h1,h2]
@[congr] theorem cg_DV {nb nb':Nat} {its:List DI} {recs recs':List Rec} {K:Env→AHeap→Prop} {e e':Env} {h h':AHeap} (h0:nm nb=nb') (h1:recs=recs') (h2:e=e') (h3:h=h'):DV P nb its recs e h K=DV P nb' its recs' e' h' K:=by rw [nm_eq]at h0;rw [h0,h1,h2,h3]
@[congr] theorem cg_ge {it:II} {K:AV→AHeap→Prop} {e e':Env} {h h':AHeap} (h1:nm e=e') (h2:h=h'):ge P it e h K=ge P it e' h' K:=by rw [nm_eq]at h1;rw [h1,h2]
@[congr] theorem zMJ {op:IOp} {K:AV→AHeap→Prop} {e e':Env} {h h':AHeap} (h1:nm e=e') (h2:h=h'):eff P op e h K=eff P op e' h' K:=by rw [nm_eq]at h1;rw [h1,h2]
@[congr] theorem zMB {f:FuncId} {K:AV→AHeap→Prop} {args args':List AV} {h h':AHeap} (h1:nm args=args') (h2:h=h'):qU P f args h K=qU P f args' h' K:=by rw [nm_eq]at h1;rw [h1,h2]
@[congr] theorem zMG {α:Type} {o o':Option α} {K:α→Prop} (h1:nm o=o'):optK o K=optK o' K:=by rw [nm_eq]at h1;rw [h1]
@[congr] theorem zL8 {n:Nat} {K:AV→AHeap→Prop} {x x' v v':AV} {h h':AHeap} (h0:nm x=x') (h1:v=v') (h2:h=h'):zDN n x v h K=zDN n x' v' h' K:=by rw [nm_eq]at h0;rw [h0,h1,h2]
@[congr] theorem zME {sz b:Nat} {z:List AV} {K:AV→AHeap→Prop} {x x' v v':AV} {h h':AHeap} (h0:nm x=x') (h1:v=v') (h2:h=h'):aMake sz b z x v h K=aMake sz b z x' v' h' K:=by rw [nm_eq]at h0;rw [h0,h1,h2]
@[congr] theorem zL9 {K:AV→AHeap→Prop} {f f':AV} {args args':List AV} {h h':AHeap} (h0:nm f=f') (h1:args=args') (h2:h=h'):zDO P f args h K=zDO P f' args' h' K:=by rw [nm_eq]at h0;rw [h0,h1,h2]
@[congr] theorem zMD {v v':AV} {a b:Prop} (h0:nm v=v'):condK v a b=condK v' a b:=by rw [nm_eq]at h0;rw [h0]
@[congr] theorem zL7 {v v':AV} {b:Bool} {x y:Prop} (h0:nm v=v'):zBR v b x y=zBR v' b x y:=by rw [nm_eq]at h0;rw [h0]
end
set_option linter.defProp false in
def abQ:=And.intro @zKJ <| And.intro @zHE <| And.intro @zKL <| And.intro @zLU <| And.intro @zKM <| And.intro @zIe <| And.intro @zKK <| And.intro @zLV <| And.intro @zL0 <| And.intro @RV_q <| And.intro @RV_e <| And.intro @zL1 <| And.intro @DV_q <| And.intro @DV_e <| And.intro @zK3 <| And.intro @zK2 <| And.intro @zK5 <| And.intro @zK4 <| And.intro @zG0 <| And.intro @zFw <| And.intro @zIT <| And.intro @zG1 <| And.intro @zFr <| And.intro @zFp <| And.intro @zFo <| And.intro @zFq <| And.intro @ev_t <| And.intro @ev_c <| And.intro @zKw <| And.intro @zIw <| And.intro @zIx <| And.intro @qv_mv <| And.intro @zKR <| And.intro @zLf <| And.intro @qv_un <| And.intro @zKU <| And.intro @zFG <| And.intro @zIs <| And.intro @zIq <| And.intro @zEH <| And.intro @zEG <| And.intro @zFI <| And.intro @zGO <| And.intro @zLd <| And.intro @zHP <| And.intro @zLe <| And.intro @zIp <| And.intro @zFF <| And.intro @zHO <| And.intro @zFH <| And.intro @zKS <| And.intro @zLc <| And.intro @zIP <| And.intro @zLA <| And.intro @zFv <| And.intro @zIM <| And.intro @zG6 <| And.intro @zGt <| And.intro @zIZ <| And.intro @zGu <| And.intro @zJp <| And.intro @zJq <| And.intro @zIO <| And.intro @zHA <| And.intro @zJ7 <| And.intro @zJt <| And.intro @zJ1 <| And.intro @zJx <| And.intro @zJw <| And.intro @zJ6 <| And.intro @zJ0 <| And.intro @zJ2 <| And.intro @zJ3 <| And.intro @zJ4 <| And.intro @zJ5 <| And.intro @zIY <| And.intro @zIX <| And.intro @zLF <| And.intro @zLD <| And.intro @zLE <| And.intro @zJz <| And.intro @zJv <| And.intro @zJy <| And.intro @zJu <| And.intro @zLC <| And.intro @zLB <| And.intro @zG7 <| And.intro @zFy <| And.intro @zIc <| And.intro @zJ8 <| And.intro @zJ9 <| And.intro @zG9 <| And.intro @zG8 <| And.intro @zDg <| And.intro @zE4 <| And.intro @zLG <| And.intro @zIa <| And.intro @zF0 <| And.intro @zFz <| And.intro @zHG <| And.intro @zHF <| And.intro @zGG <| And.intro @zE8 <| And.intro @zIm <| And.intro @zHs <| And.intro @zHt <| @zHr
end Go.Ab
