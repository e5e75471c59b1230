/- The walk that looks only at what comes next. -/
import Derived.Test.YtkhbdmlhjnijaaaGreatAAbAid
set_option linter.unusedVariables false
namespace Go.Ab
def nm {α:Type} (a:α):α:=a
theorem nm_eq {α:Type} (a:α):nm a=a:=Eq.trans rfl rfl
section
variable {P:Program}
@[congr] theorem cg_vc {c:IC} {Q:Exit→Env→AHeap→Prop} {e e':Env} {h h':AHeap} (h1:nm e=e') (h2:h=h'):vc P c Q e h=vc P c Q e' h':=by rw [nm_eq]at h1;rw [h1,h2]
@[congr] theorem cg_TV {t:OT} {K:Env→AHeap→Prop} {e e':Env} {h h':AHeap} (h1:nm e=e') (h2:h=h'):TV P t e h K=TV P t e' h' K:=by rw [nm_eq]at h1;rw [h1,h2]
@[congr] theorem cg_RV {its:List II} {K:Env→AHeap→Prop} {e e':Env} {h h':AHeap} (h1:nm e=e') (h2:h=h'):RV P its e h K=RV P its e' h' K:=by rw [nm_eq]at h1;rw [h1,h2]
@[congr] theorem cg_DV {nb nb':Nat} {its:List DI} {recs recs':List Rec} {K:Env→AHeap→Prop} {e e':Env} {h h':AHeap} (h0:nm nb=nb') (h1:recs=recs') (h2:e=e') (h3:h=h'):DV P nb its recs e h K=DV P nb' its recs' e' h' K:=by rw [nm_eq]at h0;rw [h0,h1,h2,h3]
@[congr] theorem cg_ge {it:II} {K:AV→AHeap→Prop} {e e':Env} {h h':AHeap} (h1:nm e=e') (h2:h=h'):ge P it e h K=ge P it e' h' K:=by rw [nm_eq]at h1;rw [h1,h2]
@[congr] theorem zNe {op:IOp} {K:AV→AHeap→Prop} {e e':Env} {h h':AHeap} (h1:nm e=e') (h2:h=h'):eff P op e h K=eff P op e' h' K:=by rw [nm_eq]at h1;rw [h1,h2]
@[congr] theorem zNW {f:FuncId} {K:AV→AHeap→Prop} {args args':List AV} {h h':AHeap} (h1:nm args=args') (h2:h=h'):qd P f args h K=qd P f args' h' K:=by rw [nm_eq]at h1;rw [h1,h2]
@[congr] theorem zNb {α:Type} {o o':Option α} {K:α→Prop} (h1:nm o=o'):optK o K=optK o' K:=by rw [nm_eq]at h1;rw [h1]
@[congr] theorem zNT {n:Nat} {K:AV→AHeap→Prop} {x x' v v':AV} {h h':AHeap} (h0:nm x=x') (h1:v=v') (h2:h=h'):zDy n x v h K=zDy n x' v' h' K:=by rw [nm_eq]at h0;rw [h0,h1,h2]
@[congr] theorem zNZ {sz b:Nat} {z:List AV} {K:AV→AHeap→Prop} {x x' v v':AV} {h h':AHeap} (h0:nm x=x') (h1:v=v') (h2:h=h'):aMake sz b z x v h K=aMake sz b z x' v' h' K:=by rw [nm_eq]at h0;rw [h0,h1,h2]
@[congr] theorem zNU {K:AV→AHeap→Prop} {f f':AV} {args args':List AV} {h h':AHeap} (h0:nm f=f') (h1:args=args') (h2:h=h'):zDz P f args h K=zDz P f' args' h' K:=by rw [nm_eq]at h0;rw [h0,h1,h2]
@[congr] theorem zNY {v v':AV} {a b:Prop} (h0:nm v=v'):condK v a b=condK v' a b:=by rw [nm_eq]at h0;rw [h0]
@[congr] theorem zNS {v v':AV} {b:Bool} {x y:Prop} (h0:nm v=v'):zB4 v b x y=zB4 v' b x y:=by rw [nm_eq]at h0;rw [h0]
end
set_option linter.defProp false in
def abQ:=And.intro @zLR <| And.intro @zIH <| And.intro @zLT <| And.intro @zMe <| And.intro @zLU <| And.intro @zJn <| And.intro @zLS <| And.intro @zMf <| And.intro @zNL <| And.intro @RV_q <| And.intro @RV_e <| And.intro @zNM <| And.intro @DV_q <| And.intro @DV_e <| And.intro @zME <| And.intro @zMD <| And.intro @zMG <| And.intro @zMF <| And.intro @zH2 <| And.intro @zGp <| And.intro @zJZ <| And.intro @zH3 <| And.intro @zGk <| And.intro @zGi <| And.intro @zGh <| And.intro @zGj <| And.intro @ev_t <| And.intro @ev_c <| And.intro @zL8 <| And.intro @zJ5 <| And.intro @zJ6 <| And.intro @qv_mv <| And.intro @zLb <| And.intro @zMr <| And.intro @qv_un <| And.intro @zLe <| And.intro @zF7 <| And.intro @zJ1 <| And.intro @zJz <| And.intro @zE7 <| And.intro @zE6 <| And.intro @zF9 <| And.intro @zHL <| And.intro @zMp <| And.intro @zIW <| And.intro @zMq <| And.intro @zJy <| And.intro @zF6 <| And.intro @zIV <| And.intro @zF8 <| And.intro @zLc <| And.intro @zMo <| And.intro @zJW <| And.intro @zMM <| And.intro @zGo <| And.intro @zJT <| And.intro @zH8 <| And.intro @zHv <| And.intro @zJg <| And.intro @zHw <| And.intro @zKw <| And.intro @zKx <| And.intro @zJV <| And.intro @zIC <| And.intro @zLE <| And.intro @zK0 <| And.intro @zK8 <| And.intro @zK4 <| And.intro @zK3 <| And.intro @zLD <| And.intro @zK7 <| And.intro @zK9 <| And.intro @zLA <| And.intro @zLB <| And.intro @zLC <| And.intro @zJf <| And.intro @zJe <| And.intro @zMR <| And.intro @zMP <| And.intro @zMQ <| And.intro @zK6 <| And.intro @zK2 <| And.intro @zK5 <| And.intro @zK1 <| And.intro @zMO <| And.intro @zMN <| And.intro @zH9 <| And.intro @zGs <| And.intro @zJj <| And.intro @zLF <| And.intro @zLG <| And.intro @zIB <| And.intro @zIA <| And.intro @zEK <| And.intro @zFu <| And.intro @zMS <| And.intro @zJh <| And.intro @zGu <| And.intro @zGt <| And.intro @zIM <| And.intro @zIL <| And.intro @zHC <| And.intro @zFz <| And.intro @zJv <| And.intro @zIy <| And.intro @zIz <| @zIx
end Go.Ab
