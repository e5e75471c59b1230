/- The walk that looks only at what comes next. -/
import Derived.Test.YtkhbdmlhjnijaaaDAbAid
set_option linter.unusedVariables false
namespace Go.Ab
def nm {α:Type} (a:α):α:=a
theorem nm_eq {α:Type} (a:α):nm a=a:=Eq.trans rfl rfl
section
variable {P:Program}
@[congr] theorem cg_vc {c:IC} {Q:Exit→Env→AHeap→Prop} {e e':Env} {h h':AHeap} (h1:nm e=e') (h2:h=h'):vc P c Q e h=vc P c Q e' h':=by rw [nm_eq]at h1;rw [h1,h2]
@[congr] theorem cg_TV {t:OT} {recs recs':List Rec} {K:Env→AHeap→Prop} {e e':Env} {h h':AHeap} (h0:recs=recs') (h1:nm e=e') (h2:h=h'):TV P t recs e h K=TV P t recs' e' h' K:=by rw [nm_eq]at h1;rw [h0,h1,h2]
@[congr] theorem cg_RV {its:List II} {K:Env→AHeap→Prop} {e e':Env} {h h':AHeap} (h1:nm e=e') (h2:h=h'):RV P its e h K=RV P its e' h' K:=by rw [nm_eq]at h1;rw [h1,h2]
@[congr] theorem cg_DV {nb nb':Nat} {its:List DI} {recs recs':List Rec} {K:Env→AHeap→Prop} {e e':Env} {h h':AHeap} (h0:nm nb=nb') (h1:recs=recs') (h2:e=e') (h3:h=h'):DV P nb its recs e h K=DV P nb' its recs' e' h' K:=by rw [nm_eq]at h0;rw [h0,h1,h2,h3]
@[congr] theorem cg_ge {it:II} {K:AV→AHeap→Prop} {e e':Env} {h h':AHeap} (h1:nm e=e') (h2:h=h'):ge P it e h K=ge P it e' h' K:=by rw [nm_eq]at h1;rw [h1,h2]
@[congr] theorem zNw {op:IOp} {K:AV→AHeap→Prop} {e e':Env} {h h':AHeap} (h1:nm e=e') (h2:h=h'):eff P op e h K=eff P op e' h' K:=by rw [nm_eq]at h1;rw [h1,h2]
@[congr] theorem zNo {f:FuncId} {K:AV→AHeap→Prop} {args args':List AV} {h h':AHeap} (h1:nm args=args') (h2:h=h'):qY P f args h K=qY P f args' h' K:=by rw [nm_eq]at h1;rw [h1,h2]
@[congr] theorem zNt {α:Type} {o o':Option α} {K:α→Prop} (h1:nm o=o'):optK o K=optK o' K:=by rw [nm_eq]at h1;rw [h1]
@[congr] theorem zNl {n:Nat} {K:AV→AHeap→Prop} {x x' v v':AV} {h h':AHeap} (h0:nm x=x') (h1:v=v') (h2:h=h'):zD5 n x v h K=zD5 n x' v' h' K:=by rw [nm_eq]at h0;rw [h0,h1,h2]
@[congr] theorem zNr {sz b:Nat} {z:List AV} {K:AV→AHeap→Prop} {x x' v v':AV} {h h':AHeap} (h0:nm x=x') (h1:v=v') (h2:h=h'):aMake sz b z x v h K=aMake sz b z x' v' h' K:=by rw [nm_eq]at h0;rw [h0,h1,h2]
@[congr] theorem zNm {K:AV→AHeap→Prop} {f f':AV} {args args':List AV} {h h':AHeap} (h0:nm f=f') (h1:args=args') (h2:h=h'):zD6 P f args h K=zD6 P f' args' h' K:=by rw [nm_eq]at h0;rw [h0,h1,h2]
@[congr] theorem zNq {v v':AV} {a b:Prop} (h0:nm v=v'):condK v a b=condK v' a b:=by rw [nm_eq]at h0;rw [h0]
@[congr] theorem zNk {v v':AV} {b:Bool} {x y:Prop} (h0:nm v=v'):zB9 v b x y=zB9 v' b x y:=by rw [nm_eq]at h0;rw [h0]
end
set_option linter.defProp false in
def abQ:=And.intro @zLo <| And.intro @zIR <| And.intro @zLq <| And.intro @zM1 <| And.intro @zLr <| And.intro @zJ7 <| And.intro @zLp <| And.intro @zM2 <| And.intro @zNd <| And.intro @RV_q <| And.intro @RV_e <| And.intro @zNe <| And.intro @DV_q <| And.intro @DV_e <| And.intro @zMb <| And.intro @zMa <| And.intro @zMd <| And.intro @zMc <| And.intro @zIA <| And.intro @zGw <| And.intro @zJu <| And.intro @zIB <| And.intro @zGs <| And.intro @zGq <| And.intro @zGp <| And.intro @zGr <| And.intro @ev_t <| And.intro @ev_c <| And.intro @zMV <| And.intro @zKP <| And.intro @zKQ <| And.intro @qv_mv <| And.intro @zL0 <| And.intro @zNE <| And.intro @qv_un <| And.intro @zL2 <| And.intro @zGF <| And.intro @zKL <| And.intro @zKJ <| And.intro @zFH <| And.intro @zFG <| And.intro @zGH <| And.intro @zHP <| And.intro @zNC <| And.intro @zIg <| And.intro @zND <| And.intro @zKI <| And.intro @zGE <| And.intro @zIf <| And.intro @zGG <| And.intro @zL1 <| And.intro @zNB <| And.intro @zJq <| And.intro @zMi <| And.intro @zGv <| And.intro @zJn <| And.intro @zIG <| And.intro @zH3 <| And.intro @zJ1 <| And.intro @zH4 <| And.intro @zLI <| And.intro @zLJ <| And.intro @zJp <| And.intro @zIK <| And.intro @zLa <| And.intro @zLM <| And.intro @zLU <| And.intro @zLQ <| And.intro @zLP <| And.intro @zLZ <| And.intro @zLT <| And.intro @zLV <| And.intro @zLW <| And.intro @zLX <| And.intro @zLY <| And.intro @zJ0 <| And.intro @zJz <| And.intro @zMn <| And.intro @zMl <| And.intro @zMm <| And.intro @zLS <| And.intro @zLO <| And.intro @zLR <| And.intro @zLN <| And.intro @zMk <| And.intro @zMj <| And.intro @zIH <| And.intro @zGy <| And.intro @zJ4 <| And.intro @zLb <| And.intro @zLc <| And.intro @zIJ <| And.intro @zII <| And.intro @zEP <| And.intro @zF4 <| And.intro @zMo <| And.intro @zJ2 <| And.intro @zG0 <| And.intro @zGz <| And.intro @zIX <| And.intro @zIW <| And.intro @zHH <| And.intro @zF8 <| And.intro @zKG <| And.intro @zJA <| And.intro @zJB <| @zI9
end Go.Ab
