/- The walk that looks only at what comes next. -/
import Derived.Test.YtjlpbpfaihhamaaGreatDoorBAbAid
set_option linter.unusedVariables false
namespace Go.Ab
def nm {α:Type} (a:α):α:=a
theorem nm_eq {α:Type} (a:α):nm a=a:=Eq.trans rfl rfl
section
variable {P:Program}
@[congr] theorem cg_vc {c:IC} {Q:Exit→Env→AHeap→Prop} {e e':Env} {h h':AHeap} (h1:nm e=e') (h2:h=h'):vc P c Q e h=vc P c Q e' h':=by rw [nm_eq]at h1;rw [h1,h2]
@[congr] theorem cg_TV {t:OT} {recs recs':List Rec} {K:Env→AHeap→Prop} {e e':Env} {h h':AHeap} (h0:recs=recs') (h1:nm e=e') (h2:h=h'):TV P t recs e h K=TV P t recs' e' h' K:=by rw [nm_eq]at h1;rw [h0,h1,h2]
@[congr] theorem cg_RV {its:List II} {K:Env→AHeap→Prop} {e e':Env} {h h':AHeap} (h1:nm e=e') (h2:h=h'):RV P its e h K=RV P its e' h' K:=by rw [nm_eq]at h1;rw [h1,h2]
@[congr] theorem cg_DV {nb nb':Nat} {its:List DI} {recs recs':List Rec} {K:Env→AHeap→Prop} {e e':Env} {h h':AHeap} (h0:nm nb=nb') (h1:recs=recs') (h2:e=e') (h3:h=h'):DV P nb its recs e h K=DV P nb' its recs' e' h' K:=by rw [nm_eq]at h0;rw [h0,h1,h2,h3]
@[congr] theorem cg_ge {it:II} {K:AV→AHeap→Prop} {e e':Env} {h h':AHeap} (h1:nm e=e') (h2:h=h'):ge P it e h K=ge P it e' h' K:=by rw [nm_eq]at h1;rw [h1,h2]
@[congr] theorem zPI {op:IOp} {K:AV→AHeap→Prop} {e e':Env} {h h':AHeap} (h1:nm e=e') (h2:h=h'):eff P op e h K=eff P op e' h' K:=by rw [nm_eq]at h1;rw [h1,h2]
@[congr] theorem zPA {f:FuncId} {K:AV→AHeap→Prop} {args args':List AV} {h h':AHeap} (h1:nm args=args') (h2:h=h'):qW P f args h K=qW P f args' h' K:=by rw [nm_eq]at h1;rw [h1,h2]
@[congr] theorem zPF {α:Type} {o o':Option α} {K:α→Prop} (h1:nm o=o'):optK o K=optK o' K:=by rw [nm_eq]at h1;rw [h1]
@[congr] theorem zO7 {n:Nat} {K:AV→AHeap→Prop} {x x' v v':AV} {h h':AHeap} (h0:nm x=x') (h1:v=v') (h2:h=h'):zEF n x v h K=zEF n x' v' h' K:=by rw [nm_eq]at h0;rw [h0,h1,h2]
@[congr] theorem zPD {sz b:Nat} {z:List AV} {K:AV→AHeap→Prop} {x x' v v':AV} {h h':AHeap} (h0:nm x=x') (h1:v=v') (h2:h=h'):aMake sz b z x v h K=aMake sz b z x' v' h' K:=by rw [nm_eq]at h0;rw [h0,h1,h2]
@[congr] theorem zO8 {K:AV→AHeap→Prop} {f f':AV} {args args':List AV} {h h':AHeap} (h0:nm f=f') (h1:args=args') (h2:h=h'):zEG P f args h K=zEG P f' args' h' K:=by rw [nm_eq]at h0;rw [h0,h1,h2]
@[congr] theorem zPC {v v':AV} {a b:Prop} (h0:nm v=v'):condK v a b=condK v' a b:=by rw [nm_eq]at h0;rw [h0]
@[congr] theorem zO6 {v v':AV} {b:Bool} {x y:Prop} (h0:nm v=v'):zCA v b x y=zCA v' b x y:=by rw [nm_eq]at h0;rw [h0]
end
set_option linter.defProp false in
def abQ:=And.intro @zM4 <| And.intro @zJZ <| And.intro @zM6 <| And.intro @zOM <| And.intro @zM7 <| And.intro @zK7 <| And.intro @zM5 <| And.intro @zON <| And.intro @zOz <| And.intro @RV_q <| And.intro @RV_e <| And.intro @zO0 <| And.intro @DV_q <| And.intro @DV_e <| And.intro @zNu <| And.intro @zNt <| And.intro @zNw <| And.intro @zNv <| And.intro @zJE <| And.intro @zHV <| And.intro @zKw <| And.intro @zJF <| And.intro @zHQ <| And.intro @zHO <| And.intro @zHN <| And.intro @zHP <| And.intro @ev_t <| And.intro @ev_c <| And.intro @zNo <| And.intro @zLS <| And.intro @zLT <| And.intro @qv_mv <| And.intro @zNH <| And.intro @zOe <| And.intro @qv_un <| And.intro @zNJ <| And.intro @zGu <| And.intro @zLO <| And.intro @zLM <| And.intro @zFg <| And.intro @zFf <| And.intro @zGw <| And.intro @zIN <| And.intro @zOc <| And.intro @zJo <| And.intro @zOd <| And.intro @zLL <| And.intro @zGt <| And.intro @zJn <| And.intro @zGv <| And.intro @zNI <| And.intro @zOb <| And.intro @zKs <| And.intro @zN1 <| And.intro @zHU <| And.intro @zKp <| And.intro @zJL <| And.intro @zI7 <| And.intro @zK2 <| And.intro @zI8 <| And.intro @zMU <| And.intro @zMV <| And.intro @zKr <| And.intro @zJQ <| And.intro @zMp <| And.intro @zMb <| And.intro @zMj <| And.intro @zMf <| And.intro @zMe <| And.intro @zMo <| And.intro @zMi <| And.intro @zMk <| And.intro @zMl <| And.intro @zMm <| And.intro @zMn <| And.intro @zK1 <| And.intro @zK0 <| And.intro @zN7 <| And.intro @zN5 <| And.intro @zN6 <| And.intro @zMh <| And.intro @zMd <| And.intro @zMg <| And.intro @zMc <| And.intro @zN4 <| And.intro @zN3 <| And.intro @zJM <| And.intro @zHY <| And.intro @zK5 <| And.intro @zMq <| And.intro @zMr <| And.intro @zJO <| And.intro @zJN <| And.intro @zEf <| And.intro @zGg <| And.intro @zN8 <| And.intro @zK3 <| And.intro @zHa <| And.intro @zHZ <| And.intro @zJf <| And.intro @zJe <| And.intro @zID <| And.intro @zGm <| And.intro @zLH <| And.intro @zKJ <| And.intro @zKK <| @zKI
end Go.Ab
