/- The walk that looks only at what comes next. -/
import Derived.Test.YtcooahfdjlhmdaaEAbAid
set_option linter.unusedVariables false
namespace Go.Ab
def nm {α:Type} (a:α):α:=a
theorem nm_eq {α:Type} (a:α):nm a=a:=Eq.trans rfl rfl
section
variable {P:Program}
@[congr] theorem cg_vc {c:IC} {Q:Exit→Env→AHeap→Prop} {e e':Env} {h h':AHeap} (h1:nm e=e') (h2:h=h'):vc P c Q e h=vc P c Q e' h':=by rw [nm_eq]at h1;rw [h1,h2]
@[congr] theorem cg_RV {its:List II} {K:Env→AHeap→Prop} {e e':Env} {h h':AHeap} (h1:nm e=e') (h2:h=h'):RV P its e h K=RV P its e' h' K:=by rw [nm_eq]at h1;rw [h1,h2]
@[congr] theorem cg_DV {nb nb':Nat} {its:List DI} {recs recs':List Rec} {K:Env→AHeap→Prop} {e e':Env} {h h':AHeap} (h0:nm nb=nb') (h1:recs=recs') (h2:e=e') (h3:h=h'):DV P nb its recs e h K=DV P nb' its recs' e' h' K:=by rw [nm_eq]at h0;rw [h0,h1,h2,h3]
@[congr] theorem cg_ge {it:II} {K:AV→AHeap→Prop} {e e':Env} {h h':AHeap} (h1:nm e=e') (h2:h=h'):ge P it e h K=ge P it e' h' K:=by rw [nm_eq]at h1;rw [h1,h2]
@[congr] theorem zMq {op:IOp} {K:AV→AHeap→Prop} {e e':Env} {h h':AHeap} (h1:nm e=e') (h2:h=h'):eff P op e h K=eff P op e' h' K:=by rw [nm_eq]at h1;rw [h1,h2]
@[congr] theorem zMi {f:FuncId} {K:AV→AHeap→Prop} {args args':List AV} {h h':AHeap} (h1:nm args=args') (h2:h=h'):qV P f args h K=qV P f args' h' K:=by rw [nm_eq]at h1;rw [h1,h2]
@[congr] theorem zMn {α:Type} {o o':Option α} {K:α→Prop} (h1:nm o=o'):optK o K=optK o' K:=by rw [nm_eq]at h1;rw [h1]
@[congr] theorem zMf {n:Nat} {K:AV→AHeap→Prop} {x x' v v':AV} {h h':AHeap} (h0:nm x=x') (h1:v=v') (h2:h=h'):zCl n x v h K=zCl n x' v' h' K:=by rw [nm_eq]at h0;rw [h0,h1,h2]
@[congr] theorem zMl {sz b:Nat} {z:List AV} {K:AV→AHeap→Prop} {x x' v v':AV} {h h':AHeap} (h0:nm x=x') (h1:v=v') (h2:h=h'):aMake sz b z x v h K=aMake sz b z x' v' h' K:=by rw [nm_eq]at h0;rw [h0,h1,h2]
@[congr] theorem zMg {K:AV→AHeap→Prop} {f f':AV} {args args':List AV} {h h':AHeap} (h0:nm f=f') (h1:args=args') (h2:h=h'):zCm P f args h K=zCm P f' args' h' K:=by rw [nm_eq]at h0;rw [h0,h1,h2]
@[congr] theorem zMk {v v':AV} {a b:Prop} (h0:nm v=v'):condK v a b=condK v' a b:=by rw [nm_eq]at h0;rw [h0]
@[congr] theorem zMe {v v':AV} {b:Bool} {x y:Prop} (h0:nm v=v'):zA8 v b x y=zA8 v' b x y:=by rw [nm_eq]at h0;rw [h0]
end
set_option linter.defProp false in
def abQ:=And.intro @zKq <| And.intro @zHY <| And.intro @zKs <| And.intro @zLz <| And.intro @zKt <| And.intro @zJA <| And.intro @zKr <| And.intro @zL0 <| And.intro @zMX <| And.intro @RV_q <| And.intro @RV_e <| And.intro @zMY <| And.intro @DV_q <| And.intro @DV_e <| And.intro @zLZ <| And.intro @zLY <| And.intro @zLc <| And.intro @zLb <| And.intro @zHJ <| And.intro @zF0 <| And.intro @zIu <| And.intro @zHK <| And.intro @zFu <| And.intro @zFs <| And.intro @zFr <| And.intro @zFt <| And.intro @ev_t <| And.intro @ev_c <| And.intro @zLT <| And.intro @zJU <| And.intro @zJV <| And.intro @qv_mv <| And.intro @zKz <| And.intro @zMC <| And.intro @qv_un <| And.intro @zK2 <| And.intro @zFK <| And.intro @zJQ <| And.intro @zJO <| And.intro @zD3 <| And.intro @zD2 <| And.intro @zFM <| And.intro @zGd <| And.intro @zMA <| And.intro @zHq <| And.intro @zMB <| And.intro @zJN <| And.intro @zFJ <| And.intro @zHp <| And.intro @zFL <| And.intro @zK0 <| And.intro @zL9 <| And.intro @zIq <| And.intro @zLh <| And.intro @zFy <| And.intro @zIn <| And.intro @zHQ <| And.intro @zHC <| And.intro @zI3 <| And.intro @zHD <| And.intro @zKJ <| And.intro @zKK <| And.intro @zIp <| And.intro @zHU <| And.intro @zKe <| And.intro @zKQ <| And.intro @zKY <| And.intro @zKU <| And.intro @zKT <| And.intro @zKd <| And.intro @zKX <| And.intro @zKZ <| And.intro @zKa <| And.intro @zKb <| And.intro @zKc <| And.intro @zI2 <| And.intro @zI1 <| And.intro @zLo <| And.intro @zLm <| And.intro @zLn <| And.intro @zKW <| And.intro @zKS <| And.intro @zKV <| And.intro @zKR <| And.intro @zLj <| And.intro @zLi <| And.intro @zHR <| And.intro @zF3 <| And.intro @zI6 <| And.intro @zKf <| And.intro @zKg <| And.intro @zHT <| And.intro @zHS <| And.intro @zC8 <| And.intro @zE2 <| And.intro @zLp <| And.intro @zI4 <| And.intro @zF5 <| And.intro @zF4 <| And.intro @zHe <| And.intro @zHd <| And.intro @zGU <| And.intro @zFC <| And.intro @zJH <| And.intro @zIJ <| And.intro @zIK <| @zII
end Go.Ab
