/- The walk that looks only at what comes next. -/
import Derived.Test.YtjlpbpfaihhamaaGreatBAbAid
set_option linter.unusedVariables false
namespace Go.Ab
def nm {α:Type} (a:α):α:=a
theorem nm_eq {α:Type} (a:α):nm a=a:=Eq.trans rfl rfl
section
variable {P:Program}
@[congr] theorem cg_vc {c:IC} {Q:Exit→Env→AHeap→Prop} {e e':Env} {h h':AHeap} (h1:nm e=e') (h2:h=h'):vc P c Q e h=vc P c Q e' h':=by rw [nm_eq]at h1;rw [h1,h2]
@[congr] theorem cg_TV {t:OT} {recs recs':List Rec} {K:Env→AHeap→Prop} {e e':Env} {h h':AHeap} (h0:recs=recs') (h1:nm e=e') (h2:h=h'):TV P t recs e h K=TV P t recs' e' h' K:=by rw [nm_eq]at h1;rw [h0,h1,h2]
@[congr] theorem cg_RV {its:List II} {K:Env→AHeap→Prop} {e e':Env} {h h':AHeap} (h1:nm e=e') (h2:h=h'):RV P its e h K=RV P its e' h' K:=by rw [nm_eq]at h1;rw [h1,h2]
@[congr] theorem cg_DV {nb nb':Nat} {its:List DI} {recs recs':List Rec} {K:Env→AHeap→Prop} {e e':Env} {h h':AHeap} (h0:nm nb=nb') (h1:recs=recs') (h2:e=e') (h3:h=h'):DV P nb its recs e h K=DV P nb' its recs' e' h' K:=by rw [nm_eq]at h0;rw [h0,h1,h2,h3]
@[congr] theorem cg_ge {it:II} {K:AV→AHeap→Prop} {e e':Env} {h h':AHeap} (h1:nm e=e') (h2:h=h'):ge P it e h K=ge P it e' h' K:=by rw [nm_eq]at h1;rw [h1,h2]
@[congr] theorem zSN {op:IOp} {K:AV→AHeap→Prop} {e e':Env} {h h':AHeap} (h1:nm e=e') (h2:h=h'):eff P op e h K=eff P op e' h' K:=by rw [nm_eq]at h1;rw [h1,h2]
@[congr] theorem zSF {f:FuncId} {K:AV→AHeap→Prop} {args args':List AV} {h h':AHeap} (h1:nm args=args') (h2:h=h'):qj P f args h K=qj P f args' h' K:=by rw [nm_eq]at h1;rw [h1,h2]
@[congr] theorem zSK {α:Type} {o o':Option α} {K:α→Prop} (h1:nm o=o'):optK o K=optK o' K:=by rw [nm_eq]at h1;rw [h1]
@[congr] theorem zSC {n:Nat} {K:AV→AHeap→Prop} {x x' v v':AV} {h h':AHeap} (h0:nm x=x') (h1:v=v') (h2:h=h'):zF3 n x v h K=zF3 n x' v' h' K:=by rw [nm_eq]at h0;rw [h0,h1,h2]
@[congr] theorem zSI {sz b:Nat} {z:List AV} {K:AV→AHeap→Prop} {x x' v v':AV} {h h':AHeap} (h0:nm x=x') (h1:v=v') (h2:h=h'):aMake sz b z x v h K=aMake sz b z x' v' h' K:=by rw [nm_eq]at h0;rw [h0,h1,h2]
@[congr] theorem zSD {K:AV→AHeap→Prop} {f f':AV} {args args':List AV} {h h':AHeap} (h0:nm f=f') (h1:args=args') (h2:h=h'):zF4 P f args h K=zF4 P f' args' h' K:=by rw [nm_eq]at h0;rw [h0,h1,h2]
@[congr] theorem zSH {v v':AV} {a b:Prop} (h0:nm v=v'):condK v a b=condK v' a b:=by rw [nm_eq]at h0;rw [h0]
@[congr] theorem zSB {v v':AV} {b:Bool} {x y:Prop} (h0:nm v=v'):zDR v b x y=zDR v' b x y:=by rw [nm_eq]at h0;rw [h0]
end
set_option linter.defProp false in
def abQ:=And.intro @zPk <| And.intro @zLj <| And.intro @zPm <| And.intro @zRF <| And.intro @zPn <| And.intro @zNk <| And.intro @zPl <| And.intro @zRG <| And.intro @zR4 <| And.intro @RV_q <| And.intro @RV_e <| And.intro @zR5 <| And.intro @DV_q <| And.intro @DV_e <| And.intro @zQe <| And.intro @zQd <| And.intro @zQh <| And.intro @zQg <| And.intro @zLV <| And.intro @zJs <| And.intro @zNO <| And.intro @zLW <| And.intro @zJo <| And.intro @zJm <| And.intro @zJl <| And.intro @zJn <| And.intro @ev_t <| And.intro @ev_c <| And.intro @zQU <| And.intro @zN6 <| And.intro @zN7 <| And.intro @qv_mv <| And.intro @zPx <| And.intro @zRS <| And.intro @qv_un <| And.intro @zPz <| And.intro @zI9 <| And.intro @zN2 <| And.intro @zN0 <| And.intro @zHj <| And.intro @zHi <| And.intro @zJB <| And.intro @zKc <| And.intro @zRQ <| And.intro @zL1 <| And.intro @zRR <| And.intro @zNz <| And.intro @zI8 <| And.intro @zL0 <| And.intro @zJA <| And.intro @zPy <| And.intro @zRP <| And.intro @zNK <| And.intro @zQp <| And.intro @zJr <| And.intro @zNH <| And.intro @zLb <| And.intro @zLO <| And.intro @zNc <| And.intro @zLP <| And.intro @zO8 <| And.intro @zO9 <| And.intro @zNJ <| And.intro @zLf <| And.intro @zPT <| And.intro @zPF <| And.intro @zPN <| And.intro @zPJ <| And.intro @zPI <| And.intro @zPS <| And.intro @zPM <| And.intro @zPO <| And.intro @zPP <| And.intro @zPQ <| And.intro @zPR <| And.intro @zNb <| And.intro @zNa <| And.intro @zQz <| And.intro @zQx <| And.intro @zQy <| And.intro @zPL <| And.intro @zPH <| And.intro @zPK <| And.intro @zPG <| And.intro @zQv <| And.intro @zQu <| And.intro @zLc <| And.intro @zJv <| And.intro @zNf <| And.intro @zPU <| And.intro @zPV <| And.intro @zLe <| And.intro @zLd <| And.intro @zGX <| And.intro @zIt <| And.intro @zQ0 <| And.intro @zNd <| And.intro @zJx <| And.intro @zJw <| And.intro @zLq <| And.intro @zLp <| And.intro @zKT <| And.intro @zI2 <| And.intro @zNw <| And.intro @zMU <| And.intro @zMV <| @zMT
end Go.Ab
