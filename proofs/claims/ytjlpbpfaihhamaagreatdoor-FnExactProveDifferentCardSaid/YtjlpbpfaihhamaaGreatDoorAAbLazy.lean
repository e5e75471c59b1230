/- The walk that looks only at what comes next. -/
import Derived.Test.YtjlpbpfaihhamaaGreatDoorAAbAid
set_option linter.unusedVariables false
namespace Go.Ab
def nm {α:Type} (a:α):α:=a
theorem nm_eq {α:Type} (a:α):nm a=a:=Eq.trans rfl rfl
section
variable {P:Program}
@[congr] theorem cg_vc {c:IC} {Q:Exit→Env→AHeap→Prop} {e e':Env} {h h':AHeap} (h1:nm e=e') (h2:h=h'):vc P c Q e h=vc P c Q e' h':=by rw [nm_eq]at h1;rw [h1,h2]
@[congr] theorem cg_TV {t:OT} {recs recs':List Rec} {K:Env→AHeap→Prop} {e e':Env} {h h':AHeap} (h0:recs=recs') (h1:nm e=e') (h2:h=h'):TV P t recs e h K=TV P t recs' e' h' K:=by rw [nm_eq]at h1;rw [h0,h1,h2]
@[congr] theorem cg_RV {its:List II} {K:Env→AHeap→Prop} {e e':Env} {h h':AHeap} (h1:nm e=e') (h2:h=h'):RV P its e h K=RV P its e' h' K:=by rw [nm_eq]at h1;rw [h1,h2]
@[congr] theorem cg_DV {nb nb':Nat} {its:List DI} {recs recs':List Rec} {K:Env→AHeap→Prop} {e e':Env} {h h':AHeap} (h0:nm nb=nb') (h1:recs=recs') (h2:e=e') (h3:h=h'):DV P nb its recs e h K=DV P nb' its recs' e' h' K:=by rw [nm_eq]at h0;rw [h0,h1,h2,h3]
@[congr] theorem cg_ge {it:II} {K:AV→AHeap→Prop} {e e':Env} {h h':AHeap} (h1:nm e=e') (h2:h=h'):ge P it e h K=ge P it e' h' K:=by rw [nm_eq]at h1;rw [h1,h2]
@[congr] theorem zP8 {op:IOp} {K:AV→AHeap→Prop} {e e':Env} {h h':AHeap} (h1:nm e=e') (h2:h=h'):eff P op e h K=eff P op e' h' K:=by rw [nm_eq]at h1;rw [h1,h2]
@[congr] theorem zP0 {f:FuncId} {K:AV→AHeap→Prop} {args args':List AV} {h h':AHeap} (h1:nm args=args') (h2:h=h'):qg P f args h K=qg P f args' h' K:=by rw [nm_eq]at h1;rw [h1,h2]
@[congr] theorem zP5 {α:Type} {o o':Option α} {K:α→Prop} (h1:nm o=o'):optK o K=optK o' K:=by rw [nm_eq]at h1;rw [h1]
@[congr] theorem zPx {n:Nat} {K:AV→AHeap→Prop} {x x' v v':AV} {h h':AHeap} (h0:nm x=x') (h1:v=v') (h2:h=h'):zEv n x v h K=zEv n x' v' h' K:=by rw [nm_eq]at h0;rw [h0,h1,h2]
@[congr] theorem zP3 {sz b:Nat} {z:List AV} {K:AV→AHeap→Prop} {x x' v v':AV} {h h':AHeap} (h0:nm x=x') (h1:v=v') (h2:h=h'):aMake sz b z x v h K=aMake sz b z x' v' h' K:=by rw [nm_eq]at h0;rw [h0,h1,h2]
@[congr] theorem zPy {K:AV→AHeap→Prop} {f f':AV} {args args':List AV} {h h':AHeap} (h0:nm f=f') (h1:args=args') (h2:h=h'):zEw P f args h K=zEw P f' args' h' K:=by rw [nm_eq]at h0;rw [h0,h1,h2]
@[congr] theorem zP2 {v v':AV} {a b:Prop} (h0:nm v=v'):condK v a b=condK v' a b:=by rw [nm_eq]at h0;rw [h0]
@[congr] theorem zPw {v v':AV} {b:Bool} {x y:Prop} (h0:nm v=v'):zCd v b x y=zCd v' b x y:=by rw [nm_eq]at h0;rw [h0]
end
set_option linter.defProp false in
def abQ:=And.intro @zNj <| And.intro @zKD <| And.intro @zNl <| And.intro @zO3 <| And.intro @zNm <| And.intro @zLn <| And.intro @zNk <| And.intro @zO4 <| And.intro @zPp <| And.intro @RV_q <| And.intro @RV_e <| And.intro @zPq <| And.intro @DV_q <| And.intro @DV_e <| And.intro @zOY <| And.intro @zOX <| And.intro @zOa <| And.intro @zOZ <| And.intro @zJv <| And.intro @zIM <| And.intro @zLZ <| And.intro @zJw <| And.intro @zIG <| And.intro @zIE <| And.intro @zID <| And.intro @zIF <| And.intro @ev_t <| And.intro @ev_c <| And.intro @zOP <| And.intro @zMA <| And.intro @zMB <| And.intro @qv_mv <| And.intro @zNw <| And.intro @zPK <| And.intro @qv_un <| And.intro @zNy <| And.intro @zHe <| And.intro @zL6 <| And.intro @zL4 <| And.intro @zGK <| And.intro @zGJ <| And.intro @zHg <| And.intro @zI7 <| And.intro @zPI <| And.intro @zKR <| And.intro @zPJ <| And.intro @zL3 <| And.intro @zHd <| And.intro @zKQ <| And.intro @zHf <| And.intro @zNx <| And.intro @zPH <| And.intro @zLT <| And.intro @zOg <| And.intro @zIL <| And.intro @zLQ <| And.intro @zJ1 <| And.intro @zJn <| And.intro @zLf <| And.intro @zJo <| And.intro @zM9 <| And.intro @zNA <| And.intro @zLS <| And.intro @zJ6 <| And.intro @zNT <| And.intro @zNF <| And.intro @zNN <| And.intro @zNJ <| And.intro @zNI <| And.intro @zNS <| And.intro @zNM <| And.intro @zNO <| And.intro @zNP <| And.intro @zNQ <| And.intro @zNR <| And.intro @zLe <| And.intro @zLd <| And.intro @zOo <| And.intro @zOm <| And.intro @zOn <| And.intro @zNL <| And.intro @zNH <| And.intro @zNK <| And.intro @zNG <| And.intro @zOk <| And.intro @zOj <| And.intro @zJ2 <| And.intro @zIO <| And.intro @zLi <| And.intro @zNU <| And.intro @zNV <| And.intro @zJ4 <| And.intro @zJ3 <| And.intro @zFK <| And.intro @zHN <| And.intro @zOp <| And.intro @zLg <| And.intro @zIQ <| And.intro @zIP <| And.intro @zKI <| And.intro @zKH <| And.intro @zIw <| And.intro @zHV <| And.intro @zLz <| And.intro @zKt <| And.intro @zKu <| @zKs
end Go.Ab
