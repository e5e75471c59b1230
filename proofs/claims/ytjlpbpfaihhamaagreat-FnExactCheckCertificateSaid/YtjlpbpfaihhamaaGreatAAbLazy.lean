/- . -/
import Derived.Test.YtjlpbpfaihhamaaGreatAAbAid
set_option linter.unusedVariables false
namespace Go.Ab
def nm{α:Type}(a:α):α:=a
theorem nm_eq{α:Type}(a:α):nm a=a:=Eq.trans rfl rfl
section
variable{P:Program}
@[congr] theorem cg_vc {c:IC} {Q:Exit->Env->AHeap->Prop} {e e':Env} {h h':AHeap} (h1:nm e=e') (h2:h=h'):vc P c Q e h=vc P c Q e' h':=by rw[nm_eq]at h1;rw[h1,h2]
@[congr] theorem cg_TV {t:OT} {recs aJ:List Rec} {K:Env->AHeap->Prop} {e e':Env} {h h':AHeap} (h0:recs=aJ) (h1:nm e=e') (h2:h=h'):TV P t recs e h K=TV P t aJ e' h' K:=by rw[nm_eq]at h1;rw[h0,h1,h2]
@[congr] theorem cg_RV {aN:List II} {K:Env->AHeap->Prop} {e e':Env} {h h':AHeap} (h1:nm e=e') (h2:h=h'):RV P aN e h K=RV P aN e' h' K:=by rw[nm_eq]at h1;rw[h1,h2]
@[congr] theorem cg_DV {nb rQ:Nat} {aN:List DI} {recs aJ:List Rec} {K:Env->AHeap->Prop} {e e':Env} {h h':AHeap} (h0:nm nb=rQ) (h1:recs=aJ) (h2:e=e') (h3:h=h'):DV P nb aN recs e h K=DV P rQ aN aJ e' h' K:=by rw[nm_eq]at h0;rw[h0,h1,h2,h3]
@[congr] theorem cg_ge {it:II} {K:AV->AHeap->Prop} {e e':Env} {h h':AHeap} (h1:nm e=e') (h2:h=h'):ge P it e h K=ge P it e' h' K:=by rw[nm_eq]at h1;rw[h1,h2]
@[congr] theorem zNz {op:IOp} {K:AV->AHeap->Prop} {e e':Env} {h h':AHeap} (h1:nm e=e') (h2:h=h'):eff P op e h K=eff P op e' h' K:=by rw[nm_eq]at h1;rw[h1,h2]
@[congr] theorem zNt {f:FuncId} {K:AV->AHeap->Prop} {args df:List AV} {h h':AHeap} (h1:nm args=df) (h2:h=h'):qj P f args h K=qj P f df h' K:=by rw[nm_eq]at h1;rw[h1,h2]
@[congr] theorem zNx {α:Type} {o o':Option α} {K:α->Prop} (h1:nm o=o'):optK o K=optK o' K:=by rw[nm_eq]at h1;rw[h1]
@[congr] theorem zNq {n:Nat} {K:AV->AHeap->Prop} {x x' v v':AV} {h h':AHeap} (h0:nm x=x') (h1:v=v') (h2:h=h'):zKo n x v h K=zKo n x' v' h' K:=by rw[nm_eq]at h0;rw[h0,h1,h2]
@[congr] theorem zNw {sz b:Nat} {z:List AV} {K:AV->AHeap->Prop} {x x' v v':AV} {h h':AHeap} (h0:nm x=x') (h1:v=v') (h2:h=h'):aMake sz b z x v h K=aMake sz b z x' v' h' K:=by rw[nm_eq]at h0;rw[h0,h1,h2]
@[congr] theorem zNr {K:AV->AHeap->Prop} {f f':AV} {args df:List AV} {h h':AHeap} (h0:nm f=f') (h1:args=df) (h2:h=h'):zKp P f args h K=zKp P f' df h' K:=by rw[nm_eq]at h0;rw[h0,h1,h2]
@[congr] theorem zNv {v v':AV} {a b:Prop} (h0:nm v=v'):condK v a b=condK v' a b:=by rw[nm_eq]at h0;rw[h0]
@[congr] theorem zNp {v v':AV} {b:Bool} {x y:Prop} (h0:nm v=v'):zKQ v b x y=zKQ v' b x y:=by rw[nm_eq]at h0;rw[h0]
end
end Go.Ab
