/- The library's contracts at this program, laid by the shelf's plain mode: strings.Join, strings.Builder, strconv.FormatInt. -/
import Derived.Shelf.Strings.BuilderF
import Derived.Shelf.Strings.OnBuilder
import Derived.Shelf.Strconv.Itoa4
import Derived.Test.YtmiobhfjmhgplaaDoorProg
namespace Go.Proofs
open Go.Shelf
def Tryd.lays156_ren:Go.Shelf.Ren:=⟨fun | 156=>53 | 165=>67 | 166=>32 | 169=>35 | 240=>51 | 241=>73 | 276=>62 | 277=>76 | n=>n,fun | 31=>84 | 9=>9 | 3=>3 | 4=>4 | 0=>0 | 20=>20 | 72=>63 | 76=>66 | 70=>60 | 37=>61 | 75=>65 | 127=>86 | 164=>89 | 5=>5 | 80=>71 | n=>n,fun | n=>n⟩
theorem Tryd.lays156:Go.Proofs.Lays.n156 Tryd.prog Tryd.lays156_ren:={
 mixed:=by kernel_rfl
 f156:=Tryd.func53.trans (congrArg some (by kernel_rfl))
 f165:=Tryd.func67.trans (congrArg some (by kernel_rfl))
 f166:=Tryd.func32.trans (congrArg some (by kernel_rfl))
 f169:=Tryd.func35.trans (congrArg some (by kernel_rfl))
 f240:=Tryd.func51.trans (congrArg some (by kernel_rfl))
 f241:=Tryd.func73.trans (congrArg some (by kernel_rfl))
 f276:=Tryd.func62.trans (congrArg some (by kernel_rfl))
 f277:=Tryd.func76.trans (congrArg some (by kernel_rfl))
 t0:=Tryd.underlying0
 a0:=Tryd.isAgg0
 z0:=Tryd.sizeOf0
 v0:=Tryd.zeroValue0
 t3:=Tryd.underlying3
 a3:=Tryd.isAgg3
 z3:=Tryd.sizeOf3
 v3:=Tryd.zeroValue3
 t4:=Tryd.underlying4
 a4:=Tryd.isAgg4
 z4:=Tryd.sizeOf4
 v4:=Tryd.zeroValue4
 t9:=Tryd.underlying9
 a9:=Tryd.isAgg9
 z9:=Tryd.sizeOf9
 v9:=Tryd.zeroValue9
 t20:=Tryd.underlying20
 a20:=Tryd.isAgg20
 z20:=Tryd.sizeOf20
 v20:=Tryd.zeroValue20
 t31:=Tryd.underlying84
 a31:=Tryd.isAgg84
 z31:=Tryd.sizeOf84
 v31:=Tryd.zeroValue84
 t37:=Tryd.underlying61
 a37:=Tryd.isAgg61
 z37:=Tryd.sizeOf61
 v37:=Tryd.zeroValue61
 t70:=Tryd.underlying60
 a70:=Tryd.isAgg60
 z70:=Tryd.sizeOf60
 v70:=Tryd.zeroValue60
 t72:=Tryd.underlying63
 a72:=Tryd.isAgg63
 z72:=Tryd.sizeOf63
 v72:=Tryd.zeroValue63
 t75:=Tryd.underlying65
 a75:=Tryd.isAgg65
 z75:=Tryd.sizeOf65
 v75:=Tryd.zeroValue65
 t76:=Tryd.underlying66
 a76:=Tryd.isAgg66
 z76:=Tryd.sizeOf66
 v76:=Tryd.zeroValue66
 t127:=Tryd.underlying86
 a127:=Tryd.isAgg86
 z127:=Tryd.sizeOf86
 v127:=Tryd.zeroValue86
 t164:=Tryd.underlying89
 a164:=Tryd.isAgg89
 z164:=Tryd.sizeOf89
 v164:=Tryd.zeroValue89 }
theorem Tryd.Builder_Extra_156:Builder.Extra Tryd.prog Tryd.lays156_ren:={
 sizeBuilder:=by kernel_rfl
 liesBuilder:=by kernel_rfl
 t5:=Tryd.underlying5
 a5:=Tryd.isAgg5
 z5:=Tryd.sizeOf5
 v5:=Tryd.zeroValue5
 infoByte:=by kernel_rfl
 cellsByte:=by kernel_rfl
 sizeByte:=by kernel_rfl
 neB5:=by decide }
open Go.RowKit in
open Go.RowKit in
theorem Tryd.strings_Join (bk o c:Nat) (xs:List ByteArray) (sep:ByteArray) (w:World) (hcells:∀(j:Nat) x,xs[j]? = some x→w.cell? ⟨bk,o+j,none⟩=some (.string x)) (hbk:bk<w.heap.size) (hN:xs.length≤140737488355328) (hcap:xs.length≤c) (hlen:(Lib.join (xs.map (·.data.toList)) sep.data.toList).length≤140737488355328):
  Calls Tryd.prog 53 #[.slice (some ⟨bk,o,none⟩) xs.length c,.string sep] w fun e w'=>e=.returned (.string ⟨(Lib.join (xs.map (·.data.toList)) sep.data.toList).toArray⟩)∧Below w.heap.size w w':=Any.strings_Join Tryd.lays156 Tryd.Builder_Extra_156 bk o c xs sep w hcells hbk hN hcap hlen
def Tryd.laysM173_ren:Go.Shelf.Ren:=⟨fun | 173=>33 | 246=>52 | 283=>63 | 284=>64 | 285=>65 | 286=>66 | 129=>69 | 317=>68 | 318=>70 | 319=>71 | 320=>72 | 337=>74 | 338=>75 | n=>n,fun | 2=>2 | 3=>3 | 9=>9 | 4=>4 | 171=>91 | 0=>0 | 53=>92 | 37=>61 | 5=>5 | 173=>95 | 212=>100 | 51=>101 | 20=>20 | 213=>102 | 46=>104 | 232=>108 | 233=>109 | n=>n,fun | 17=>0 | 18=>1 | 19=>2 | n=>n⟩
theorem Tryd.laysM173:Go.Proofs.LaysM.n173 Tryd.prog Tryd.laysM173_ren:={
 mixed:=by kernel_rfl
 f129:=Tryd.func69.trans (congrArg some (by kernel_rfl))
 f173:=Tryd.func33.trans (congrArg some (by kernel_rfl))
 f246:=Tryd.func52.trans (congrArg some (by kernel_rfl))
 f283:=Tryd.func63.trans (congrArg some (by kernel_rfl))
 f284:=Tryd.func64.trans (congrArg some (by kernel_rfl))
 f285:=Tryd.func65.trans (congrArg some (by kernel_rfl))
 f286:=Tryd.func66.trans (congrArg some (by kernel_rfl))
 f317:=Tryd.func68.trans (congrArg some (by kernel_rfl))
 f318:=Tryd.func70.trans (congrArg some (by kernel_rfl))
 f319:=Tryd.func71.trans (congrArg some (by kernel_rfl))
 f320:=Tryd.func72.trans (congrArg some (by kernel_rfl))
 f337:=Tryd.func74.trans (congrArg some (by kernel_rfl))
 f338:=Tryd.func75.trans (congrArg some (by kernel_rfl))
 t0:=Tryd.underlying0
 a0:=Tryd.isAgg0
 z0:=Tryd.sizeOf0
 v0:=Tryd.zeroValue0
 t2:=Tryd.underlying2
 a2:=Tryd.isAgg2
 z2:=Tryd.sizeOf2
 v2:=Tryd.zeroValue2
 t3:=Tryd.underlying3
 a3:=Tryd.isAgg3
 z3:=Tryd.sizeOf3
 v3:=Tryd.zeroValue3
 t4:=Tryd.underlying4
 a4:=Tryd.isAgg4
 z4:=Tryd.sizeOf4
 v4:=Tryd.zeroValue4
 t5:=Tryd.underlying5
 a5:=Tryd.isAgg5
 z5:=Tryd.sizeOf5
 v5:=Tryd.zeroValue5
 t9:=Tryd.underlying9
 a9:=Tryd.isAgg9
 z9:=Tryd.sizeOf9
 v9:=Tryd.zeroValue9
 t20:=Tryd.underlying20
 a20:=Tryd.isAgg20
 z20:=Tryd.sizeOf20
 v20:=Tryd.zeroValue20
 t37:=Tryd.underlying61
 a37:=Tryd.isAgg61
 z37:=Tryd.sizeOf61
 v37:=Tryd.zeroValue61
 t46:=Tryd.underlying104
 a46:=Tryd.isAgg104
 z46:=Tryd.sizeOf104
 v46:=Tryd.zeroValue104
 t51:=Tryd.underlying101
 a51:=Tryd.isAgg101
 z51:=Tryd.sizeOf101
 v51:=Tryd.zeroValue101
 t53:=Tryd.underlying92
 a53:=Tryd.isAgg92
 z53:=Tryd.sizeOf92
 v53:=Tryd.zeroValue92
 t171:=Tryd.underlying91
 a171:=Tryd.isAgg91
 z171:=Tryd.sizeOf91
 v171:=Tryd.zeroValue91
 t173:=Tryd.underlying95
 a173:=Tryd.isAgg95
 z173:=Tryd.sizeOf95
 v173:=Tryd.zeroValue95
 t212:=Tryd.underlying100
 a212:=Tryd.isAgg100
 z212:=Tryd.sizeOf100
 v212:=Tryd.zeroValue100
 t213:=Tryd.underlying102
 a213:=Tryd.isAgg102
 z213:=Tryd.sizeOf102
 t232:=Tryd.underlying108
 a232:=Tryd.isAgg108
 z232:=Tryd.sizeOf108
 v232:=Tryd.zeroValue108
 t233:=Tryd.underlying109
 a233:=Tryd.isAgg109
 z233:=Tryd.sizeOf109
 v233:=Tryd.zeroValue109
 g17:=by kernel_rfl
 g18:=by kernel_rfl
 g19:=by kernel_rfl
 i0:=by kernel_rfl
 i2:=by kernel_rfl
 i3:=by kernel_rfl
 i4:=by kernel_rfl
 i5:=by kernel_rfl
 i9:=by kernel_rfl
 i20:=by kernel_rfl
 i37:=by kernel_rfl
 i46:=by kernel_rfl
 i51:=by kernel_rfl
 i53:=by kernel_rfl
 i171:=by kernel_rfl
 i173:=by kernel_rfl
 i212:=by kernel_rfl
 i232:=by kernel_rfl
 i233:=by kernel_rfl
 m17:=by kernel_rfl
 m18:=by kernel_rfl
 m19:=by kernel_rfl }
open Go.RowKit Go.Sort Go.Lib in
theorem Tryd.strconv_FormatInt_10 (n : Int) (h0 : -9223372036854775808 ≤ n) (h1 : n ≤ 9223372036854775807) (w : World) (htab : Lib.TabIs Tryd.prog w "internal/strconv.uint64pow10" .u64 Lib.pow10Tab) :
  Calls Tryd.prog 33 #[.int .i64 n,.int .i64 10] w fun e w'=>e=.returned (.string ⟨(Lib.itoa n).toArray⟩)∧∃k os,w'=grow (w.drewN k) os:=Any.strconv_FormatInt_10 Tryd.laysM173 n h0 h1 w htab
open Go.RowKit in
theorem Tryd.WriteString_f (B b:Nat) (bs:List Value) (s:ByteArray) (w:World) (h:Lib.IsBuilderF 63 5 B b bs w) (hlen:bs.length+s.size≤140737488355328) (hBw:B≤w.heap.size):
  Calls Tryd.prog 32 #[.pointer (some ⟨b,0,none⟩),.string s] w fun e w'=>e=.returned (.tuple #[.int .i64 s.size,.nilIface])∧(Lib.BuilderAtF 63 5 B b (.pointer (some ⟨b,0,none⟩)) (bs++Lib.strCells s) w'∧Below B w w'):=Any.Builder_WriteString_f { Tryd.lays156 with } Tryd.Builder_Extra_156 B b bs s w h hlen hBw
open Go.RowKit in
theorem Tryd.String_f (B b:Nat) (l:List UInt8) (w:World) (h:Lib.IsBuilderF 63 5 B b (Lib.byteCells l) w) (hBw:B≤w.heap.size):
  Calls Tryd.prog 35 #[.pointer (some ⟨b,0,none⟩)] w fun e w'=>e=.returned (.string ⟨l.toArray⟩)∧(Lib.IsBuilderF 63 5 B b (Lib.byteCells l) w'∧Below B w w'):=Any.Builder_String_any_f { Tryd.lays156 with } Tryd.Builder_Extra_156 B b l w h hBw
end Go.Proofs
