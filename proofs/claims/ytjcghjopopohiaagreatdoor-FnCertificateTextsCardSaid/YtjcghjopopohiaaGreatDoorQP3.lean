/- . -/
import Derived.Test.YtjcghjopopohiaaGreatDoorQAbCode
import Derived.Shelf.Strconv.ParseIntPublic10
import Derived.Shelf.Strings.Split
import Derived.Shelf.Strings.Cut
import Derived.Shelf.Strings.BuilderF
import Derived.Shelf.Strings.OnBuilder
import Derived.Shelf.Strconv.Itoa4
import Derived.Test.YtjcghjopopohiaaGreatDoorProg
import Derived.Test.YtjcghjopopohiaaGreatDoorChecked
set_option linter.all false
set_option linter.defProp false
open Go.IntKind renaming wrap->Tu
open List renaming length->Tw
open Bool renaming true->Im
open Int renaming mul_le_mul->Oq,tmod_lt_of_pos->Sn,toNat_natCast->KH
open List renaming drop_eq_nil_of_le->Kz,mem_of_mem_drop->Jx,replicate->Jf
open Nat renaming eq_zero_or_pos->MB
open Option renaming some->Ik
open True renaming intro->Is
open Int renaming reduceNatCast'->ae
set_option maxRecDepth 100000
namespace Go.Proofs
open Go.Ab
variable{σ:dj}{K:PV->dj->Prop}
section
open Go.Shelf
def Tryz.lays156_ren:Go.Shelf.Ren:=⟨λ|156=>88|165=>147|166=>41|169=>44|240=>86|241=>186|276=>142|277=>209|n=>n,λ|31=>83|9=>9|3=>3|4=>4|0=>0|20=>20|72=>72|76=>75|70=>70|37=>22|75=>74|127=>121|164=>161|5=>5|80=>80|n=>n,λ|n=>n⟩
def Tryz.lays156:Go.Proofs.Lays.n156 Tryz.prog Tryz.lays156_ren:={
 mixed:=by kernel_rfl
 f156:=Tryz.func88.trans (congrArg Ik (by kernel_rfl))
 f165:=Tryz.func147.trans (congrArg Ik (by kernel_rfl))
 f166:=Tryz.func41.trans (congrArg Ik (by kernel_rfl))
 f169:=Tryz.func44.trans (congrArg Ik (by kernel_rfl))
 f240:=Tryz.func86.trans (congrArg Ik (by kernel_rfl))
 f241:=Tryz.func186.trans (congrArg Ik (by kernel_rfl))
 f276:=Tryz.func142.trans (congrArg Ik (by kernel_rfl))
 f277:=Tryz.func209.trans (congrArg Ik (by kernel_rfl))
 t0:=Tryz.underlying0
 a0:=Tryz.isAgg0
 z0:=Tryz.sizeOf0
 v0:=Tryz.zeroValue0
 t3:=Tryz.underlying3
 a3:=Tryz.isAgg3
 z3:=Tryz.sizeOf3
 v3:=Tryz.zeroValue3
 t4:=Tryz.underlying4
 a4:=Tryz.isAgg4
 z4:=Tryz.sizeOf4
 v4:=Tryz.zeroValue4
 t9:=Tryz.underlying9
 a9:=Tryz.isAgg9
 z9:=Tryz.sizeOf9
 v9:=Tryz.zeroValue9
 t20:=Tryz.underlying20
 a20:=Tryz.isAgg20
 z20:=Tryz.sizeOf20
 v20:=Tryz.zeroValue20
 t31:=Tryz.underlying83
 a31:=Tryz.isAgg83
 z31:=Tryz.sizeOf83
 v31:=Tryz.zeroValue83
 t37:=Tryz.underlying22
 a37:=Tryz.isAgg22
 z37:=Tryz.sizeOf22
 v37:=Tryz.zeroValue22
 t70:=Tryz.underlying70
 a70:=Tryz.isAgg70
 z70:=Tryz.sizeOf70
 v70:=Tryz.zeroValue70
 t72:=Tryz.underlying72
 a72:=Tryz.isAgg72
 z72:=Tryz.sizeOf72
 v72:=Tryz.zeroValue72
 t75:=Tryz.underlying74
 a75:=Tryz.isAgg74
 z75:=Tryz.sizeOf74
 v75:=Tryz.zeroValue74
 t76:=Tryz.underlying75
 a76:=Tryz.isAgg75
 z76:=Tryz.sizeOf75
 v76:=Tryz.zeroValue75
 t127:=Tryz.underlying121
 a127:=Tryz.isAgg121
 z127:=Tryz.sizeOf121
 v127:=Tryz.zeroValue121
 t164:=Tryz.underlying161
 a164:=Tryz.isAgg161
 z164:=Tryz.sizeOf161
 v164:=Tryz.zeroValue161 }
def Tryz.Builder_Extra_156:Builder.Extra Tryz.prog Tryz.lays156_ren:={
 sizeBuilder:=by kernel_rfl
 liesBuilder:=by kernel_rfl
 t5:=Tryz.underlying5
 a5:=Tryz.isAgg5
 z5:=Tryz.sizeOf5
 v5:=Tryz.zeroValue5
 infoByte:=by kernel_rfl
 cellsByte:=by kernel_rfl
 sizeByte:=by kernel_rfl
 neB5:=by decide }
open Go.RowKit in
open Go.RowKit in
def Tryz.strings_Join(u o c:Nat)(xs:List ByteArray)(sep:ByteArray)(w:World)(E:∀(j:Nat) x,xs[j]? = Ik x->w.cell? ⟨u,o+j,none⟩=Ik (.string x))(A:u<w.heap.size)(G:(Tw xs)<=140737488355328)(D:(Tw xs)<=c)(hlen:(Lib.join (xs.map (·.data.toList)) sep.data.toList).length<=140737488355328):
  Calls Tryz.prog 88 #[.slice (Ik ⟨u,o,none⟩) (Tw xs) c,.string sep] w λe w'=>e=.returned (.string ⟨(Lib.join (xs.map (·.data.toList)) sep.data.toList).toArray⟩)/\Below w.heap.size w w':=Any.strings_Join Tryz.lays156 Tryz.Builder_Extra_156 u o c xs sep w E A G D hlen
def Tryz.laysM173_ren:Go.Shelf.Ren:=⟨λ|173=>42|246=>87|283=>143|284=>144|285=>145|286=>146|129=>182|317=>181|318=>183|319=>184|320=>185|337=>207|338=>208|n=>n,λ|2=>2|3=>3|9=>9|4=>4|171=>163|0=>0|53=>164|37=>22|5=>5|173=>167|212=>194|51=>195|20=>20|213=>196|46=>175|232=>222|233=>223|n=>n,λ|17=>0|18=>4|19=>5|n=>n⟩
def Tryz.laysM173:Go.Proofs.LaysM.n173 Tryz.prog Tryz.laysM173_ren:={
 mixed:=by kernel_rfl
 f129:=Tryz.func182.trans (congrArg Ik (by kernel_rfl))
 f173:=Tryz.func42.trans (congrArg Ik (by kernel_rfl))
 f246:=Tryz.func87.trans (congrArg Ik (by kernel_rfl))
 f283:=Tryz.func143.trans (congrArg Ik (by kernel_rfl))
 f284:=Tryz.func144.trans (congrArg Ik (by kernel_rfl))
 f285:=Tryz.func145.trans (congrArg Ik (by kernel_rfl))
 f286:=Tryz.func146.trans (congrArg Ik (by kernel_rfl))
 f317:=Tryz.func181.trans (congrArg Ik (by kernel_rfl))
 f318:=Tryz.func183.trans (congrArg Ik (by kernel_rfl))
 f319:=Tryz.func184.trans (congrArg Ik (by kernel_rfl))
 f320:=Tryz.func185.trans (congrArg Ik (by kernel_rfl))
 f337:=Tryz.func207.trans (congrArg Ik (by kernel_rfl))
 f338:=Tryz.func208.trans (congrArg Ik (by kernel_rfl))
 t0:=Tryz.underlying0
 a0:=Tryz.isAgg0
 z0:=Tryz.sizeOf0
 v0:=Tryz.zeroValue0
 t2:=Tryz.underlying2
 a2:=Tryz.isAgg2
 z2:=Tryz.sizeOf2
 v2:=Tryz.zeroValue2
 t3:=Tryz.underlying3
 a3:=Tryz.isAgg3
 z3:=Tryz.sizeOf3
 v3:=Tryz.zeroValue3
 t4:=Tryz.underlying4
 a4:=Tryz.isAgg4
 z4:=Tryz.sizeOf4
 v4:=Tryz.zeroValue4
 t5:=Tryz.underlying5
 a5:=Tryz.isAgg5
 z5:=Tryz.sizeOf5
 v5:=Tryz.zeroValue5
 t9:=Tryz.underlying9
 a9:=Tryz.isAgg9
 z9:=Tryz.sizeOf9
 v9:=Tryz.zeroValue9
 t20:=Tryz.underlying20
 a20:=Tryz.isAgg20
 z20:=Tryz.sizeOf20
 v20:=Tryz.zeroValue20
 t37:=Tryz.underlying22
 a37:=Tryz.isAgg22
 z37:=Tryz.sizeOf22
 v37:=Tryz.zeroValue22
 t46:=Tryz.underlying175
 a46:=Tryz.isAgg175
 z46:=Tryz.sizeOf175
 v46:=Tryz.zeroValue175
 t51:=Tryz.underlying195
 a51:=Tryz.isAgg195
 z51:=Tryz.sizeOf195
 v51:=Tryz.zeroValue195
 t53:=Tryz.underlying164
 a53:=Tryz.isAgg164
 z53:=Tryz.sizeOf164
 v53:=Tryz.zeroValue164
 t171:=Tryz.underlying163
 a171:=Tryz.isAgg163
 z171:=Tryz.sizeOf163
 v171:=Tryz.zeroValue163
 t173:=Tryz.underlying167
 a173:=Tryz.isAgg167
 z173:=Tryz.sizeOf167
 v173:=Tryz.zeroValue167
 t212:=Tryz.underlying194
 a212:=Tryz.isAgg194
 z212:=Tryz.sizeOf194
 v212:=Tryz.zeroValue194
 t213:=Tryz.underlying196
 a213:=Tryz.isAgg196
 z213:=Tryz.sizeOf196
 t232:=Tryz.underlying222
 a232:=Tryz.isAgg222
 z232:=Tryz.sizeOf222
 v232:=Tryz.zeroValue222
 t233:=Tryz.underlying223
 a233:=Tryz.isAgg223
 z233:=Tryz.sizeOf223
 v233:=Tryz.zeroValue223
 g17:=by kernel_rfl
 g18:=by kernel_rfl
 g19:=by kernel_rfl
 i0:=by kernel_rfl
 i2:=by kernel_rfl
 i3:=by kernel_rfl
 i4:=by kernel_rfl
 i5:=by kernel_rfl
 i9:=by kernel_rfl
 i20:=by kernel_rfl
 i37:=by kernel_rfl
 i46:=by kernel_rfl
 i51:=by kernel_rfl
 i53:=by kernel_rfl
 i171:=by kernel_rfl
 i173:=by kernel_rfl
 i212:=by kernel_rfl
 i232:=by kernel_rfl
 i233:=by kernel_rfl
 m17:=by kernel_rfl
 m18:=by kernel_rfl
 m19:=by kernel_rfl }
open Go.RowKit Go.Sort Go.Lib in
def Tryz.strconv_FormatInt_10 (n : Int) (h0 : -9223372036854775808 ≤ n) (h1 : n ≤ 9223372036854775807) (w : World) (F9 : Lib.TabIs Tryz.prog w "internal/strconv.uint64pow10" .u64 Lib.pow10Tab) :
  Calls Tryz.prog 42 #[.int .i64 n,.int .i64 10] w λe w'=>e=.returned (.string ⟨(Lib.itoa n).toArray⟩)/\∃k os,w'=grow (w.drewN k) os:=Any.strconv_FormatInt_10 Tryz.laysM173 n h0 h1 w F9
def Tryz.laysC174_ren:Go.Shelf.Ren:=⟨λ|174=>52|247=>103|245=>104|287=>151|279=>152|280=>153|281=>154|282=>155|321=>191|322=>192|316=>193|171=>195|205=>194|243=>215|246=>87|283=>143|284=>144|285=>145|286=>146|129=>182|317=>181|318=>183|319=>184|320=>185|337=>207|338=>208|n=>n,λ|9=>9|3=>3|2=>2|75=>74|85=>85|4=>4|167=>172|5=>5|53=>164|175=>173|46=>175|168=>176|37=>22|0=>0|210=>207|21=>21|127=>121|145=>219|143=>217|171=>163|173=>167|212=>194|51=>195|20=>20|213=>196|232=>222|233=>223|80=>80|n=>n,λ|15=>1|16=>2|17=>0|18=>4|19=>5|n=>n⟩
def Tryz.laysC174:Go.Proofs.LaysC.n174 Tryz.prog Tryz.laysC174_ren:={
 mixed:=by kernel_rfl
 f129:=Tryz.func182.trans (congrArg Ik (by kernel_rfl))
 f171:=Tryz.func195.trans (congrArg Ik (by kernel_rfl))
 f174:=Tryz.func52.trans (congrArg Ik (by kernel_rfl))
 f205:=Tryz.func194.trans (congrArg Ik (by kernel_rfl))
 f243:=Tryz.func215.trans (congrArg Ik (by kernel_rfl))
 f245:=Tryz.func104.trans (congrArg Ik (by kernel_rfl))
 f246:=Tryz.func87.trans (congrArg Ik (by kernel_rfl))
 f247:=Tryz.func103.trans (congrArg Ik (by kernel_rfl))
 f279:=Tryz.func152.trans (congrArg Ik (by kernel_rfl))
 f280:=Tryz.func153.trans (congrArg Ik (by kernel_rfl))
 f281:=Tryz.func154.trans (congrArg Ik (by kernel_rfl))
 f282:=Tryz.func155.trans (congrArg Ik (by kernel_rfl))
 f283:=Tryz.func143.trans (congrArg Ik (by kernel_rfl))
 f284:=Tryz.func144.trans (congrArg Ik (by kernel_rfl))
 f285:=Tryz.func145.trans (congrArg Ik (by kernel_rfl))
 f286:=Tryz.func146.trans (congrArg Ik (by kernel_rfl))
 f287:=Tryz.func151.trans (congrArg Ik (by kernel_rfl))
 f316:=Tryz.func193.trans (congrArg Ik (by kernel_rfl))
 f317:=Tryz.func181.trans (congrArg Ik (by kernel_rfl))
 f318:=Tryz.func183.trans (congrArg Ik (by kernel_rfl))
 f319:=Tryz.func184.trans (congrArg Ik (by kernel_rfl))
 f320:=Tryz.func185.trans (congrArg Ik (by kernel_rfl))
 f321:=Tryz.func191.trans (congrArg Ik (by kernel_rfl))
 f322:=Tryz.func192.trans (congrArg Ik (by kernel_rfl))
 f337:=Tryz.func207.trans (congrArg Ik (by kernel_rfl))
 f338:=Tryz.func208.trans (congrArg Ik (by kernel_rfl))
 t0:=Tryz.underlying0
 a0:=Tryz.isAgg0
 z0:=Tryz.sizeOf0
 v0:=Tryz.zeroValue0
 t2:=Tryz.underlying2
 a2:=Tryz.isAgg2
 z2:=Tryz.sizeOf2
 v2:=Tryz.zeroValue2
 t3:=Tryz.underlying3
 a3:=Tryz.isAgg3
 z3:=Tryz.sizeOf3
 v3:=Tryz.zeroValue3
 t4:=Tryz.underlying4
 a4:=Tryz.isAgg4
 z4:=Tryz.sizeOf4
 v4:=Tryz.zeroValue4
 t5:=Tryz.underlying5
 a5:=Tryz.isAgg5
 z5:=Tryz.sizeOf5
 v5:=Tryz.zeroValue5
 t9:=Tryz.underlying9
 a9:=Tryz.isAgg9
 z9:=Tryz.sizeOf9
 v9:=Tryz.zeroValue9
 t20:=Tryz.underlying20
 a20:=Tryz.isAgg20
 z20:=Tryz.sizeOf20
 v20:=Tryz.zeroValue20
 t21:=Tryz.underlying21
 a21:=Tryz.isAgg21
 z21:=Tryz.sizeOf21
 v21:=Tryz.zeroValue21
 t37:=Tryz.underlying22
 a37:=Tryz.isAgg22
 z37:=Tryz.sizeOf22
 v37:=Tryz.zeroValue22
 t46:=Tryz.underlying175
 a46:=Tryz.isAgg175
 z46:=Tryz.sizeOf175
 v46:=Tryz.zeroValue175
 t51:=Tryz.underlying195
 a51:=Tryz.isAgg195
 z51:=Tryz.sizeOf195
 v51:=Tryz.zeroValue195
 t53:=Tryz.underlying164
 a53:=Tryz.isAgg164
 z53:=Tryz.sizeOf164
 v53:=Tryz.zeroValue164
 t75:=Tryz.underlying74
 a75:=Tryz.isAgg74
 z75:=Tryz.sizeOf74
 v75:=Tryz.zeroValue74
 t85:=Tryz.underlying85
 a85:=Tryz.isAgg85
 z85:=Tryz.sizeOf85
 v85:=Tryz.zeroValue85
 t127:=Tryz.underlying121
 a127:=Tryz.isAgg121
 z127:=Tryz.sizeOf121
 v127:=Tryz.zeroValue121
 t143:=Tryz.underlying217
 a143:=Tryz.isAgg217
 z143:=Tryz.sizeOf217
 v143:=Tryz.zeroValue217
 t145:=Tryz.underlying219
 a145:=Tryz.isAgg219
 z145:=Tryz.sizeOf219
 v145:=Tryz.zeroValue219
 t167:=Tryz.underlying172
 a167:=Tryz.isAgg172
 z167:=Tryz.sizeOf172
 v167:=Tryz.zeroValue172
 t168:=Tryz.underlying176
 a168:=Tryz.isAgg176
 z168:=Tryz.sizeOf176
 v168:=Tryz.zeroValue176
 t171:=Tryz.underlying163
 a171:=Tryz.isAgg163
 z171:=Tryz.sizeOf163
 v171:=Tryz.zeroValue163
 t173:=Tryz.underlying167
 a173:=Tryz.isAgg167
 z173:=Tryz.sizeOf167
 v173:=Tryz.zeroValue167
 t175:=Tryz.underlying173
 a175:=Tryz.isAgg173
 z175:=Tryz.sizeOf173
 v175:=Tryz.zeroValue173
 t210:=Tryz.underlying207
 a210:=Tryz.isAgg207
 z210:=Tryz.sizeOf207
 v210:=Tryz.zeroValue207
 t212:=Tryz.underlying194
 a212:=Tryz.isAgg194
 z212:=Tryz.sizeOf194
 v212:=Tryz.zeroValue194
 t213:=Tryz.underlying196
 a213:=Tryz.isAgg196
 z213:=Tryz.sizeOf196
 t232:=Tryz.underlying222
 a232:=Tryz.isAgg222
 z232:=Tryz.sizeOf222
 v232:=Tryz.zeroValue222
 t233:=Tryz.underlying223
 a233:=Tryz.isAgg223
 z233:=Tryz.sizeOf223
 v233:=Tryz.zeroValue223
 g15:=by kernel_rfl
 g16:=by kernel_rfl
 g17:=by kernel_rfl
 g18:=by kernel_rfl
 g19:=by kernel_rfl
 t80:=Tryz.underlying80
 a80:=Tryz.isAgg80
 z80:=Tryz.sizeOf80
 v80:=Tryz.zeroValue80
 i0:=by kernel_rfl
 i2:=by kernel_rfl
 i3:=by kernel_rfl
 i4:=by kernel_rfl
 i5:=by kernel_rfl
 i9:=by kernel_rfl
 i20:=by kernel_rfl
 i21:=by kernel_rfl
 i37:=by kernel_rfl
 i46:=by kernel_rfl
 i51:=by kernel_rfl
 i53:=by kernel_rfl
 i75:=by kernel_rfl
 i80:=by kernel_rfl
 i85:=by kernel_rfl
 i127:=by kernel_rfl
 i143:=by kernel_rfl
 i145:=by kernel_rfl
 i167:=by kernel_rfl
 i168:=by kernel_rfl
 i171:=by kernel_rfl
 i173:=by kernel_rfl
 i175:=by kernel_rfl
 i210:=by kernel_rfl
 i212:=by kernel_rfl
 i232:=by kernel_rfl
 i233:=by kernel_rfl
 m15:=by kernel_rfl
 m16:=by kernel_rfl
 m17:=by kernel_rfl
 m18:=by kernel_rfl
 m19:=by kernel_rfl
 c0:=by kernel_rfl
 c2:=by kernel_rfl
 c3:=by kernel_rfl
 c4:=by kernel_rfl
 c5:=by kernel_rfl
 c9:=by kernel_rfl
 c20:=by kernel_rfl
 c21:=by kernel_rfl
 c37:=by kernel_rfl
 c46:=by kernel_rfl
 c51:=by kernel_rfl
 c53:=by kernel_rfl
 c75:=by kernel_rfl
 c80:=by kernel_rfl
 c85:=by kernel_rfl
 c127:=by kernel_rfl
 c143:=by kernel_rfl
 c145:=by kernel_rfl
 c167:=by kernel_rfl
 c168:=by kernel_rfl
 c171:=by kernel_rfl
 c173:=by kernel_rfl
 c175:=by kernel_rfl
 c210:=by kernel_rfl
 c212:=by kernel_rfl
 c213:=by kernel_rfl
 c232:=by kernel_rfl
 c233:=by kernel_rfl }
open Go.RowKit in
def Tryz.strconv_ParseInt_10_at64_ok(s:ByteArray)(u:s.size<=9223372036854775806)(v:Int)(h:Lib.parseIntB 64 s.data.toList=.ok v)(w:World):
  Calls Tryz.prog 52 #[.string s,.int .i64 10,.int .i64 64] w λe w'=>e=.returned (.tuple #[.int .i64 v,.nilIface])/\(w'=w\/∃t,w'=Lib.bytesWorld w 5 t):=Any.strconv_ParseInt_10_at64_ok Tryz.laysC174 s u v h w
open Go.RowKit in
def Tryz.strconv_ParseInt_10_at64_syntax(s:ByteArray)(D:s.size<=281474976710656)(h:Lib.parseIntB 64 s.data.toList=.«syntax»)(ev:Value)(w:World)(u:w.cell? ⟨1,0,none⟩=Ik ev)(G:ev=.nilIface\/∃E A,ev=.iface E A):
  Calls Tryz.prog 52 #[.string s,.int .i64 10,.int .i64 64] w λe w'=>∃N,e=.returned (.tuple #[.int .i64 (0),.iface 176 (.pointer (Ik ⟨N,0,none⟩))])/\w.heap.size<=N/\w'.heap[N]? = Ik (.cells #[.string ⟨#[80,97,114,115,101,73,110,116]⟩,.string s,ev] 207 (0,0))/\Below w.heap.size w w':=Any.strconv_ParseInt_10_at64_syntax Tryz.laysC174 s D h ev w u G
open Go.RowKit in
def Tryz.strconv_ParseInt_10_at64_range(s:ByteArray)(D:s.size<=281474976710656)(h:Lib.parseIntB 64 s.data.toList=.range)(ev:Value)(w:World)(u:w.cell? ⟨2,0,none⟩=Ik ev)(G:ev=.nilIface\/∃E A,ev=.iface E A):
  Calls Tryz.prog 52 #[.string s,.int .i64 10,.int .i64 64] w λe w'=>∃N,e=.returned (.tuple #[.int .i64 (Lib.intSat 64 s.data.toList),.iface 176 (.pointer (Ik ⟨N,0,none⟩))])/\w.heap.size<=N/\w'.heap[N]? = Ik (.cells #[.string ⟨#[80,97,114,115,101,73,110,116]⟩,.string s,ev] 207 (0,0))/\Below w.heap.size w w':=Any.strconv_ParseInt_10_at64_range Tryz.laysC174 s D h ev w u G
def Tryz.lays145_ren:Go.Shelf.Ren:=⟨λ|145=>106|220=>157|219=>190|217=>211|225=>212|224=>213|267=>214|266=>221|314=>222|n=>n,λ|9=>9|4=>4|59=>125|3=>3|5=>5|46=>175|146=>228|51=>195|n=>n,λ|1=>3|n=>n⟩
def Tryz.lays145:Go.Proofs.Lays.n145 Tryz.prog Tryz.lays145_ren:={
 mixed:=by kernel_rfl
 f145:=Tryz.func106.trans (congrArg Ik (by kernel_rfl))
 f217:=Tryz.func211.trans (congrArg Ik (by kernel_rfl))
 f219:=Tryz.func190.trans (congrArg Ik (by kernel_rfl))
 f220:=Tryz.func157.trans (congrArg Ik (by kernel_rfl))
 f224:=Tryz.func213.trans (congrArg Ik (by kernel_rfl))
 f225:=Tryz.func212.trans (congrArg Ik (by kernel_rfl))
 f266:=Tryz.func221.trans (congrArg Ik (by kernel_rfl))
 f267:=Tryz.func214.trans (congrArg Ik (by kernel_rfl))
 f314:=Tryz.func222.trans (congrArg Ik (by kernel_rfl))
 t3:=Tryz.underlying3
 a3:=Tryz.isAgg3
 z3:=Tryz.sizeOf3
 v3:=Tryz.zeroValue3
 t4:=Tryz.underlying4
 a4:=Tryz.isAgg4
 z4:=Tryz.sizeOf4
 v4:=Tryz.zeroValue4
 t5:=Tryz.underlying5
 a5:=Tryz.isAgg5
 z5:=Tryz.sizeOf5
 v5:=Tryz.zeroValue5
 t9:=Tryz.underlying9
 a9:=Tryz.isAgg9
 z9:=Tryz.sizeOf9
 v9:=Tryz.zeroValue9
 t46:=Tryz.underlying175
 a46:=Tryz.isAgg175
 z46:=Tryz.sizeOf175
 v46:=Tryz.zeroValue175
 t51:=Tryz.underlying195
 a51:=Tryz.isAgg195
 z51:=Tryz.sizeOf195
 v51:=Tryz.zeroValue195
 t59:=Tryz.underlying125
 a59:=Tryz.isAgg125
 z59:=Tryz.sizeOf125
 v59:=Tryz.zeroValue125
 t146:=Tryz.underlying228
 a146:=Tryz.isAgg228
 z146:=Tryz.sizeOf228
 v146:=Tryz.zeroValue228
 g1:=by kernel_rfl }
open Go.RowKit Go.Lib in
def Tryz.strings_Cut(s sep:ByteArray)(m:Int)(w:World)(hs:s.size<4294967281)(u:w.cell? ⟨3,0,none⟩=Ik (.int .i64 m)):
  Calls Tryz.prog 106 #[.string s,.string sep] w λe w'=>e=.returned (.tuple #[.string ⟨(Lib.cut s.data.toList sep.data.toList).1.toArray⟩,.string ⟨(Lib.cut s.data.toList sep.data.toList).2.1.toArray⟩,.bool (Lib.cut s.data.toList sep.data.toList).2.2])/\∃n,w'=w.drewN n:=Any.strings_Cut Tryz.lays145 s sep m w hs u
def Tryz.lays146_ren:Go.Shelf.Ren:=⟨λ|146=>51|221=>102|268=>148|138=>149|143=>150|195=>187|197=>188|218=>189|219=>190|260=>210|217=>211|225=>212|224=>213|267=>214|266=>221|314=>222|n=>n,λ|9=>9|31=>83|3=>3|4=>4|0=>0|105=>200|21=>21|5=>5|46=>175|119=>224|139=>227|138=>226|146=>228|51=>195|n=>n,λ|1=>3|3=>6|4=>7|n=>n⟩
def Tryz.lays146:Go.Proofs.Lays.n146 Tryz.prog Tryz.lays146_ren:={
 mixed:=by kernel_rfl
 f138:=Tryz.func149.trans (congrArg Ik (by kernel_rfl))
 f143:=Tryz.func150.trans (congrArg Ik (by kernel_rfl))
 f146:=Tryz.func51.trans (congrArg Ik (by kernel_rfl))
 f195:=Tryz.func187.trans (congrArg Ik (by kernel_rfl))
 f197:=Tryz.func188.trans (congrArg Ik (by kernel_rfl))
 f217:=Tryz.func211.trans (congrArg Ik (by kernel_rfl))
 f218:=Tryz.func189.trans (congrArg Ik (by kernel_rfl))
 f219:=Tryz.func190.trans (congrArg Ik (by kernel_rfl))
 f221:=Tryz.func102.trans (congrArg Ik (by kernel_rfl))
 f224:=Tryz.func213.trans (congrArg Ik (by kernel_rfl))
 f225:=Tryz.func212.trans (congrArg Ik (by kernel_rfl))
 f260:=Tryz.func210.trans (congrArg Ik (by kernel_rfl))
 f266:=Tryz.func221.trans (congrArg Ik (by kernel_rfl))
 f267:=Tryz.func214.trans (congrArg Ik (by kernel_rfl))
 f268:=Tryz.func148.trans (congrArg Ik (by kernel_rfl))
 f314:=Tryz.func222.trans (congrArg Ik (by kernel_rfl))
 t0:=Tryz.underlying0
 a0:=Tryz.isAgg0
 z0:=Tryz.sizeOf0
 v0:=Tryz.zeroValue0
 t3:=Tryz.underlying3
 a3:=Tryz.isAgg3
 z3:=Tryz.sizeOf3
 v3:=Tryz.zeroValue3
 t4:=Tryz.underlying4
 a4:=Tryz.isAgg4
 z4:=Tryz.sizeOf4
 v4:=Tryz.zeroValue4
 t5:=Tryz.underlying5
 a5:=Tryz.isAgg5
 z5:=Tryz.sizeOf5
 v5:=Tryz.zeroValue5
 t9:=Tryz.underlying9
 a9:=Tryz.isAgg9
 z9:=Tryz.sizeOf9
 v9:=Tryz.zeroValue9
 t21:=Tryz.underlying21
 a21:=Tryz.isAgg21
 z21:=Tryz.sizeOf21
 v21:=Tryz.zeroValue21
 t31:=Tryz.underlying83
 a31:=Tryz.isAgg83
 z31:=Tryz.sizeOf83
 v31:=Tryz.zeroValue83
 t46:=Tryz.underlying175
 a46:=Tryz.isAgg175
 z46:=Tryz.sizeOf175
 v46:=Tryz.zeroValue175
 t51:=Tryz.underlying195
 a51:=Tryz.isAgg195
 z51:=Tryz.sizeOf195
 v51:=Tryz.zeroValue195
 t105:=Tryz.underlying200
 a105:=Tryz.isAgg200
 z105:=Tryz.sizeOf200
 v105:=Tryz.zeroValue200
 t119:=Tryz.underlying224
 a119:=Tryz.isAgg224
 z119:=Tryz.sizeOf224
 t138:=Tryz.underlying226
 a138:=Tryz.isAgg226
 z138:=Tryz.sizeOf226
 v138:=Tryz.zeroValue226
 t139:=Tryz.underlying227
 a139:=Tryz.isAgg227
 z139:=Tryz.sizeOf227
 v139:=Tryz.zeroValue227
 t146:=Tryz.underlying228
 a146:=Tryz.isAgg228
 z146:=Tryz.sizeOf228
 v146:=Tryz.zeroValue228
 g1:=by kernel_rfl
 g3:=by kernel_rfl
 g4:=by kernel_rfl }
open Go.RowKit Go.Lib in
def Tryz.strings_Split(s sep:ByteArray)(m:Int)(w:World)(hs:s.size<4294967281)(A:w.cell? ⟨3,0,none⟩=Ik (.int .i64 m))(u:1<=sep.size):
  Calls Tryz.prog 51 #[.string s,.string sep] w λe w'=>
   e=.returned (.slice (Ik ⟨w.heap.size,0,none⟩) (Lib.countB s sep+1) (Lib.countB s sep+1))/\w'=w.alloc (.cells ((Lib.splitB sep 0 (Lib.countB s sep) s).map Value.string).toArray 9):=Any.strings_Split Tryz.lays146 (by kernel_rfl) s sep m w hs A u
end
section
open Go.Ab
def rH(d s:Nat):II:=⟨Ik d,.mv (.t s),Im,none⟩
def kI0(d:Nat)(k:Int):II:=⟨Ik d,.mv (.c (.int .i64 k)),Im,none⟩
def tI0(d:Nat)(k:Bool):II:=⟨Ik d,.mv (.c (.bool k)),Im,none⟩
def lI0(d s:Nat):II:=⟨Ik d,.load false 1 (.t s),Im,none⟩
def LI0(d s:Nat):II:=⟨Ik d,.load Im 3 (.t s),Im,none⟩
def fI0(d o s:Nat):II:=⟨Ik d,.fieldAddr o (.t s),Im,none⟩
def xI0(d a i:Nat):II:=⟨Ik d,.indexAddr 1 (.t a) (.t i),Im,none⟩
def bI0(d:Nat)(o:BinOp)(a b:Nat):II:=⟨Ik d,.bin o .other (.t a) (.t b),Im,none⟩
def BY(d:Nat)(o:BinOp)(a:Nat)(k:Int):II:=⟨Ik d,.bin o .other (.t a) (.c (.int .i64 k)),Im,none⟩
def nI0(d s:Nat):II:=⟨Ik d,.un .not (.t s),Im,none⟩
def sI0(d s:Nat):II:=⟨Ik d,.len (.t s),Im,none⟩
def pI0(d s:Nat):II:=⟨Ik d,.nilCheck (.t s),Im,none⟩
def eI0(d s i:Nat):II:=⟨Ik d,.extract (.t s) i,Im,none⟩
def C0(d f:Nat):II:=⟨Ik d,.call f [],false,none⟩
def C1(d f a:Nat):II:=⟨Ik d,.call f [.t a],false,none⟩
def C2(d f a b:Nat):II:=⟨Ik d,.call f [.t a,.t b],false,none⟩
def C3(d f a b c:Nat):II:=⟨Ik d,.call f [.t a,.t b,.t c],false,none⟩
def ta(d s n:Nat):DI:=⟨⟨Ik d,.mv (.t s),Im,none⟩,n,[]⟩
def uY(d s n:Nat):DI:=⟨⟨Ik d,.load false 1 (.t s),Im,none⟩,n,[]⟩
def E2(d o s n:Nat):DI:=⟨⟨Ik d,.fieldAddr o (.t s),Im,none⟩,n,[]⟩
def xD0(d a i n:Nat):DI:=⟨⟨Ik d,.indexAddr 1 (.t a) (.t i),Im,none⟩,n,[]⟩
def pD0(d s n:Nat):DI:=⟨⟨Ik d,.nilCheck (.t s),Im,none⟩,n,[]⟩
def I0(k:Int):IX:=.c (.int .i64 k)
def G0(d:Nat)(o:tT)(q:Bool)(t:Nat)(b:Bool):II:=⟨Ik d,o,q,Ik (t,b)⟩
def gm0(d s t:Nat)(b:Bool):II:=⟨Ik d,.mv (.t s),Im,Ik (t,b)⟩
def oI0(d a b:Nat):II:=⟨Ik d,.pick (.t a) (.c (.bool Im)) (.t b),Im,none⟩
def aI0(d a b:Nat):II:=⟨Ik d,.pick (.t a) (.t b) (.c (.bool false)),Im,none⟩
def zI0(d:Nat):II:=⟨Ik d,.mv (.c .cU),Im,none⟩
def yI0(d a:Nat)(k:Int):II:=⟨Ik d,.indexAddr 1 (.t a) (.c (.int .i64 k)),Im,none⟩
def vI0(n a b:Nat):II:=⟨none,.store n (.t a) (.t b),false,none⟩
def wD0(n a b i:Nat):DI:=⟨⟨none,.store n (.t a) (.t b),false,none⟩,i,[]⟩
def R0(l:List Nat)(i:List II):IC:=.region l i
def S0(a b:IC):IC:=.seq a b
open Tryz
def mix:Tryz.prog.follows .mixedOrders=Im:=by kernel_rfl
def Tn{f:FuncId}{l:Func}(A:Tryz.prog.funcs[f]? = Ik l){args:List PV}{K:PV->dj->Prop}{σ:dj}{p:List Nat}{r:List B1}{b:IC}(C:vp Tryz.prog b (retP r K) (gr.mk p args) σ)(u:cF Tryz.prog l=Ik ⟨p,r,b⟩:=by conv=>lhs;cbv)(D:(Tw args)=Tw p:=by rfl):zA Tryz.prog f args σ K:=zD mix A C u D
def To{f:FuncId}{l:Func}(A:Tryz.prog.funcs[f]? = Ik l){args:List PV}{K:PV->dj->Prop}{σ:dj}{p:List Nat}{r:List B1}{b:IC}(C:vp Tryz.prog b (retP r (Gh σ K)) (gr.mk p args) σ)(u:cF Tryz.prog l=Ik ⟨p,r,b⟩:=by conv=>lhs;cbv)(D:(Tw args)=Tw p:=by rfl):zA Tryz.prog f args σ K:=zA.gh (zD mix A C u D)
def if25:IFn:=⟨[0],[(.cell 2 Im 3),(.tmp 3)],(S0 (R0 [1,2] [eI 1 (.box (.t 0)),eI 2 (.alloc [(.int .i64 0),.cU,.cU]),kI0 3 0])
 (S0 (.seq (R0 [1,2,6] [LI0 4 1,C1 5 46 4,nI0 6 5])
 (.cond (.t 6) (S0 (R0 [2,3] [qI 7 (.build [(.int .i64 0),.cU,.cU] []),vI0 3 2 7,kI0 3 1])
 .ret) .skip))
 (S0 (.seq (R0 [1,2,10] [LI0 8 1,C1 9 58 8,BY 10 .gtr 9 128])
 (.cond (.t 10) (S0 (R0 [2,3] [qI 11 (.build [(.int .i64 0),.cU,.cU] []),vI0 3 2 11,kI0 3 3])
 .ret) .skip))
 (S0 (.seq (R0 [1,2,14] [LI0 12 1,C1 13 59 12,nI0 14 13])
 (.cond (.t 14) (S0 (R0 [2,3] [qI 15 (.build [(.int .i64 0),.cU,.cU] []),vI0 3 2 15,kI0 3 4])
 .ret) .skip))
 (S0 (.tree [2,3] (.q (qD 16 (.load Im 3 (.t 1)) 0) (.q (qD 19 (.load Im 3 (.t 1)) 3) (.e (eD 17 (.call 60 [(.t 16)]) 1 [3]) (.e (eD 18 (.buildSl 3 1 [.cU,.cU,.cU] [(0,3,(.t 17))]) 2 [3]) (.e (eD 20 (.call 61 [(.t 19)]) 4 []) (.q (qD 21 (.build [(.int .i64 0),.cU,.cU] [(0,1,(I0 1)),(1,1,(.t 18)),(2,1,(.t 20))]) 5) (.e (wD0 3 2 21 6) (.q (qD 3 (.mv (I0 0)) 7) .done) .none)) .none) (.e (eD 20 (.call 61 [(.t 19)]) 4 []) (.e (eD 18 (.buildSl 3 1 [.cU,.cU,.cU] [(0,3,(.t 17))]) 2 [3]) (.q (qD 21 (.build [(.int .i64 0),.cU,.cU] [(0,1,(I0 1)),(1,1,(.t 18)),(2,1,(.t 20))]) 5) (.e (wD0 3 2 21 6) (.q (qD 3 (.mv (I0 0)) 7) .done) .none)) .none) .none)) .none))))
 .ret)))))⟩
def cf25:cF prog f25=Ik if25:=by kernel_rfl
def if48:IFn:=⟨[0],[(.tmp 2)],(S0 (R0 [0] [qI 2 (.mv (.c (.str [])))])
 (S0 (.seq (R0 [0,4] [rH 3 0,BY 4 .lss 3 10])
 (.cond (.t 4) (S0 (R0 [2] [rH 5 0,qI 6 (.bin .add .other (I0 48) (.t 5)),qI 7 (.conv .u8 (.t 6)),eI 8 (.buildSl 1 1 [(.int .u8 0)] [(0,1,(.t 7))]),eI 9 (.strOf (.t 8)),rH 2 9])
 .ret) .skip))
 (S0 (.tree [2] (.q (ta 10 0 0) (.q (qD 11 (.bin .quo .other (.t 10) (I0 10)) 1) (.q (ta 13 0 3) (.q (qD 14 (.bin .rem .other (.t 13) (I0 10)) 4) (.q (qD 15 (.bin .add .other (I0 48) (.t 14)) 5) (.q (qD 16 (.conv .u8 (.t 15)) 6) (.e (eD 12 (.call 48 [(.t 11)]) 2 []) (.e (eD 17 (.buildSl 1 1 [(.int .u8 0)] [(0,1,(.t 16))]) 7 []) (.e (eD 18 (.strOf (.t 17)) 8 []) (.q (qD 19 (.bin .add .other (.t 12) (.t 18)) 9) (.q (ta 2 19 10) .done)) .none) .none) (.e (eD 17 (.buildSl 1 1 [(.int .u8 0)] [(0,1,(.t 16))]) 7 []) (.e (eD 12 (.call 48 [(.t 11)]) 2 []) (.e (eD 18 (.strOf (.t 17)) 8 []) (.q (qD 19 (.bin .add .other (.t 12) (.t 18)) 9) (.q (ta 2 19 10) .done)) .none) (.e (eD 18 (.strOf (.t 17)) 8 []) (.e (eD 12 (.call 48 [(.t 11)]) 2 []) (.q (qD 19 (.bin .add .other (.t 12) (.t 18)) 9) (.q (ta 2 19 10) .done)) .none) .none)) .none)))))))))
 .ret)))⟩
def cf48:cF prog f48=Ik if48:=by kernel_rfl
def if49:IFn:=⟨[0],[(.tmp 2)],(S0 (R0 [1] [eI 1 (.box (.t 0)),qI 2 (.mv (.c (.str [])))])
 (S0 (R0 [1,3] [fI0 9 0 1,lI0 10 9,sI0 11 10,rH 3 11])
 (S0 (R0 [1,3,4] [qI 4 (.mv (.c (.str [])))])
 (S0 (.seq (R0 [1,3,4,13] [rH 12 3,BY 13 .eql 12 0])
 (.cond (.t 13) (S0 (R0 [2] [qI 2 (.mv (.c (.str [49])))])
 .ret) .skip))
 (S0 (.seq (R0 [1,3,4,5] [kI0 5 0])
 (.block 0 (.loop [1,3,4,5] (S0 (.seq (R0 [1,3,4,5,16] [rH 14 5,rH 15 3,bI0 16 .lss 14 15])
 (.cond (.t 16) .skip (.exit 0)))
 (S0 (.block 1 (S0 (.seq (R0 [1,3,4,5,20] [rH 19 5,BY 20 .gtr 19 0])
 (.cond (.t 20) (R0 [1,3,4,5] [rH 21 4,qI 22 (.bin .add .other (.t 21) (.c (.str [32]))),rH 4 22]) .skip))
 (R0 [1,3,4,5] [rH 23 4,fI0 24 0 1,lI0 25 24,rH 26 5,xI0 27 25 26,lI0 28 27,C1 29 48 28,bI0 30 .add 23 29,rH 4 30])))
 (R0 [1,3,4,5] [rH 17 5,BY 18 .add 17 1,rH 5 18]))))))
 (S0 (.seq (R0 [1,3,4,6] [kI0 6 0])
 (.block 2 (.loop [1,3,4,6] (S0 (.seq (R0 [1,3,4,6,33] [rH 31 6,rH 32 3,bI0 33 .lss 31 32])
 (.cond (.t 33) .skip (.exit 2)))
 (S0 (.block 3 (S0 (R0 [1,3,4,6,42] [fI0 36 1 1,lI0 37 36,rH 38 6,xI0 39 37 38,lI0 40 39,C1 41 97 40,nI0 42 41])
 (.cond (.t 42) (.draw [1,3,4,6] [] [ta 43 4 0,qD 44 (.bin .add .other (.t 43) (.c (.str [59,32]))) 1,ta 45 6 2,E2 49 0 1 6,uY 50 49 7,ta 51 6 8,xD0 52 50 51 9,uY 53 52 10,E2 57 1 1 14,uY 58 57 15,ta 59 6 16,xD0 60 58 59 17,uY 61 60 18,eD 46 (.call 98 [(.t 45)]) 3 [7,10,15,18],qD 47 (.bin .add .other (.t 44) (.t 46)) 4,qD 48 (.bin .add .other (.t 47) (.c (.str [94]))) 5,eD 54 (.call 48 [(.t 53)]) 11 [15,18],qD 55 (.bin .add .other (.t 48) (.t 54)) 12,qD 56 (.bin .add .other (.t 55) (.c (.str [61]))) 13,eD 62 (.call 100 [(.t 61)]) 19 [],eD 63 (.call 99 [(.t 62)]) 20 [],qD 64 (.bin .add .other (.t 56) (.t 63)) 21,ta 4 64 22]) .skip)))
 (R0 [1,3,4,6] [rH 34 6,BY 35 .add 34 1,rH 6 35]))))))
 (S0 (.seq (R0 [1,3,4,7] [kI0 7 0])
 (.block 4 (.loop [1,3,4,7] (S0 (.seq (R0 [1,3,4,7,67] [rH 65 7,rH 66 3,bI0 67 .lss 65 66])
 (.cond (.t 67) .skip (.exit 4)))
 (S0 (.block 5 (S0 (R0 [1,3,4,7,8] [rH 70 7,BY 71 .add 70 1,rH 8 71])
 (.block 6 (.loop [1,3,4,7,8] (S0 (.seq (R0 [1,3,4,7,8,74] [rH 72 8,rH 73 3,bI0 74 .lss 72 73])
 (.cond (.t 74) .skip (.exit 6)))
 (S0 (.block 7 (S0 (.draw [1,3,4,7,8,92] [] [E2 77 2 1 0,uY 78 77 1,ta 79 7 2,xD0 80 78 79 3,uY 81 80 4,ta 82 8 5,ta 83 7 6,qD 84 (.bin .sub .other (.t 82) (.t 83)) 7,qD 85 (.bin .sub .other (.t 84) (I0 1)) 8,xD0 86 81 85 9,uY 87 86 10,ta 88 3 11,ta 89 8 12,eD 90 (.call 71 [(.t 88),(.t 89)]) 13 [1,4,10],eD 91 (.call 101 [(.t 87),(.t 90)]) 14 [],qD 92 (.un .not (.t 91)) 15])
 (.cond (.t 92) (.draw [1,3,4,7,8] [] [ta 93 4 0,qD 94 (.bin .add .other (.t 93) (.c (.str [59,32]))) 1,ta 95 8 2,ta 99 7 6,E2 103 2 1 10,uY 104 103 11,ta 105 7 12,xD0 106 104 105 13,uY 107 106 14,ta 108 8 15,ta 109 7 16,qD 110 (.bin .sub .other (.t 108) (.t 109)) 17,qD 111 (.bin .sub .other (.t 110) (I0 1)) 18,xD0 112 107 111 19,uY 113 112 20,eD 96 (.call 98 [(.t 95)]) 3 [11,14,20],qD 97 (.bin .add .other (.t 94) (.t 96)) 4,qD 98 (.bin .add .other (.t 97) (.c (.str [94]))) 5,eD 100 (.call 98 [(.t 99)]) 7 [11,14,20],qD 101 (.bin .add .other (.t 98) (.t 100)) 8,qD 102 (.bin .add .other (.t 101) (.c (.str [61]))) 9,eD 114 (.call 100 [(.t 113)]) 21 [],eD 115 (.call 99 [(.t 114)]) 22 [],qD 116 (.bin .add .other (.t 102) (.t 115)) 23,ta 4 116 24]) .skip)))
 (R0 [1,3,4,7,8] [rH 75 8,BY 76 .add 75 1,rH 8 76])))))))
 (R0 [1,3,4,7] [rH 68 7,BY 69 .add 68 1,rH 7 69]))))))
 (S0 (R0 [2] [rH 117 4,rH 2 117])
 .ret))))))))⟩
def cf49:cF prog f49=Ik if49:=by kernel_rfl
def if55:IFn:=⟨[0,1],[(.cell 4 Im 3)],(S0 (R0 [2,3,4] [eI 2 (.box (.t 0)),eI 3 (.box (.t 1)),eI 4 (.alloc [.cU,.cU,.cU])])
 (S0 (.draw [2,3,4,5,6] [] [E2 12 0 2 0,uY 13 12 1,qD 14 (.len (.t 13)) 2,E2 15 0 3 3,uY 16 15 4,qD 17 (.len (.t 16)) 5,ta 5 14 6,ta 6 17 7])
 (S0 (.draw [2,3,4,5,6,7] [[.cU,.cU,.cU]] [E2 18 0 2 0,uY 19 18 1,E2 21 0 3 3,uY 22 21 4,qD 7 (.rev 0) 7,eD 20 (.call 66 [(.t 19)]) 2 [4],eD 23 (.append 1 8 (.t 20) (.t 22)) 5 [],eD 24 (.call 57 [(.t 23)]) 6 [],wD0 3 7 24 8])
 (S0 (.seq (R0 [2,3,4,5,6,7,8] [kI0 8 0])
 (.block 0 (.loop [2,3,4,5,6,7,8] (S0 (.seq (R0 [2,3,4,5,6,7,8,27] [rH 25 8,rH 26 5,bI0 27 .lss 25 26])
 (.cond (.t 27) .skip (.exit 0)))
 (S0 (.block 1 (S0 (.draw [2,3,4,5,6,7,8] [] [E2 30 1 7 0,uY 31 30 1,ta 32 8 2,E2 33 1 2 3,uY 34 33 4,ta 35 8 5,xD0 36 34 35 6,uY 37 36 7,ta 38 6 8,eD 39 (.call 114 [(I0 0),(.t 37),(.t 38)]) 9 [1],xD0 40 31 32 10,wD0 1 40 39 11])
 (S0 (R0 [2,3,4,5,6,7,8,9] [kI0 9 0])
 (.block 2 (.loop [2,3,4,5,6,7,8,9] (S0 (.seq (R0 [2,3,4,5,6,7,8,9,48] [rH 41 9,fI0 42 2 2,lI0 43 42,rH 44 8,xI0 45 43 44,lI0 46 45,sI0 47 46,bI0 48 .lss 41 47])
 (.cond (.t 48) .skip (.exit 2)))
 (S0 (.block 3 (.draw [2,3,4,5,6,7,8,9] [] [E2 51 2 7 0,uY 52 51 1,ta 53 8 2,xD0 54 52 53 3,uY 55 54 4,ta 56 9 5,E2 57 2 2 6,uY 58 57 7,ta 59 8 8,xD0 60 58 59 9,uY 61 60 10,ta 62 9 11,xD0 63 61 62 12,uY 64 63 13,ta 65 6 14,eD 66 (.call 114 [(I0 0),(.t 64),(.t 65)]) 15 [1,4],xD0 67 55 56 16,wD0 1 67 66 17]))
 (R0 [2,3,4,5,6,7,8,9] [rH 49 9,BY 50 .add 49 1,rH 9 50]))))))))
 (R0 [2,3,4,5,6,7,8] [rH 28 8,BY 29 .add 28 1,rH 8 29]))))))
 (S0 (.seq (R0 [3,4,5,6,7,10] [kI0 10 0])
 (.block 4 (.loop [3,4,5,6,7,10] (S0 (.seq (R0 [3,4,5,6,7,10,70] [rH 68 10,rH 69 6,bI0 70 .lss 68 69])
 (.cond (.t 70) .skip (.exit 4)))
 (S0 (.block 5 (S0 (.draw [3,4,5,6,7,10] [] [E2 73 1 7 0,uY 74 73 1,ta 75 5 2,ta 76 10 3,qD 77 (.bin .add .other (.t 75) (.t 76)) 4,ta 78 5 5,E2 79 1 3 6,uY 80 79 7,ta 81 10 8,xD0 82 80 81 9,uY 83 82 10,eD 84 (.call 114 [(.t 78),(.t 83),(I0 0)]) 11 [1],xD0 85 74 77 12,wD0 1 85 84 13])
 (S0 (R0 [3,4,5,6,7,10,11] [kI0 11 0])
 (.block 6 (.loop [3,4,5,6,7,10,11] (S0 (.seq (R0 [3,4,5,6,7,10,11,93] [rH 86 11,fI0 87 2 3,lI0 88 87,rH 89 10,xI0 90 88 89,lI0 91 90,sI0 92 91,bI0 93 .lss 86 92])
 (.cond (.t 93) .skip (.exit 6)))
 (S0 (.block 7 (.draw [3,4,5,6,7,10,11] [] [E2 96 2 7 0,uY 97 96 1,ta 98 5 2,ta 99 10 3,qD 100 (.bin .add .other (.t 98) (.t 99)) 4,xD0 101 97 100 5,uY 102 101 6,ta 103 11 7,ta 104 5 8,E2 105 2 3 9,uY 106 105 10,ta 107 10 11,xD0 108 106 107 12,uY 109 108 13,ta 110 11 14,xD0 111 109 110 15,uY 112 111 16,eD 113 (.call 114 [(.t 104),(.t 112),(I0 0)]) 17 [1,6],xD0 114 102 103 18,wD0 1 114 113 19]))
 (R0 [3,4,5,6,7,10,11] [rH 94 11,BY 95 .add 94 1,rH 11 95]))))))))
 (R0 [3,4,5,6,7,10] [rH 71 10,BY 72 .add 71 1,rH 10 72]))))))
 (S0 (R0 [4] [LI0 115 7,vI0 3 4 115])
 .ret))))))⟩
def cf55:cF prog f55=Ik if55:=by kernel_rfl
def if82:IFn:=⟨[0,1],[(.cell 4 Im 3)],(S0 (R0 [0,3,4] [eI 3 (.box (.t 1)),eI 4 (.alloc [.cU,.cU,.cU])])
 (S0 (R0 [0,4,5] [LI0 6 3,C1 7 60 6,eI 5 (.alloc [.cU,.cU,.cU]),vI0 3 5 7])
 (S0 (.seq (R0 [0,4,5,9] [rH 8 0,eI 9 (.call 14 [(.t 8),(I0 6)])])
 (.block 0 (S0 (R0 [0,4,5,9,17] [BY 18 .eql 9 0,rH 17 18])
 (.cond (.t 17) (R0 [4,5] [fI0 19 0 5,lI0 20 19,eI 21 (.buildSl 1 1 [(.int .i64 0)] [(0,1,(I0 2))]),eI 22 (.append 1 8 (.t 20) (.t 21)),fI0 23 0 5,vI0 1 23 22]) (S0 (R0 [0,4,5,9,24] [BY 25 .eql 9 1,rH 24 25])
 (.cond (.t 24) (S0 (R0 [0,4,5,29] [fI0 26 0 5,lI0 27 26,sI0 28 27,BY 29 .gtr 28 0])
 (.cond (.t 29) (.draw [4,5] [] [E2 30 0 5 0,uY 31 30 1,ta 32 0 2,eD 33 (.buildSl 1 5 [(.int .i64 0)] [(0,1,(I0 4)),(1,1,(I0 1)),(2,1,(I0 11)),(3,1,(I0 0)),(4,1,(I0 (-2)))]) 3 [1],eD 34 (.call 36 [(.t 32),(.t 33)]) 4 [1],qD 35 (.indexAddr 1 (.t 31) (I0 0)) 5,wD0 1 35 34 6]) .skip)) (S0 (R0 [0,4,5,9,36] [BY 37 .eql 9 2,rH 36 37])
 (.cond (.t 36) (S0 (R0 [4,5,41] [fI0 38 1 5,lI0 39 38,sI0 40 39,BY 41 .gtr 40 0])
 (.cond (.t 41) (.draw [4,5] [[(.int .i64 0)]] [E2 42 1 5 0,uY 43 42 1,E2 44 1 5 2,uY 45 44 3,qD 46 (.indexAddr 1 (.t 45) (I0 0)) 4,uY 47 46 5,qD 49 (.revS 0 1) 7,eD 48 (.call 66 [(.t 47)]) 6 [1],eD 50 (.append 1 8 (.t 48) (.t 49)) 8 [1],qD 51 (.indexAddr 1 (.t 43) (I0 0)) 9,wD0 1 51 50 10]) .skip)) (S0 (R0 [0,4,5,9,52] [BY 53 .eql 9 3,rH 52 53])
 (.cond (.t 52) (S0 (R0 [4,5,65] [fI0 54 1 5,lI0 55 54,sI0 56 55,BY 57 .gtr 56 0,rH 58 57,G0 59 (.fieldAddr 1 (.t 5)) Im 58 Im,G0 60 (.load false 1 (.t 59)) Im 58 Im,G0 61 (.indexAddr 1 (.t 60) (I0 0)) Im 58 Im,G0 62 (.load false 1 (.t 61)) Im 58 Im,G0 63 (.len (.t 62)) Im 58 Im,G0 64 (.bin .gtr .other (.t 63) (I0 0)) Im 58 Im,aI0 65 58 64])
 (.cond (.t 65) (R0 [4,5] [fI0 66 1 5,lI0 67 66,yI0 68 67 0,lI0 69 68,yI0 70 69 0,nI (.store 1 (.t 70) (I0 1))]) .skip)) (S0 (R0 [0,4,5,71] [BY 72 .eql 9 4,rH 71 72])
 (.cond (.t 71) (S0 (R0 [4,5,76] [fI0 73 2 5,lI0 74 73,sI0 75 74,BY 76 .gtr 75 0])
 (.cond (.t 76) (.tree [4,5] (.q (E2 77 2 5 0) (.q (uY 78 77 1) (.q (E2 79 2 5 2) (.q (uY 80 79 3) (.q (qD 81 (.indexAddr 1 (.t 80) (I0 0)) 4) (.q (uY 82 81 5) (.q (E2 84 0 5 7) (.q (uY 85 84 8) (.q (qD 86 (.len (.t 85)) 9) (.e (eD 83 (.call 35 [(.t 82)]) 6 [1,8]) (.e (eD 87 (.makeSl 1 8 [(.int .i64 0)] (.t 86) (.t 86)) 10 [1,3,5]) (.e (eD 88 (.buildSl 1 1 [.cU] [(0,1,(.t 87))]) 11 [1,3,5]) (.e (eD 89 (.append 1 24 (.t 83) (.t 88)) 12 [1]) (.q (qD 90 (.indexAddr 1 (.t 78) (I0 0)) 13) (.e (wD0 1 90 89 14) .done .none)) .none) .none) .none) (.e (eD 87 (.makeSl 1 8 [(.int .i64 0)] (.t 86) (.t 86)) 10 [1,3,5]) (.e (eD 83 (.call 35 [(.t 82)]) 6 [1,8]) (.e (eD 88 (.buildSl 1 1 [.cU] [(0,1,(.t 87))]) 11 [1,3,5]) (.e (eD 89 (.append 1 24 (.t 83) (.t 88)) 12 [1]) (.q (qD 90 (.indexAddr 1 (.t 78) (I0 0)) 13) (.e (wD0 1 90 89 14) .done .none)) .none) .none) (.e (eD 88 (.buildSl 1 1 [.cU] [(0,1,(.t 87))]) 11 [1,3,5]) (.e (eD 83 (.call 35 [(.t 82)]) 6 [1,8]) (.e (eD 89 (.append 1 24 (.t 83) (.t 88)) 12 [1]) (.q (qD 90 (.indexAddr 1 (.t 78) (I0 0)) 13) (.e (wD0 1 90 89 14) .done .none)) .none) .none) .none)) .none)))))))))))) .skip)) (S0 (R0 [0,4,5] [eI 10 (.buildSl 1 4 [(.int .i64 0)] [(0,1,(I0 7)),(1,1,(I0 7)),(2,1,(I0 7)),(3,1,(I0 7))]),C1 11 57 10,vI0 3 5 11])
 (S0 (R0 [4,5,14] [rH 12 0,eI 13 (.call 14 [(.t 12),(I0 2)]),BY 14 .eql 13 0])
 (.cond (.t 14) (R0 [4,5] [eI 15 (.buildSl 1 7 [(.int .i64 0)] [(0,1,(I0 2)),(1,1,(I0 2)),(2,1,(I0 2)),(3,1,(I0 2)),(4,1,(I0 2)),(5,1,(I0 2)),(6,1,(I0 2))]),C1 16 57 15,vI0 3 5 16]) .skip)))))))))))))))
 (S0 (R0 [4] [LI0 91 5,vI0 3 4 91])
 .ret))))⟩
def cf82:cF prog f82=Ik if82:=by kernel_rfl
end
section
open Go.Ab
def zDF{n A D:Int}(E:K (.bool (decide (A<=n/\n<=D))) σ):zA Tryz.prog 38 [.int .i64 n,.int .i64 A,.int .i64 D] σ K:=by
 refine Tn Tryz.func38 ?_;by_cases u:A<=n
 .simp only[Z3,seval,-ae,u];exact pke E ⟨λx=>x.2,λx=>⟨u,x⟩⟩
 .simp only[Z3,seval,-ae,u];exact pkf E aH
def QZ{n A D:Int}(E:K (.bool (decide (A<=n/\n<=D))) σ):zA Tryz.prog 47 [.int .i64 n,.int .i64 A,.int .i64 D] σ K:=by
 refine Tn Tryz.func47 ?_;by_cases u:A<=n
 .simp only[Z3,seval,-ae,u];exact pke E ⟨λx=>x.2,λx=>⟨u,x⟩⟩
 .simp only[Z3,seval,-ae,u];exact pkf E aH
def isVec(xs:V1)(p n:Int):Prop:=(Tw xs:Int)=n/\∀x∈xs,0<=x/\x<=p-1
instance (xs:V1) (p n:Int):Decidable (isVec xs p n):=by unfold isVec;infer_instance
def isZ(xs:V1):Prop:=∀x∈xs,x=0
instance (xs:V1):Decidable (isZ xs):=by unfold isZ;infer_instance
def zGs{w:Bool}{a:AV}{xs:V1}{l:Nat}(H:l=Tw xs)(G:(Tw xs)<=4611686018427387904)(D:K (.bool (decide (isZ xs))) σ):zA Tryz.prog 89 [.fz w a l (eh xs)] σ K:=by
 subst H;refine Tn Tryz.func89 ?_;refine Tq ?_;refine zF (λm vs h'=>∃i:Nat,i<=Tw xs/\m=Tw xs-i/\vs=[.fz w a (Tw xs) (eh xs),.int .i64 (Tw xs),.int .i64 i]/\h'=σ/\∀x∈xs.take i,x=0) (Tw xs) ?_ ?_
 .exact⟨0,aH,aH,rfl,rfl,bj⟩
 .rintro m vs h' ⟨i,L,rfl,rfl,rfl,A⟩
  refine Tq ?_;split
  .rename_i u;simp only[Z3,seval,-ae,u,zJ,gi u];split
   .rename_i E;simp only[Z3,seval,-ae,lG u G];exact⟨_,aH,i+1,aH,rfl,rfl,Q8 u A E⟩
   .rename_i I;exact pkf D λJ=>I (J _ (ss u))
  .refine pkt D (zFh aH A)
def zAc{w:Bool}{a:AV}{xs:V1}{l:Nat}(H:l=Tw xs)(G:(Tw xs)<=4611686018427387904)(D:K (.bool (decide (isZ xs))) σ):zA Tryz.prog 97 [.fz w a l (eh xs)] σ K:=by
 subst H;refine Tn Tryz.func97 ?_;refine Tq ?_;refine zF (λm vs h'=>∃i:Nat,i<=Tw xs/\m=Tw xs-i/\vs=[.fz w a (Tw xs) (eh xs),.int .i64 i]/\h'=σ/\∀x∈xs.take i,x=0) (Tw xs) ?_ ?_
 .exact⟨0,aH,aH,rfl,rfl,bj⟩
 .rintro m vs h' ⟨i,L,rfl,rfl,rfl,A⟩
  refine Tq ?_;split
  .rename_i u;simp only[Z3,seval,-ae,u,zJ,gi u];split
   .rename_i E;simp only[Z3,seval,-ae,lG u G];exact⟨_,aH,i+1,aH,rfl,rfl,Q8 u A E⟩
   .rename_i I;exact pkf D λJ=>I (J _ (ss u))
  .refine pkt D (zFh aH A)
def zOK{xs u:V1}(E:(Tw xs)=Tw u){i:Nat}(D:i<Tw xs)(h:xs.take i=u.take i)(A:xs[i]=u[i]'(by omega)):xs.take (i+1)=u.take (i+1):=by
 rw[YV D,YV (aH:i<Tw u),h,A]
def qi{w w':Bool}{a a':AV}{xs u:V1}{l:Nat}{I:Nat}(A:l=Tw xs)(L:I=Tw u)(Q:(Tw xs)<=4611686018427387904)(H:K (.bool (decide (xs=u))) σ):zA Tryz.prog 101 [.fz w a l (eh xs),.fz w' a' I (eh u)] σ K:=by
 subst A;subst L;refine Tn Tryz.func101 ?_;refine Tq ?_;split
 .rename_i A;have A:(Tw xs)=Tw u:=aH
  refine zF (λm vs h'=>∃i:Nat,i<=Tw xs/\m=Tw xs-i/\vs=[.fz w a (Tw xs) (eh xs),.fz w' a' (Tw u) (eh u),.int .i64 i]/\h'=σ/\xs.take i=u.take i) (Tw xs) ?_ ?_
  .exact⟨0,aH,aH,rfl,rfl,bj⟩
  .rintro m vs h' ⟨i,T,rfl,rfl,rfl,J⟩
   refine Tq ?_;split
   .rename_i D;have G:i<Tw u:=aH
    simp only[Z3,seval,-ae,D,G,zJ,gi D,gi G];split
    .rename_i N;simp only[Z3,seval,-ae,lG D Q];exact⟨_,aH,i+1,aH,rfl,rfl,zOK A D J N⟩
    .rename_i R;refine pkf H λE=>R (by subst E;rfl)
   grind
 .rename_i A;exact pkf H λE=>A (by rw[E])
def zQC{w w':Bool}{a a':AV}{xs u:V1}{l:Nat}{I:Nat}(A:l=Tw xs)(L:I=Tw u)(Q:(Tw xs)<=4611686018427387904)(H:K (.bool (decide (xs=u))) σ):zA Tryz.prog 93 [.fz w a l (eh xs),.fz w' a' I (eh u)] σ K:=by
 subst A;subst L;refine Tn Tryz.func93 ?_;refine Tq ?_;split
 .rename_i A;have A:(Tw xs)=Tw u:=aH
  refine zF (λm vs h'=>∃i:Nat,i<=Tw xs/\m=Tw xs-i/\vs=[.fz w a (Tw xs) (eh xs),.fz w' a' (Tw u) (eh u),.int .i64 (Tw xs),.int .i64 i]/\h'=σ/\xs.take i=u.take i) (Tw xs) ?_ ?_
  .exact⟨0,aH,aH,rfl,rfl,bj⟩
  .rintro m vs h' ⟨i,T,rfl,rfl,rfl,J⟩
   refine Tq ?_;split
   .rename_i D;have G:i<Tw u:=aH
    simp only[Z3,seval,-ae,D,G,zJ,gi D,gi G];split
    .rename_i N;simp only[Z3,seval,-ae,lG D Q];exact⟨_,aH,i+1,aH,rfl,rfl,zOK A D J N⟩
    .rename_i R;refine pkf H λE=>R (by subst E;rfl)
   grind
 .rename_i A;exact pkf H λE=>A (by rw[E])
def pR(n:Int):Prop:=n=2\/n=3\/n=5\/n=7
instance (n:Int):Decidable (pR n):=by unfold pR;infer_instance
def pR.bd{n:Int}(u:pR n):2<=n/\n<=7:=by unfold pR at u;omega
def Q7{n:Int}(u:K (.bool (decide (pR n))) σ):zA Tryz.prog 95 [.int .i64 n] σ K:=by
 refine Tn Tryz.func95 ?_;by_cases A:n=2
 .simp only[Z3,seval,-ae,A];exact pkt u (by unfold pR;omega)
 by_cases D:n=3
 .simp only[Z3,seval,-ae,D];exact pkt u (by unfold pR;omega)
 by_cases E:n=5
 .simp only[Z3,seval,-ae,E];exact pkt u (by unfold pR;omega)
 by_cases G:n=7
 .simp only[Z3,seval,-ae,G];exact pkt u (by unfold pR;omega)
 simp only[Z3,seval,-ae,A,D,E,G];exact pkf u (by unfold pR;omega)
def zF1{n:Int}(u:K (.bool (decide (pR n))) σ):zA Tryz.prog 84 [.int .i64 n] σ K:=by
 refine Tn Tryz.func84 ?_;by_cases A:n=2
 .simp only[Z3,seval,-ae,A];exact pkt u (by unfold pR;omega)
 by_cases D:n=3
 .simp only[Z3,seval,-ae,D];exact pkt u (by unfold pR;omega)
 by_cases E:n=5
 .simp only[Z3,seval,-ae,E];exact pkt u (by unfold pR;omega)
 by_cases G:n=7
 .simp only[Z3,seval,-ae,G];exact pkt u (by unfold pR;omega)
 simp only[Z3,seval,-ae,A,D,E,G];exact pkf u (by unfold pR;omega)
def zOO(x p:Int)(u:0<p):(x.tmod p+p).tmod p=x % p:=by
 have A:=Sn x u;have D:=Int.lt_tmod_of_pos x u;rw[Yf aH,Int.add_emod_right];rcases Int.le_total 0 x with h0|h0
 .rw[Yf h0,UM _ (Uv p)]
 .obtain⟨y,rfl⟩:∃y,x=-y:=⟨-x,aH⟩
  rw[Int.neg_tmod,Yf aH];have e:=Int.emod_add_mul_ediv y p
  have:-y=-(y % p)+p*(-(y / p)):=by rw[Int.mul_neg];omega
  rw[this,Int.add_mul_emod_self_left]
def zNz{x p:Int}(A:0<p)(I:p<4611686018427387904)(D:K (.int .i64 (x % p)) σ):zA Tryz.prog 167 [.int .i64 x,.int .i64 p] σ K:=by
 refine Tn Tryz.func167 ?_;have E:p≠0:=aH
 have G:=Sn x A;have H:=Int.lt_tmod_of_pos x A;have u:=zOO x p A;simp only[Z3,seval,-ae,E];split
 .rw[Yf aH,Y5 aH aH]at u;simp only[Z3,seval,-ae,u,mn (n:=x % p) aH aH];exact D
 .rw[Yf aH,Int.add_emod_right,Y5 aH aH]at u;rw[u];exact D
def zl{w:Bool}{a:AV}{xs:V1}{l:Nat}(E:l=Tw xs)(G:(Tw xs)<=4294967296)(D:∀cap,full 1 cap (Tw xs)->K (.sl σ.bY 0 (Tw xs) cap) (σ.cb (eh xs))):zA Tryz.prog 66 [.fz w a l (eh xs)] σ K:=by
 subst E;refine To Tryz.func66 ?_;refine Tq ?_;refine ft.cat (bytes:=8) (σb:=σ) (n:=0) (cs:=[]) (zB σ _) (ft.cb _ 1 rfl (sB _)) (zK xs) aH aH λH h' A u=>?_;simp only[Z3,seval,-ae]at u ⊢;exact u.out A (zO _ _) D
def zQE{w:Bool}{a:AV}{xs:V1}{l:Nat}(E:l=Tw xs)(H:(Tw xs)<=4294967296)(A:ResI σ K xs):zA Tryz.prog 156 [.fz w a l (eh xs)] σ K:=by
 subst E;refine zA.nil0 λG=>zA.gh ?_;refine Tn Tryz.func156 ?_;refine Tq ?_;cases hn:ZG a
 .refine Tq ?_;refine ft.cat (bytes:=8) (σb:=σ) (n:=0) (cs:=[]) (zB σ _) (ft.cb _ 1 rfl (sB _)) (zK xs) aH aH λI h' D u=>?_;simp only[Z3,seval,-ae]at u ⊢;exact u.out D (zO _ _) A.2
 .refine Tq ?_;exact Gh.ret (A.1 (YM (G hn).1))
def iS(n k:Nat):V1:=(Jf n 0).set k 1
def zg(n k:Nat):(iS n k).length=n:=by simp[iS]
def zCW{n k:Nat}(D:n<=1048576)(u:k<n)(A:∀cap,full 1 cap n->K (.sl σ.bY 0 n cap) (σ.cb (eh (iS n k)))):zA Tryz.prog 94 [.int .i64 n,.int .i64 k] σ K:=by
 refine Tn Tryz.func94 ?_;simp only[Z3,seval,-ae,u,YT,zi,zK,E4 (n:=n) aH,zx (n:=n) aH,UH u];rw[zq (by simpa using u)];exact A _ (.inr rfl)
end
end Go.Proofs
namespace Go.Lie
open Go.Ab
section
abbrev at_(v:V1)(j:Nat):Int:=v.getD j 0
def gj{v:V1}{j:Nat}(h:j<Tw v):at_ v j=v[j]:=by simp_all
def Hm{v:V1}{j:Nat}(h:(Tw v)<=j):at_ v j=0:=by simp_all
def zIs{a b:V1}(u:(Tw a)=Tw b)(h:∀j,j<Tw a->at_ a j=at_ b j):a=b:=by
 apply UD u;simp_all
def ri{v:V1}{i:Nat}(u:i<Tw v)(x:Int)(j:Nat):at_ (v.set i x) j=if j=i then x else at_ v j:=by
 grind
def ZV(n:Nat)(j:Nat):at_ (Jf n 0) j=0:=by
 grind
variable{n:Nat}{W:V2}
def zEm{i:Nat}(h:i<Tw W):W.getD i []=W[i]:=by simp_all
def sumN:Nat->(Nat->Int)->Int
 |0,_=>0
 |n+1,f=>sumN n f+f n
end
end Go.Lie
namespace Go.Proofs
open Go.Ab Go.Lie
variable{n:Nat}{σ:dj}{K:PV->dj->Prop}{B:V3}
def zBO{α:Type}{B:List (List α)}{i:Nat}(h:i<Tw B):B.getD i []=B[i]:=by simp[YK,na h]
def zGz{k:Nat}(D:n<=1048576)(u:k<n)(A:∀a,K (.fz Im a n (eh (iS n k))) σ):zA Tryz.prog 94 [.int .i64 n,.int .i64 k] σ K:=
 zA.fz (λK'=>zCW D u) (zO _ _) λo cap=>A _
structure CV(xs:V2):Prop where
 l:(Tw xs)<=1048576
 r:∀x∈xs,(Tw x)<=1048576
structure SzM(B:V3):Prop where
 l:(Tw B)<=1048576
 r:∀q∈B,CV q
end Go.Proofs
namespace Go.Grp
open Go.Ab Go.Lie
variable{d i t0:Nat}{O:V1}{P:V2}{C:V3}
section
structure Mon{α:Type}(S:α->Prop)(m:α->α->α)(e:α):Prop where
 one:S e
 cl:∀{a b},S a->S b->S (m a b)
 «as»:∀{a b c},S a->S b->S c->m (m a b) c=m a (m b c)
 l1:∀{a},S a->m e a=a
 r1:∀{a},S a->m a e=a
section
variable{α:Type}{S:α->Prop}{m:α->α->α}{e:α}
def pw(m:α->α->α)(e x:α):Nat->α
 |0=>e
 |k+1=>m (pw m e x k) x
def rep(m:α->α->α)(x:α):Nat->α->α
 |0,a=>a
 |k+1,a=>rep m x k (m a x)
def ph(m:α->α->α)(e:α)(h:Nat->α)(x:Nat->Nat):Nat->Nat->α
 |t,0=>e
 |t,d+1=>m (pw m e (h t) (x t)) (ph m e h x (t+1) d)
def fo(m:α->α->α)(h:Nat->α)(x:Nat->Nat):Nat->Nat->α->α
 |t,0,a=>a
 |t,d+1,a=>fo m h x (t+1) d (rep m (h t) (x t) a)
def Mon.pw(M:Mon S m e){x:α}(u:S x):∀k,S (pw m e x k)
 |0=>M.one
 |k+1=>M.cl (M.pw u k) u
def Mon.pw_add(M:Mon S m e){x:α}(u:S x)(a:Nat):∀b,Grp.pw m e x (a+b)=m (Grp.pw m e x a) (Grp.pw m e x b)
 |0=>(M.r1 (M.pw u a)).symm
 |b+1=>by
  show m (Grp.pw m e x (a+b)) x=m _ (m (Grp.pw m e x b) x);rw[M.pw_add u a b,M.as (M.pw u a) (M.pw u b) u]
def Mon.pw_one(M:Mon S m e){x:α}(u:S x):Grp.pw m e x 1=x:=M.l1 u
def Mon.pw_comm(M:Mon S m e){x:α}(u:S x)(a:Nat):m (Grp.pw m e x a) x=m x (Grp.pw m e x a):=by
 have A:=M.pw_add u a 1;have D:=M.pw_add u 1 a;rw[M.pw_one u]at A D;rw[<-A,<-D,UT]
def Mon.rep_eq(M:Mon S m e){x:α}(u:S x):∀(k:Nat) {a:α},S a->rep m x k a=m a (Grp.pw m e x k)
 |0,a,ha=>(M.r1 ha).symm
 |k+1,a,ha=>by
  show rep m x k (m a x)=m a (m (Grp.pw m e x k) x);rw[M.rep_eq u k (M.cl ha u),M.as ha u (M.pw u k),M.pw_comm u k]
def Mon.ph(M:Mon S m e){h:Nat->α}{x:Nat->Nat}:∀{d t:Nat},(∀j,t<=j->j<t+d->S (h j))->S (ph m e h x t d)
 |0,t,_=>M.one
 |d+1,t,hh=>M.cl (M.pw (hh t (sB _) aH) _) (M.ph λj u A=>hh j aH aH)
def Mon.fo_eq(M:Mon S m e){h:Nat->α}{x:Nat->Nat}:∀{d t:Nat} {a:α},(∀j,t<=j->j<t+d->S (h j))->S a->fo m h x t d a=m a (Grp.ph m e h x t d)
 |0,t,a,_,ha=>(M.r1 ha).symm
 |d+1,t,a,hh,ha=>by
  have u:=hh t (sB _) aH;show fo m h x (t+1) d (rep m (h t) (x t) a)=m a (m _ _);rw[M.rep_eq u _ ha,M.fo_eq (λj A D=>hh j aH aH) (M.cl ha (M.pw u _)),M.as ha (M.pw u _) (M.ph λj A D=>hh j aH aH)]
def zH1{h h':Nat->α}{x u:Nat->Nat}:∀{d t:Nat},(∀j,t<=j->j<t+d->h j=h' j/\x j=u j)->Grp.ph m e h x t d=Grp.ph m e h' u t d
 |0,t,_=>rfl
 |d+1,t,hh=>by
  simp only[Grp.ph];rw[(hh t (sB _) aH).1,(hh t (sB _) aH).2,zH1 λj A D=>hh j aH aH]
def Mon.past_pw(M:Mon S m e){g u v:α}(A:S g)(D:S u)(E:S v)(h:m u g=m g v):∀k,m (Grp.pw m e u k) g=m g (Grp.pw m e v k)
 |0=>by rw[Grp.pw,Grp.pw,M.l1 A,M.r1 A]
 |k+1=>by
  show m (m (Grp.pw m e u k) u) g=m g (m (Grp.pw m e v k) v);rw[M.as (M.pw D k) D A,h,<-M.as (M.pw D k) A E,M.past_pw A D E h k,M.as A (M.pw E k) E]
def Mon.past_ph(M:Mon S m e){g:α}(u:S g){h h':Nat->α}{x:Nat->Nat}:∀{d t:Nat},(∀j,t<=j->j<t+d->S (h j)/\S (h' j)/\m (h j) g=m g (h' j))->m (Grp.ph m e h x t d) g=m g (Grp.ph m e h' x t d)
 |0,t,_=>by rw[Grp.ph,Grp.ph,M.l1 u,M.r1 u]
 |d+1,t,hh=>by
  obtain⟨A,D,G⟩:=hh t (sB _) aH;have H:=M.ph (x:=x) (λj a b=>(hh j (show t<=j by omega) aH).1) (d:=d) (t:=t+1);have E:=M.ph (x:=x) (λj a b=>(hh j (show t<=j by omega) aH).2.1) (d:=d) (t:=t+1);show m (m _ _) g=m g (m _ _);rw[M.as (M.pw A _) H u,M.past_ph u λj a b=>hh j aH aH,<-M.as (M.pw A _) u E,M.past_pw u A D G,M.as u (M.pw D _) E]
end
variable{O:V1}{P:V2}{C:V3}
structure TT(O:V1)(t:Nat)(x:V1):Prop where
 len:(Tw x)=Tw O
 bd:∀j,j<Tw O->0<=at_ x j/\at_ x j<at_ O j
 zero:∀j,j<t->at_ x j=0
abbrev nx(x:V1)(j:Nat):Nat:=(at_ x j).toNat
abbrev iD(C:V3)(i j:Nat):V1:=(C.getD i []).getD (j-i-1) []
abbrev jt(P:V2)(i:Nat):V1:=P.getD i []
abbrev zv(O:V1):V1:=Jf (Tw O) 0
structure kC(O:V1)(P:V2)(C:V3):Prop where
 le:(Tw O)<=6
 pr:∀j,j<Tw O->2<=at_ O j/\at_ O j<=7
 pl:(Tw P)=Tw O
 cl:(Tw C)=Tw O
 pw:∀i,i<Tw O->TT O (i+1) (jt P i)
 row:∀i,i<Tw O->(C.getD i []).length=Tw O-1-i
 cj:∀i j,i<j->j<Tw O->TT O (i+1) (iD C i j)
def vQ(O:V1)(C:V3)(m:V1->V1->V1)(i:Nat)(x:V1):V1:=fo m (iD C i) (nx x) (i+1) (Tw O-1-i) (zv O)
def iter{α:Type}(f:α->α):Nat->α->α
 |0,a=>a
 |k+1,a=>iter f k (f a)
def zEk{α:Type}(f:α->α)(a b:Nat)(x:α):iter f (a+b) x=iter f b (iter f a x):=by
 induction a generalizing x with
 |zero=>rw[Y4];rfl
 |succ a ih=>rw[show a+1+b=(a+b)+1 by omega];exact ih (f x)
def mu(O:V1)(P:V2)(C:V3):Nat->V1->V1->V1
 |0,_,_=>zv O
 |d+1,a,b=>
  let i:=(Tw O)-(d+1)
  let r:=mu O P C d (iter (vQ O C (mu O P C d) i) (nx b i) (a.set i 0)) (b.set i 0)
  if at_ a i+at_ b i ≥ at_ O i then(mu O P C d (jt P i) r).set i (at_ a i+at_ b i-at_ O i)else r.set i (at_ a i+at_ b i)
def TT.zv(t:Nat)(h:∀j,j<Tw O->0<at_ O j):TT O t (zv O):=⟨bj,λj u=>by rw[ZV];exact⟨aH,h j u⟩,λj _=>ZV _ j⟩
def TT.mono{t t':Nat}{x:V1}(h:TT O t x)(A:t'<=t):TT O t' x:=⟨h.len,h.bd,λj u=>h.zero j aH⟩
def TT.set{t i:Nat}{x:V1}(h:TT O t x)(E:i<Tw O)(G:t<=i){c:Int}(D:0<=c/\c<at_ O i):TT O t (x.set i c):=by
 have A:i<Tw x:=by rw[h.len];exact E
 refine⟨by rw[Yx,h.len],λj u=>?_,λj u=>?_⟩
 .rw[ri A];split
  .rename_i e;subst e;exact D
  .exact h.bd j u
 .rw[ri A,Iv aH];exact h.zero j u
def TT.set0{i:Nat}{x:V1}(h:TT O i x)(A:i<Tw O)(D:0<at_ O i):TT O (i+1) (x.set i 0):=by
 have E:i<Tw x:=by rw[h.len];exact A
 have u:=h.set A (sB _) (c:=0) ⟨aH,D⟩;refine⟨u.len,u.bd,λj G=>?_⟩;rw[ri E];split
 .rfl
 .exact h.zero j aH
def TT.ext{t:Nat}{x y:V1}(h:TT O t x)(g:TT O t y)(u:∀j,t<=j->j<Tw O->at_ x j=at_ y j):x=y:=by
 refine zIs (by rw[h.len,g.len]) λj A=>?_;rcases YY j t with e|e
 .rw[h.zero j e,g.zero j e]
 .exact u j e (by rw[<-h.len];exact A)
def kC.pos(s:kC O P C){j:Nat}(u:j<Tw O):0<at_ O j:=by have:=(s.pr j u).1;omega
def kC.zv(s:kC O P C)(t:Nat):TT O t (zv O):=TT.zv t λj u=>s.pos u
def zMt{α:Type}{S:α->Prop}{m:α->α->α}{x:α}(h:∀a,S a->S (m a x)):∀(k:Nat) {a:α},S a->S (rep m x k a)
 |0,a,ha=>ha
 |k+1,a,ha=>zMt h k (h a ha)
def fo_in{α:Type}{S:α->Prop}{m:α->α->α}{h:Nat->α}{x:Nat->Nat}:∀{d t:Nat} {a:α},(∀j,t<=j->j<t+d->∀a,S a->S (m a (h j)))->S a->S (fo m h x t d a)
 |0,t,a,_,ha=>ha
 |d+1,t,a,hh,ha=>by
  show S (fo m h x (t+1) d (rep m (h t) (x t) a));exact fo_in (λj u A=>hh j aH aH) (zMt (hh t (sB _) aH) (x t) ha)
def zDn{α:Type}{S:α->Prop}{f:α->α}(h:∀a,S a->S (f a)):∀(k:Nat) {a:α},S a->S (iter f k a)
 |0,a,ha=>ha
 |k+1,a,ha=>zDn h k (h a ha)
def zAz(s:kC O P C){m:V1->V1->V1}{i:Nat}(A:∀a b,TT O (i+1) a->TT O (i+1) b->TT O (i+1) (m a b))(x:V1):TT O (i+1) (vQ O C m i x):=
 fo_in (λj D E a u=>A a _ u (s.cj i j aH aH)) (s.zv _)
def Bc(s:kC O P C):∀{d:Nat} {a b:V1},d<=Tw O->TT O (Tw O-d) a->TT O (Tw O-d) b->TT O (Tw O-d) (mu O P C d a b)
 |0,a,b,_,ha,hb=>s.zv _
 |d+1,a,b,hd,ha,hb=>by
  have u:(Tw O)-(d+1)<Tw O:=aH
  have e:(Tw O)-d=Tw O-(d+1)+1:=aH
  have A:∀a b,TT O (Tw O-(d+1)+1) a->TT O (Tw O-(d+1)+1) b->TT O (Tw O-(d+1)+1) (mu O P C d a b):=by
   rw[<-e];exactλa b G H=>Bc s aH G H
  have D:=s.pos u;have I:=ha.bd _ u;have J:=hb.bd _ u;have E:=A _ _ (zDn (λx _=>zAz s A x) (nx b (Tw O-(d+1))) (ha.set0 u D)) (hb.set0 u D);simp only[mu];split
  .exact((A _ _ (s.pw _ u) E).mono (Yb _)).set u (sB _) ⟨aH,aH⟩
  .exact(E.mono (Yb _)).set u (sB _) ⟨aH,aH⟩
end
section
variable{α:Type}{S:α->Prop}{m:α->α->α}{e:α}{h:Nat->α}
abbrev Ph(O:V1)(m:α->α->α)(e:α)(h:Nat->α)(d:Nat)(x:V1):α:=ph m e h (nx x) (Tw O-d) d
structure Rel(O:V1)(P:V2)(C:V3)(S:α->Prop)(m:α->α->α)(e:α)(h:Nat->α)(t0:Nat):Prop where
 mem:∀j,t0<=j->j<Tw O->S (h j)
 pow:∀j,t0<=j->j<Tw O->pw m e (h j) (nx O j)=Ph O m e h (Tw O-(j+1)) (jt P j)
 cj:∀j k,t0<=j->j<k->k<Tw O->m (h k) (h j)=m (h j) (Ph O m e h (Tw O-(j+1)) (iD C j k))
def Ph_in(M:Mon S m e)(r:Rel O P C S m e h t0){d:Nat}(D:d<=Tw O-t0)(x:V1):S (Ph O m e h d x):=M.ph λj u A=>r.mem j aH aH
def zFz{d i:Nat}(D:i<Tw O-d){x:V1}(E:(Tw x)=Tw O)(c:Int):Ph O m e h d (x.set i c)=Ph O m e h d x:=
 zH1 λj u A=>⟨rfl,by show(at_ _ j).toNat=(at_ x j).toNat;rw[ri aH,Iv aH]⟩
def zK0{d:Nat}(u:d<Tw O)(x:V1):Ph O m e h (d+1) x=m (pw m e (h (Tw O-(d+1))) (nx x (Tw O-(d+1)))) (Ph O m e h d x):=by
 show ph m e h (nx x) _ (d+1)=_;rw[ph,show (Tw O)-(d+1)+1=Tw O-d by omega]
def Ph_zv(M:Mon S m e):∀d:Nat,Ph O m e h d (zv O)=e:=by
 intro d
 have:∀(d t:Nat),ph m e h (nx (zv O)) t d=e:=by
  intro d
  induction d with
  |zero=>intro t;rfl
  |succ d ih=>
   intro t;have u:nx (zv O) t=0:=by show(at_ (zv O) t).toNat=0;rw[ZV];rfl
   rw[ph,ih,u];exact M.l1 M.one
 exact this d _
def Ph_fo(M:Mon S m e){T:V1->Prop}{mm:V1->V1->V1}{F:V1->α}(H:∀a b,T a->T b->T (mm a b)/\F (mm a b)=m (F a) (F b)){c:Nat->V1}{x:Nat->Nat}:
  ∀{d t:Nat} {a:V1},(∀j,t<=j->j<t+d->T (c j))->T a->T (fo mm c x t d a)/\F (fo mm c x t d a)=fo m (λj=>F (c j)) x t d (F a)
 |0,t,a,_,u=>⟨u,rfl⟩
 |d+1,t,a,hc,u=>by
  have I:∀(k:Nat) {a:V1},T a->T (rep mm (c t) k a)/\F (rep mm (c t) k a)=rep m (F (c t)) k (F a):=by
   intro k
   induction k with
   |zero=>exactλu=>⟨u,rfl⟩
   |succ k ih=>
    intro a u;obtain⟨A,D⟩:=H a (c t) u (hc t (sB _) aH);obtain⟨E,G⟩:=ih A;exact⟨E,by show F (rep mm (c t) k (mm a (c t)))=rep m (F (c t)) k (m (F a) (F (c t)));rw[G,D]⟩
  obtain⟨A,D⟩:=I (x t) u;obtain⟨E,G⟩:=Ph_fo M H (c:=c) (x:=x) (d:=d) (t:=t+1) (λj A D=>hc j aH aH) A;refine⟨E,?_⟩;show F (fo mm c x (t+1) d _)=fo m _ x (t+1) d (rep m (F (c t)) (x t) (F a));rw[G,D]
def dyck(s:kC O P C)(M:Mon S m e)(r:Rel O P C S m e h t0):∀{d:Nat},d<=Tw O-t0->∀{a b:V1},TT O (Tw O-d) a->TT O (Tw O-d) b->Ph O m e h d (mu O P C d a b)=m (Ph O m e h d a) (Ph O m e h d b)
 |0,_,a,b,_,_=>(M.l1 M.one).symm
 |d+1,hd,a,b,ha,hb=>by
  have D:(Tw O)-(d+1)<Tw O:=aH
  have hit:t0<=Tw O-(d+1):=aH
  have I:(Tw O)-d=Tw O-(d+1)+1:=aH
  have e2:(Tw O)-1-(Tw O-(d+1))=d:=aH
  have Y:(Tw O)-(Tw O-(d+1)+1)=d:=aH
  have V:=s.pos D;have ba:=ha.bd _ D;have bb:=hb.bd _ D;have u:=r.mem _ hit D;have R:∀{a b:V1},TT O (Tw O-d) a->TT O (Tw O-d) b->Ph O m e h d (mu O P C d a b)=m (Ph O m e h d a) (Ph O m e h d b):=λE G=>dyck s M r aH E G;have Q:∀{a b:V1},TT O (Tw O-d) a->TT O (Tw O-d) b->TT O (Tw O-d) (mu O P C d a b):=λE G=>Bc s aH E G;have A:∀x,S (Ph O m e h d x):=λx=>Ph_in M r aH x;generalize X:(Tw O)-(d+1)=i at *
  have NY:∀{x:V1},TT O (Tw O-d) x->TT O (Tw O-d) (vQ O C (mu O P C d) i x)/\m (Ph O m e h d x) (h i)=m (h i) (Ph O m e h d (vQ O C (mu O P C d) i x)):=by
   intro x H;have hc:∀j,i+1<=j->j<i+1+d->TT O (Tw O-d) (iD C i j):=λj E G=>by rw[I];exact s.cj i j aH aH
   have ig:TT O (Tw O-d) (zv O):=s.zv _;obtain⟨f1,f2⟩:=Ph_fo M (T:=TT O (Tw O-d)) (mm:=mu O P C d) (F:=Ph O m e h d) (λa b E G=>⟨Q E G,R E G⟩) (c:=iD C i) (x:=nx x) hc ig;have PM:vQ O C (mu O P C d) i x=fo (mu O P C d) (iD C i) (nx x) (i+1) d (zv O):=by rw[vQ,e2]
   rw[PM];refine⟨f1,?_⟩;rw[f2,Ph_zv M,M.fo_eq (λj _ _=>A _) M.one,M.l1 (M.ph λj _ _=>A _)];show m (ph m e h (nx x) (Tw O-d) d) (h i)=_;rw[I];refine M.past_ph u λj E G=>⟨r.mem j aH aH,A _,?_⟩
   have:=r.cj i j hit aH aH
   rw[Y]at this;exact this
  have yQ:∀(k:Nat) {x:V1},TT O (Tw O-d) x->TT O (Tw O-d) (iter (vQ O C (mu O P C d) i) k x)/\m (Ph O m e h d x) (pw m e (h i) k)=m (pw m e (h i) k) (Ph O m e h d (iter (vQ O C (mu O P C d) i) k x)):=by
   intro k
   induction k with
   |zero=>exactλ{x} H=>⟨H,by show m _ e=m e _;rw[M.r1 (A x)];exact(M.l1 (A x)).symm⟩
   |succ k ik=>
    intro x H;obtain⟨g1,g2⟩:=NY H;obtain⟨g3,g4⟩:=ik g1;refine⟨g3,?_⟩;show m _ (m (pw m e (h i) k) (h i))=m (m (pw m e (h i) k) (h i)) (Ph O m e h d (iter _ k (vQ O C (mu O P C d) i x)));rw[M.pw_comm u,<-M.as (A _) u (M.pw u k),g2,M.as u (A _) (M.pw u k),g4,<-M.as u (M.pw u k) (A _)]
  have C9:TT O (Tw O-d) (a.set i 0):=by rw[I];exact ha.set0 D V
  have Z:TT O (Tw O-d) (b.set i 0):=by rw[I];exact hb.set0 D V
  obtain⟨k1,k2⟩:=yQ (nx b i) C9;have N:i<Tw O-d:=aH
  rw[zFz N ha.len]at k2;have er:=R k1 Z;rw[zFz N hb.len]at er;have J:=Q k1 Z;have U:∀x,Ph O m e h (d+1) x=m (pw m e (h i) (nx x i)) (Ph O m e h d x):=λx=>by rw[zK0 aH,X]
  rw[U a,U b,U];generalize hL:iter (vQ O C (mu O P C d) i) (nx b i) (a.set i 0)=L at *
  have PK:mu O P C (d+1) a b=if at_ a i+at_ b i ≥ at_ O i then(mu O P C d (jt P i) (mu O P C d L (b.set i 0))).set i (at_ a i+at_ b i-at_ O i)else(mu O P C d L (b.set i 0)).set i (at_ a i+at_ b i):=by
   simp only[mu,X,hL]
  have rhs:m (m (pw m e (h i) (nx a i)) (Ph O m e h d a)) (m (pw m e (h i) (nx b i)) (Ph O m e h d b))=m (pw m e (h i) (nx a i+nx b i)) (Ph O m e h d (mu O P C d L (b.set i 0))):=by
   rw[er,M.pw_add u,M.as (M.pw u _) (A _) (M.cl (M.pw u _) (A _)),<-M.as (A _) (M.pw u _) (A _),k2,M.as (M.pw u _) (A _) (A _),<-M.as (M.pw u _) (M.pw u _) (M.cl (A _) (A _))]
  rw[rhs,PK];have hn:(at_ a i+at_ b i).toNat=nx a i+nx b i:=by show _=(at_ a i).toNat+(at_ b i).toNat;omega
  have jT:∀{x:V1} (c:Int),TT O (Tw O-d) x->nx (x.set i c) i=c.toNat:=λ{x} c H=>by show(at_ _ i).toNat=_;rw[ri (by rw[H.len];exact D),Iu rfl]
  split
  .rename_i an;have hp:TT O (Tw O-d) (jt P i):=by rw[I];exact s.pw i D
   have cp:=Q hp J;rw[jT _ cp,zFz N cp.len,R hp J];have rp:=r.pow i hit D;rw[Y]at rp;rw[<-rp,<-M.as (M.pw u _) (M.pw u _) (A _),<-M.pw_add u];congr 2
   show(at_ a i+at_ b i-at_ O i).toNat+(at_ O i).toNat=(at_ a i).toNat+(at_ b i).toNat
   omega
  .rw[jT _ J,zFz N J.len,hn]
end
section
variable{α:Type}{S:α->Prop}{m:α->α->α}{e:α}{h:Nat->α}
structure Gp{α:Type}(S:α->Prop)(m:α->α->α)(e:α):Prop extends Mon S m e where
 inv:∀{a},S a->∃b,S b/\m a b=e/\m b a=e
def Gp.cancel(G:Gp S m e){a b c:α}(u:S a)(A:S b)(D:S c)(h:m a b=m a c):b=c:=by
 obtain⟨i,E,_,H⟩:=G.inv u
 have:=congrArg (m i) h
 rwa[<-G.as E u A,<-G.as E u D,H,G.l1 A,G.l1 D]at this
def Gp.of_right(M:Mon S m e)(H:∀{a},S a->∃b,S b/\m a b=e):Gp S m e:=by
 refine⟨M,λ{a} u=>?_⟩;obtain⟨b,A,D⟩:=H u;obtain⟨c,G,E⟩:=H A;refine⟨b,A,D,?_⟩
 have:a=c:=by rw[<-M.r1 u,<-E,<-M.as u A G,D,M.l1 G]
 rw[this];exact E
def Mon.pw_ind(M:Mon S m e){Q:α->Prop}(A:Q e)(D:∀a b,S a->S b->Q a->Q b->Q (m a b)){x:α}(u:S x)(E:Q x):∀k,Q (Grp.pw m e x k)
 |0=>A
 |k+1=>D _ _ (M.pw u k) u (M.pw_ind A D u E k) E
def Mon.ph_ind(M:Mon S m e){Q:α->Prop}(u:Q e)(A:∀a b,S a->S b->Q a->Q b->Q (m a b)){h:Nat->α}{x:Nat->Nat}:∀{d t:Nat},(∀j,t<=j->j<t+d->S (h j)/\Q (h j))->Q (Grp.ph m e h x t d)
 |0,t,_=>u
 |d+1,t,hh=>by
  obtain⟨D,E⟩:=hh t (sB _) aH;exact A _ _ (M.pw D _) (M.ph λj a b=>(hh j aH aH).1) (M.pw_ind u A D E _) (M.ph_ind u A λj a b=>hh j aH aH)
def Mon.ph_skip(M:Mon S m e){h:Nat->α}{x:Nat->Nat}{d:Nat}:∀{k t:Nat},(∀j,t<=j->j<t+k->x j=0)->(∀j,t+k<=j->j<t+k+d->S (h j))->Grp.ph m e h x t (k+d)=Grp.ph m e h x (t+k) d
 |0,t,_,_=>by rw[Y4,Y6]
 |k+1,t,h0,hs=>by
  have:=M.ph_skip (h:=h) (x:=x) (d:=d) (k:=k) (t:=t+1) (λj a b=>h0 j aH aH) (λj a b=>hs j aH aH)
  rw[show k+1+d=(k+d)+1 by omega,Grp.ph,h0 t (sB _) aH,this,show t+1+k=t+(k+1) by omega];exact M.l1 (M.ph λj a b=>hs j aH aH)
abbrev unit(O:V1)(j:Nat):V1:=(zv O).set j 1
def kC.unit(s:kC O P C){t j:Nat}(u:j<Tw O)(A:t<=j):TT O t (unit O j):=(s.zv t).set u A ⟨aH,by have:=(s.pr j u).1;omega⟩
structure Lv(O:V1)(P:V2)(C:V3)(i:Nat):Prop where
 pow:∀j,i<j->j<Tw O->pw (mu O P C (Tw O-1-i)) (zv O) (iD C i j) (nx O j)=vQ O C (mu O P C (Tw O-1-i)) i (jt P j)
 cj:∀j k,i<j->j<k->k<Tw O->mu O P C (Tw O-1-i) (iD C i k) (iD C i j)=mu O P C (Tw O-1-i) (iD C i j) (vQ O C (mu O P C (Tw O-1-i)) i (iD C j k))
 fix:vQ O C (mu O P C (Tw O-1-i)) i (jt P i)=jt P i
 inn:∀j,i<j->j<Tw O->mu O P C (Tw O-1-i) (jt P i) (iter (vQ O C (mu O P C (Tw O-1-i)) i) (nx O i) (unit O j))=mu O P C (Tw O-1-i) (unit O j) (jt P i)
structure Beh(O:V1)(P:V2)(C:V3)(d:Nat):Prop where
 le:d<=Tw O
 gp:Gp (TT O (Tw O-d)) (mu O P C d) (zv O)
 nf:∀{x},TT O (Tw O-d) x->Ph O (mu O P C d) (zv O) (unit O) d x=x
def zw{x:V1}{i:Nat}(h:at_ x i=0)(u:i<Tw x):x.set i 0=x:=by
 refine zIs bj λj A=>?_;grind
def zGX(x:V1)(i:Nat)(a b:Int):(x.set i a).set i b=x.set i b:=List.set_set ..
def zMo{x:V1}{i:Nat}(u:i<Tw x):(x.set i 0).set i (at_ x i)=x:=by
 simp_all
section
variable{d i:Nat}
abbrev al(O:V1)(P:V2)(C:V3)(d i:Nat):V1->V1:=vQ O C (mu O P C d) i
def al_ph(s:kC O P C)(B:Beh O P C d)(u:(Tw O)-d=i+1)(x:V1):al O P C d i x=Ph O (mu O P C d) (zv O) (iD C i) d x:=by
 have hle:=B.le;have hs:∀j,i+1<=j->j<i+1+d->TT O (Tw O-d) (iD C i j):=λj A D=>by rw[u];exact s.cj i j aH aH
 have e:(Tw O)-1-i=d:=aH
 show fo _ _ _ _ _ _=ph _ _ _ _ _ _;rw[e,B.gp.fo_eq hs B.gp.one,B.gp.l1 (B.gp.ph hs),u]
def al_zv(s:kC O P C)(B:Beh O P C d)(u:(Tw O)-d=i+1):al O P C d i (zv O)=zv O:=by rw[al_ph s B u,Ph_zv B.gp.toMon]
def zR4(s:kC O P C)(B:Beh O P C d)(E:(Tw O)-d=i+1)(L:Lv O P C i):Rel O P C (TT O (Tw O-d)) (mu O P C d) (zv O) (iD C i) (i+1):=by
 have hle:=B.le;have e:(Tw O)-1-i=d:=aH
 have hs:∀j,i+1<=j->j<Tw O->TT O (Tw O-d) (iD C i j):=λj A u=>by rw[E];exact s.cj i j aH u
 have G:∀{j:Nat} {x:V1},i<j->j<Tw O->TT O (j+1) x->al O P C d i x=Ph O (mu O P C d) (zv O) (iD C i) (Tw O-(j+1)) x:=λ{j x} A u H=>by
  rw[al_ph s B E];show ph _ _ _ _ _ _=ph _ _ _ _ _ _
  have:=B.gp.toMon.ph_skip (h:=iD C i) (x:=nx x) (d:=(Tw O)-(j+1)) (k:=j-i) (t:=i+1) (λt a b=>by show(at_ x t).toNat=0;rw[H.zero t aH];rfl) (λt a b=>hs t aH aH)
  grind
 refine⟨hs,λj A u=>?_,λj k A u D=>?_⟩
 .have:=L.pow j aH u
  rw[e]at this;rw[this];exact G aH u (s.pw j u)
 .have:=L.cj j k aH u D
  rw[e]at this;rw[this];congr 1;exact G aH aH (s.cj j k u D)
def al_in(s:kC O P C)(B:Beh O P C d)(u:(Tw O)-d=i+1)(x:V1):TT O (Tw O-d) (al O P C d i x):=by
 rw[u];exact zAz s (by rw[<-u];exactλa b A D=>B.gp.cl A D) x
def zSQ(s:kC O P C)(B:Beh O P C d)(u:(Tw O)-d=i+1)(L:Lv O P C i){a b:V1}(A:TT O (Tw O-d) a)(D:TT O (Tw O-d) b):al O P C d i (mu O P C d a b)=mu O P C d (al O P C d i a) (al O P C d i b):=by
 rw[al_ph s B u,al_ph s B u,al_ph s B u];exact dyck s B.gp.toMon (zR4 s B u L) (by have:=B.le;omega) A D
def it_in(s:kC O P C)(B:Beh O P C d)(u:(Tw O)-d=i+1)(k:Nat){x:V1}(A:TT O (Tw O-d) x):TT O (Tw O-d) (iter (al O P C d i) k x):=zDn (λa _=>al_in s B u a) k A
def zIe(s:kC O P C)(B:Beh O P C d)(u:(Tw O)-d=i+1)(L:Lv O P C i):∀(k:Nat) {a b:V1},TT O (Tw O-d) a->TT O (Tw O-d) b->iter (al O P C d i) k (mu O P C d a b)=mu O P C d (iter (al O P C d i) k a) (iter (al O P C d i) k b)
 |0,a,b,ha,hb=>rfl
 |k+1,a,b,ha,hb=>by
  show iter _ k (al O P C d i _)=_;rw[zSQ s B u L ha hb,zIe s B u L k (al_in s B u a) (al_in s B u b)];rfl
def zDE{f:V1->V1}{w:V1}(h:f w=w):∀k,iter f k w=w
 |0=>rfl
 |k+1=>by show iter f k (f w)=w;rw[h];exact zDE h k
def zQ5(s:kC O P C)(B:Beh O P C d)(u:(Tw O)-d=i+1)(L:Lv O P C i){x:V1}(H:TT O (Tw O-d) x):mu O P C d (jt P i) (iter (al O P C d i) (nx O i) x)=mu O P C d x (jt P i):=by
 have hle:=B.le;have G:i<Tw O:=aH
 have e:(Tw O)-1-i=d:=aH
 have A:TT O (Tw O-d) (jt P i):=by rw[u];exact s.pw i G
 have M:=B.gp.toMon
 have:=M.ph_ind (Q:=λx=>mu O P C d (jt P i) (iter (al O P C d i) (nx O i) x)=mu O P C d x (jt P i)) ?_ ?_ (h:=unit O) (x:=nx x) (d:=d) (t:=(Tw O)-d) λj D E=>⟨s.unit aH D,?_⟩
 .have nf:=B.nf H;grind
 .rw[zDE (al_zv s B u),M.r1 A,M.l1 A]
 .intro a b ha hb D E;rw[zIe s B u L _ ha hb,<-M.as A (it_in s B u _ ha) (it_in s B u _ hb),D,M.as ha A (it_in s B u _ hb),E,<-M.as ha hb A]
 .have:=L.inn j aH aH
  rw[e]at this;exact this
def zDk(s:kC O P C)(B:Beh O P C d)(R:(Tw O)-d=i+1){a b:Int}{x y:V1}(D:TT O (Tw O-d) x)(E:TT O (Tw O-d) y):
  mu O P C (d+1) (x.set i a) (y.set i b)=if a+b ≥ at_ O i then(mu O P C d (jt P i) (mu O P C d (iter (al O P C d i) b.toNat x) y)).set i (a+b-at_ O i)else(mu O P C d (iter (al O P C d i) b.toNat x) y).set i (a+b):=by
 have hle:=B.le;have u:i<Tw O:=aH
 have L:(Tw O)-(d+1)=i:=aH
 have G:i<Tw x:=by rw[D.len];exact u
 have H:i<Tw y:=by rw[E.len];exact u
 have N:at_ x i=0:=D.zero i aH;have Q:at_ y i=0:=E.zero i aH;simp only[mu,L];rw[zGX,zGX,zw N G,zw Q H];have I:at_ (x.set i a) i=a:=by rw[ri G,Iu rfl]
 have A:at_ (y.set i b) i=b:=by rw[ri H,Iu rfl]
 show(if at_ (x.set i a) i+at_ (y.set i b) i ≥ _ then _ else _)=_
 have J:nx (y.set i b) i=b.toNat:=by show(at_ _ i).toNat=_;rw[A]
 rw[I,A,J]
def pair(h:i<Tw O){t:Nat}{x:V1}(u:TT O i x)(A:0<at_ O i):∃y a,TT O (i+1) y/\x=y.set i a/\0<=a/\a<at_ O i:=
 ⟨x.set i 0,at_ x i,u.set0 h A,(zMo (by rw[u.len];exact h)).symm,(u.bd i h).1,(u.bd i h).2⟩
def zJD(s:kC O P C)(B:Beh O P C d)(V:(Tw O)-d=i+1)(L:Lv O P C i):Beh O P C (d+1):=by
 have hle:=B.le;have J:i<Tw O:=aH
 have Z:(Tw O)-(d+1)=i:=aH
 have e:(Tw O)-1-i=d:=aH
 have aM:=s.pos J;have H:TT O (Tw O-d) (jt P i):=by rw[V];exact s.pw i J
 have M:=B.gp.toMon;have G:=λ{a b:Int} {x y:V1} (D:TT O (Tw O-d) x) (E:TT O (Tw O-d) y)=>zDk s B V (a:=a) (b:=b) D E;have R:=λ(k:Nat) {x:V1} (D:TT O (Tw O-d) x)=>it_in s B V k D;have im:=λ(k:Nat) {x y:V1} (D:TT O (Tw O-d) x) (E:TT O (Tw O-d) y)=>zIe s B V L k D E;have iw:∀k,iter (al O P C d i) k (jt P i)=jt P i:=λk=>zDE (by have:=L.fix;rw[e]at this;exact this) k;have iz:∀k,iter (al O P C d i) k (zv O)=zv O:=λk=>zDE (al_zv s B V) k;have pr:∀{x:V1},TT O i x->∃y a,TT O (Tw O-d) y/\x=y.set i a/\0<=a/\a<at_ O i:=λD=>by rw[V];exact pair J (t:=0) D aM
 have zs:zv O=(zv O).set i 0:=(zw (ZV _ i) (by simp;exact J)).symm;have hz:TT O (Tw O-d) (zv O):=s.zv _;have l1:∀{a:V1},TT O i a->mu O P C (d+1) (zv O) a=a:=λ{a} Q=>by
  obtain⟨x,a,D,rfl,b1,b2⟩:=pr Q;rw[zs,G hz D,Iv aH,iz,M.l1 D,Uu]
 have r1:∀{a:V1},TT O i a->mu O P C (d+1) a (zv O)=a:=λ{a} Q=>by
  obtain⟨x,a,D,rfl,b1,b2⟩:=pr Q
  conv=>lhs;rw[zs]
  rw[G D hz,Iv aH,US]
  show(mu O P C d x (zv O)).set i a=_
  rw[M.r1 D]
 have cl:∀{a b:V1},TT O i a->TT O i b->TT O i (mu O P C (d+1) a b):=λ{a b} Q hb=>by
  have:=Bc s (d:=d+1) aH (by rw[Z];exact Q) (by rw[Z];exact hb)
  rwa[Z]at this
 have I3:∀{a b c:V1},TT O i a->TT O i b->TT O i c->mu O P C (d+1) (mu O P C (d+1) a b) c=mu O P C (d+1) a (mu O P C (d+1) b c):=λ{a b c} Q hb hc=>by
  obtain⟨x,a,D,rfl,a1,a2⟩:=pr Q;obtain⟨y,b,E,rfl,b1,b2⟩:=pr hb;obtain⟨z,c,N,rfl,c1,c2⟩:=pr hc;have A:=R b.toNat D;have Y:=R c.toNat E;have AB:=M.cl A E;have T:=M.cl Y N;have past:=λ{u:V1} (I:TT O (Tw O-d) u)=>zQ5 s B V L I;have ic:iter (al O P C d i) c.toNat (iter (al O P C d i) b.toNat x)=iter (al O P C d i) (b.toNat+c.toNat) x:=(zEk _ _ _ _).symm;have X:=R (b.toNat+c.toNat) D;rw[G D E,G E N];by_cases U:a+b ≥ at_ O i
  .rw[Iu U,G (M.cl H AB) N,im _ H AB,iw,im _ A E,ic];by_cases h2:b+c ≥ at_ O i
   .rw[Iu h2,G D (M.cl H T)];have hk:(b+c-at_ O i).toNat+nx O i=b.toNat+c.toNat:=by show _+(at_ O i).toNat=_;omega
    have hX:=past (R (b+c-at_ O i).toNat D);rw[<-zEk,hk]at hX;have e5:mu O P C d (iter (al O P C d i) (b+c-at_ O i).toNat x) (mu O P C d (jt P i) (mu O P C d (iter (al O P C d i) c.toNat y) z))=mu O P C d (mu O P C d (jt P i) (mu O P C d (iter (al O P C d i) (b.toNat+c.toNat) x) (iter (al O P C d i) c.toNat y))) z:=by
     rw[<-M.as (R _ D) H T,<-hX,M.as H X T,<-M.as X Y N,<-M.as H (M.cl X Y) N]
    rw[e5];grind
   .rw[Iv h2,G D T,Iv aH,Iu aH,show(b+c).toNat=b.toNat+c.toNat by omega];rw[<-M.as X Y N,<-M.as H (M.cl X Y) N];congr 1;omega
  .rw[Iv U,G AB N,im _ A E,ic];by_cases h2:b+c ≥ at_ O i
   .rw[Iu h2,G D (M.cl H T),Iu aH,Iv aH];have hk:(b+c-at_ O i).toNat+nx O i=b.toNat+c.toNat:=by show _+(at_ O i).toNat=_;omega
    have hX:=past (R (b+c-at_ O i).toNat D);rw[<-zEk,hk]at hX;rw[<-M.as (R _ D) H T,<-hX,M.as H X T,<-M.as X Y N];congr 1;omega
   .rw[Iv h2,G D T,show(b+c).toNat=b.toNat+c.toNat by omega,<-M.as X Y N];grind
 have Mn:Mon (TT O (Tw O-(d+1))) (mu O P C (d+1)) (zv O):=by
  rw[Z];exact⟨s.zv _,cl,I3,l1,r1⟩
 refine⟨aH,Gp.of_right Mn ?_,?_⟩
 .rw[Z];intro a Q;obtain⟨x,a,D,rfl,a1,a2⟩:=pr Q;by_cases Pj:a=0
  .subst Pj;obtain⟨y,E,U,_⟩:=B.gp.inv D;refine⟨y.set i 0,(E.mono aH).set J (sB _) ⟨aH,aM⟩,?_⟩;rw[G D E,Iv aH]
   show(mu O P C d x y).set i _=_
   rw[U,US];exact zs.symm
  .obtain⟨y,E,U,_⟩:=B.gp.inv (M.cl H (R (at_ O i-a).toNat D));refine⟨y.set i (at_ O i-a),(E.mono aH).set J (sB _) ⟨aH,aH⟩,?_⟩;rw[G D E,Iu aH,<-M.as H (R _ D) E,U,show a+(at_ O i-a)-at_ O i=0 by omega];exact zs.symm
 .rw[Z];intro x D;obtain⟨y,a,E,rfl,a1,a2⟩:=pr D;have yl:i<Tw y:=by rw[E.len];exact J
  have I:∀k:Nat,(k:Int)<at_ O i->pw (mu O P C (d+1)) (zv O) (unit O i) k=(zv O).set i k:=by
   intro k
   induction k with
   |zero=>intro _;exact zs
   |succ k ih=>
    intro hk;show mu O P C (d+1) (pw _ _ _ k) (unit O i)=_;rw[ih aH,G hz hz,Iv aH]
    show(mu O P C d (al O P C d i (zv O)) (zv O)).set i _=_
    rw[al_zv s B V,M.l1 hz];congr 1
  have sub:∀{u v:V1},TT O (Tw O-d) u->TT O (Tw O-d) v->mu O P C (d+1) u v=mu O P C d u v:=λ{u v} I hv=>by
   have ul:i<Tw u:=by rw[I.len];exact J
   have vl:i<Tw v:=by rw[hv.len];exact J
   have h3:=G (a:=0) (b:=0) I hv;rw[zw (I.zero i aH) ul,zw (hv.zero i aH) vl,Iv aH]at h3;rw[h3];have tQ:=M.cl I hv;exact zw (tQ.zero i aH) (by show i<(mu O P C d u v).length;rw[tQ.len];exact J)
  have Mz:∀{u:V1},TT O (Tw O-d) u->∀k,pw (mu O P C (d+1)) (zv O) u k=pw (mu O P C d) (zv O) u k:=λ{u} I k=>by
   induction k with
   |zero=>rfl
   |succ k ih=>show mu O P C (d+1) (pw _ _ u k) u=mu O P C d (pw _ _ u k) u;rw[ih,sub (M.pw I k) I]
  have MC:∀(c t:Nat),(Tw O)-d<=t->t+c<=Tw O->ph (mu O P C (d+1)) (zv O) (unit O) (nx (y.set i a)) t c=ph (mu O P C d) (zv O) (unit O) (nx y) t c:=by
   intro c
   induction c with
   |zero=>intro t _ _;rfl
   |succ c ih=>
    intro t U h2;have JN:TT O (Tw O-d) (unit O t):=s.unit aH U;have bZ:nx (y.set i a) t=nx y t:=by show(at_ _ t).toNat=(at_ y t).toNat;rw[ri yl,Iv aH]
    rw[ph,ph,ih (t+1) aH aH,Mz JN,bZ,sub (M.pw JN _) (M.ph λj g1 g2=>s.unit aH aH)]
  rw[zK0 aH,Z,show Ph O (mu O P C (d+1)) (zv O) (unit O) d (y.set i a)=Ph O (mu O P C d) (zv O) (unit O) d y from MC d _ (sB _) aH,B.nf E];have bZ:nx (y.set i a) i=a.toNat:=by show(at_ _ i).toNat=_;rw[ri yl,Iu rfl]
  have ys:y=y.set i 0:=(zw (E.zero i aH) yl).symm;rw[bZ,I _ aH]
  conv=>lhs;rw[ys]
  rw[G hz E,Iv aH]
  show(mu O P C d (zv O) y).set i _=_
  rw[M.l1 E];congr 1;omega
def zJC(s:kC O P C):Beh O P C 0:=by
 have u:∀{x:V1},TT O (Tw O-0) x->x=zv O:=λ{x} A=>A.ext (s.zv _) λj D E=>by omega
 refine⟨YQ _,⟨⟨s.zv _,λ_ _=>s.zv _,λ_ _ _=>rfl,λh=>(u h).symm,λh=>(u h).symm⟩,λh=>⟨zv O,s.zv _,rfl,rfl⟩⟩,λh=>(u h).symm⟩
end
def Cons(O:V1)(P:V2)(C:V3):Prop:=∀i,i<Tw O->Lv O P C i
def zOV(s:kC O P C):∀{d:Nat},d<=Tw O->(∀i,(Tw O)-d<=i->i<Tw O->Lv O P C i)->Beh O P C d
 |0,_,_=>zJC s
 |d+1,hd,h=>zJD s (zOV s aH λi A u=>h i aH u) aH (h (Tw O-(d+1)) (sB _) aH)
end
section
variable{α:Type}{S:α->Prop}{m:α->α->α}{e:α}{h:Nat->α}
def zKe(s:kC O P C)(J:d+1<=Tw O){u v:V1}(E:TT O (Tw O-d) u)(G:TT O (Tw O-d) v):mu O P C (d+1) u v=mu O P C d u v:=by
 have A:(Tw O)-(d+1)<Tw O:=aH
 have I:=E.zero (Tw O-(d+1)) aH;have D:=G.zero (Tw O-(d+1)) aH;have H:=Bc s (aH:d<=Tw O) E G;have L:=s.pos A;simp only[mu];rw[zw I (by rw[E.len];exact A),zw D (by rw[G.len];exact A),I,D,Iv aH]
 have:nx v (Tw O-(d+1))=0:=by show(at_ v _).toNat=0;rw[D];rfl
 rw[this];exact zw (H.zero _ aH) (by show _<(mu O P C d u v).length;rw[H.len];exact A)
def zHr{u:α->α->α}(h:∀a b,S a->S b->u a b=m a b)(M:Mon S m e){x:α}(A:S x):∀k,pw u e x k=pw m e x k
 |0=>rfl
 |k+1=>by show u (pw u e x k) x=m (pw m e x k) x;rw[zHr h M A k,h _ _ (M.pw A k) A]
def zFK{A:α->α->α}(h:∀a b,S a->S b->A a b=m a b)(M:Mon S m e){f:Nat->α}{x:Nat->Nat}:∀{c t:Nat},(∀j,t<=j->j<t+c->S (f j))->ph A e f x t c=ph m e f x t c
 |0,t,_=>rfl
 |c+1,t,hf=>by
  have u:=hf t (sB _) aH;have i:=zFK h M (f:=f) (x:=x) (c:=c) (t:=t+1) λj a b=>hf j aH aH;rw[ph,ph,i,zHr h M u];exact h _ _ (M.pw u _) (M.ph λj a b=>hf j aH aH)
def zRV{m:V1->V1->V1}(M:Mon (TT O (Tw O-d)) m (zv O))(s:kC O P C){f:Nat->V1}(D:∀j,(Tw O)-d<=j->j<Tw O->TT O (Tw O-d) (f j))(J:d<=Tw O){k:Nat}(G:(Tw O)-d<=k)(H:k<Tw O):Ph O m (zv O) f d (unit O k)=f k:=by
 have:∀(c t:Nat),(Tw O)-d<=t->t+c=Tw O->ph m (zv O) f (nx (unit O k)) t c=if t<=k then f k else zv O:=by
  intro c
  induction c with
  |zero=>intro t A E;rw[ph,Iv aH]
  |succ c ih=>
   intro t A E;have I:nx (unit O k) t=if t=k then 1 else 0:=by
    grind
   rw[ph,ih (t+1) aH aH,I];have u:=D t A aH;by_cases e:t=k
   .subst e;rw[Iu rfl,Iv aH,Iu (sB _),M.pw_one u,M.r1 u]
   .rw[Iv e];show m (zv O) _=_;by_cases g:t<=k
    .rw[Iu aH,Iu g,M.l1 (D k G H)]
    .rw[Iv aH,Iv g,M.l1 M.one]
 simp_all
structure Full(O:V1)(P:V2)(C:V3)(d:Nat):Prop extends Beh O P C d where
 rel:Rel O P C (TT O (Tw O-d)) (mu O P C d) (zv O) (unit O) (Tw O-d)
def zN8(s:kC O P C):Full O P C 0:=⟨zJC s,⟨λj u A=>s.unit A u,λj u A=>aH,λj k u A D=>aH⟩⟩
def zN9(s:kC O P C)(B:Full O P C d)(G:(Tw O)-d=i+1)(L:Lv O P C i):Full O P C (d+1):=by
 have hle:=B.le;have D:i<Tw O:=aH
 have Y:(Tw O)-(d+1)=i:=aH
 have V:=zJD s B.toBeh G L;refine⟨V,?_⟩;have M:=B.gp.toMon;have aM:=s.pos D;have H:TT O (Tw O-d) (zv O):=s.zv _;have T:TT O (Tw O-d) (jt P i):=by rw[G];exact s.pw i D
 have sub:∀a b,TT O (Tw O-d) a->TT O (Tw O-d) b->mu O P C (d+1) a b=mu O P C d a b:=λa b Z hb=>zKe s aH Z hb;have un:∀j,(Tw O)-d<=j->j<Tw O->TT O (Tw O-d) (unit O j):=λj A u=>s.unit u A;have R:=λ{a b:Int} {x y:V1} (Q:TT O (Tw O-d) x) (hy:TT O (Tw O-d) y)=>zDk s B.toBeh G (a:=a) (b:=b) Q hy;have zs:zv O=(zv O).set i 0:=(zw (ZV _ i) (by simp;exact D)).symm;have nfx:∀{j:Nat} {x:V1},i<=j->j<Tw O->TT O (j+1) x->Ph O (mu O P C (d+1)) (zv O) (unit O) (Tw O-(j+1)) x=x:=λ{j x} A u Q=>by
  have J:=B.nf (Q.mono (aH:(Tw O)-d<=j+1));have I:Ph O (mu O P C (d+1)) (zv O) (unit O) (Tw O-(j+1)) x=Ph O (mu O P C d) (zv O) (unit O) (Tw O-(j+1)) x:=zFK sub M λk a b=>un k aH aH;rw[I]
  have:=M.ph_skip (h:=unit O) (x:=nx x) (d:=(Tw O)-(j+1)) (k:=j-i) (t:=(Tw O)-d) (λt a b=>by show(at_ x t).toNat=0;rw[Q.zero t aH];rfl) (λt a b=>un t aH aH)
  rw[show j-i+(Tw O-(j+1))=d by omega,show (Tw O)-d+(j-i)=Tw O-(Tw O-(j+1)) by omega]at this;show ph _ _ _ _ _ _=x;rw[<-this];exact J
 rw[Y];refine⟨λj A u=>s.unit u A,λj A u=>?_,λj k A u E=>?_⟩
 .rw[nfx A u (s.pw j u)];by_cases e:j=i
  .subst e;have hu:∀k:Nat,(k:Int)<at_ O j->pw (mu O P C (d+1)) (zv O) (unit O j) k=(zv O).set j k:=by
    intro k
    induction k with
    |zero=>intro _;exact zs
    |succ k ih=>
     intro hk;show mu O P C (d+1) (pw _ _ _ k) (unit O j)=_;rw[ih aH,R H H,Iv aH]
     show(mu O P C d (al O P C d j (zv O)) (zv O)).set j _=_
     rw[al_zv s B.toBeh G,M.l1 H];congr 1
   obtain⟨o,ho⟩:∃o:Nat,nx O j=o+1:=⟨nx O j-1,by grind⟩
   have Sk:at_ O j=(o:Int)+1:=by have:nx O j=(at_ O j).toNat:=rfl;omega
   rw[ho];show mu O P C (d+1) (pw _ _ _ o) (unit O j)=_;rw[hu o aH,R H H,Iu aH]
   show(mu O P C d (jt P j) (mu O P C d (al O P C d j (zv O)) (zv O))).set j _=_
   rw[al_zv s B.toBeh G,M.l1 H,M.r1 T,show(o:Int)+1-at_ O j=0 by omega];exact zw (T.zero j aH) (by rw[T.len];exact D)
  .rw[zHr sub M (un j aH u),B.rel.pow j aH u];have J:=nfx A u (s.pw j u);have I:Ph O (mu O P C (d+1)) (zv O) (unit O) (Tw O-(j+1)) (jt P j)=Ph O (mu O P C d) (zv O) (unit O) (Tw O-(j+1)) (jt P j):=zFK sub M λk a b=>un k aH aH;rw[<-I];exact J
 .rw[nfx A aH (s.cj j k u E)];by_cases e:j=i
  .subst e;have N:TT O (Tw O-d) (iD C j k):=by rw[G];exact s.cj j k u E
   have U:=un k aH E;have zu:=U.zero j aH;have zc:=N.zero j aH;have I:mu O P C (d+1) (unit O k) (unit O j)=(iD C j k).set j 1:=by
    have:=R (a:=0) (b:=1) U H
    rw[zw zu (by rw[U.len];exact D),Iv (by have:=(s.pr j D).1;omega)]at this;rw[this]
    show(mu O P C d (al O P C d j (unit O k)) (zv O)).set j _=_
    rw[al_ph s B.toBeh G,zRV M s (λq a b=>by rw[G];exact s.cj j q aH b) hle aH E,M.r1 N];congr 1
   have X:mu O P C (d+1) (unit O j) (iD C j k)=(iD C j k).set j 1:=by
    have:=R (a:=1) (b:=0) H N
    rw[zw zc (by rw[N.len];exact D),Iv (by have:=(s.pr j D).1;omega)]at this;rw[this]
    show(mu O P C d (zv O) (iD C j k)).set j _=_
    rw[M.l1 N];congr 1
   rw[I,X]
  .have Ko:TT O (Tw O-d) (iD C j k):=(s.cj j k u E).mono aH;have J:=nfx A aH (s.cj j k u E);have I:Ph O (mu O P C (d+1)) (zv O) (unit O) (Tw O-(j+1)) (iD C j k)=Ph O (mu O P C d) (zv O) (unit O) (Tw O-(j+1)) (iD C j k):=zFK sub M λk a b=>un k aH aH;rw[I]at J
   have:=B.rel.cj j k aH u E
   rw[J]at this;rw[sub _ _ (un k aH E) (un j aH aH),sub _ _ (un j aH aH) Ko];exact this
def BZ(s:kC O P C):∀{d:Nat},d<=Tw O->(∀i,(Tw O)-d<=i->i<Tw O->Lv O P C i)->Full O P C d
 |0,_,_=>zN8 s
 |d+1,hd,h=>zN9 s (BZ s aH λi A u=>h i aH u) aH (h (Tw O-(d+1)) (sB _) aH)
def uW(x:V1)(j:Nat):V1:=x.take (j+1)++Jf (Tw x-(j+1)) 0
end
end Go.Grp
namespace Go.Proofs
open Go.Ab Go.Lie Go.Grp
variable{rC rP:List PV}{σ:dj}{vC vO vP vx:PV}{K:PV->dj->Prop}{O x:V1}{P:V2}{C:V3}
section
variable{s:Nat}
structure eQ(vO vP vC:PV)(O:V1)(P:V2)(C:V3):Prop where
 O:FI vO O
 P:hK vP P
 C:DB vC C
structure ti(O:V1)(P:V2)(C:V3):Prop where
 O:(Tw O)<=1048576
 P:CV P
 C:SzM C
structure PtrG(σ:dj)(s:Nat)(vO vP vC:PV):Prop where
 cd:σ.cd s=Ik [vO,vP,vC]
 lt:s<σ.bY
def wJ(O x:V1):Prop:=(Tw x)=Tw O/\∀j,j<Tw x->0<=at_ x j/\at_ x j<=at_ O j-1
def ZP(O:V1)(t:Nat)(x:V1):Prop:=wJ O x/\isZ (x.take t)
def iL:V1->Int
 |[]=>1
 |o::O=>o*iL O
def rowPr(O:V1)(P:V2)(C:V3)(i:Nat):Prop:=ZP O (i+1) (P.getD i [])/\(C.getD i []).length=Tw O-1-i/\∀k,k<(C.getD i []).length->ZP O (i+1) ((C.getD i []).getD k [])
def zI(O:V1)(P:V2)(C:V3):Prop:=
 (Tw O)<=6/\Tw P=(Tw O)/\Tw C=(Tw O)/\(∀o∈O,pR o)/\iL O<=729/\∀i,i<Tw O->rowPr O P C i
def ZP.tt{t:Nat}(h:ZP O t x):TT O t x:=by
 refine⟨h.1.1,λj u=>by have:=h.1.2 j (by rw[h.1.1];exact u);omega,λj u=>?_⟩;rcases YY j (Tw x) with e|e
 .rw[gj e];exact h.2 _ (by rw[UQ];exact⟨j,aH,rfl⟩)
 .exact Hm e
def zI.shp(h:zI O P C):kC O P C:=by
 obtain⟨E,G,H,I,J,u⟩:=h;refine⟨E,λj D=>?_,G,H,λi A=>(u i A).1.tt,λi A=>(u i A).2.1,λi j L D=>?_⟩
 .rw[gj D];exact(I _ (ss D)).bd
 .have:=(u i aH).2.2 (j-i-1) (by rw[(u i aH).2.1];omega)
  exact this.tt
def zGL(hs:PtrG σ s vO vP vC)(T:FI vO O)(sG:(Tw O)<=1048576)(R:∀o∈O,pR o)(U:FI vx x)(hb:(Tw x)<=1048576)(G:∀t:Bool,(t=Im↔wJ O x)->K (.bool t) σ):zA Tryz.prog 141 [.ptr s 0,vx] σ K:=by
 have I:=@Ts
 obtain⟨V,N,rfl⟩:=T;obtain⟨X,Q,rfl⟩:=U;have H:σ.gv s 0=Ik (.fz V N (Tw O) (eh O)):=by rw[zH hs.cd];rfl
 refine Tn Tryz.func141 ?_;simp only[Z3,seval,-ae,H];refine Tr (λD=>?_) λD=>?_
 .exact G _ (I λh=>D (by rw[h.1]))
 have D:(Tw x)=Tw O:=aH
 refine zF (λm vs h'=>∃i:Nat,i<=Tw x/\m=Tw x-i/\vs=[.ptr s 0,.fz X Q (Tw x) (eh x),.int .i64 (Tw x),.int .i64 i]/\σ=h'/\∀j,j<i->0<=at_ x j/\at_ x j<=at_ O j-1) (Tw x) ?_ ?_
 .exact⟨0,aH,aH,rfl,rfl,λj J=>aH⟩
 rintro m vs h' ⟨i,hi,rfl,rfl,rfl,L⟩
 refine Tq ?_;refine fi (λu=>?_) λY=>?_
 .have ux:i<Tw O:=aH
  have Z:=(R _ (ss ux)).bd;simp only[Z3,seval,-ae,u,ux,H,gi u,gi ux,zJ,mn (n:=O[i] - 1) aH aH];refine zDF ?_;by_cases E:0<=x[i]/\x[i]<=O[i] - 1
  .simp only[Z3,seval,-ae,E,WX u];refine⟨_,aH,i+1,aH,rfl,rfl,λj J=>?_⟩;grind
  .simp only[Z3,seval,-ae,E];exact G _ (I λh=>E (by have:=h.2 i u;rwa[gj u,gj ux]at this))
 .exact G _ ⟨λ_=>⟨D,λj J=>L j aH⟩,λ_=>rfl⟩
def zCY{i:Nat}(hs:PtrG σ s vO vP vC)(Q:FI vO O)(U:(Tw O)<=1048576)(N:∀o∈O,pR o)(I:FI vx x)(R:(Tw x)<=1048576)(T:i<Tw O)(D:∀t:Bool,(t=Im↔ZP O (i+1) x)->K (.bool t) σ):zA Tryz.prog 85 [.ptr s 0,.int .i64 i,vx] σ K:=by
 have E:=@Ts
 refine Tn Tryz.func85 ?_;refine Tq ?_;refine zGL hs Q U N I R λt H=>?_;cases t with
 |false=>
  refine Tq ?_;exact D _ (E λh=>by cases H.2 h.1)
 |true=>
  have G:=H.1 rfl;have X:=G.1;obtain⟨Y,V,rfl⟩:=I;have J:((i+1:Nat):Int)<=(Tw x:Int):=aH
  have L:i+1<=Tw x:=aH
  simp only[Z3,seval,-ae,WX T,J,L,zPC,Nat.sub_zero];refine zGs (by simp;omega) (by simp;omega) ?_;by_cases u:isZ (x.take (i+1))
  .simp only[Z3,seval,-ae,u];exact D _ ⟨λ_=>⟨G,u⟩,λ_=>rfl⟩
  .simp only[Z3,seval,-ae,u];exact D _ (E λh=>u h.2)
def zAr:∀(a b:V1),iL (a++b)=iL a*iL b
 |[],b=>by simp[iL]
 |x::a,b=>by simp[iL,zAr a b,Uk]
def Zg{i:Nat}(u:i<Tw O):iL (O.take (i+1))=iL (O.take i)*O[i]:=by
 rw[YV u,zAr];simp[iL]
def Qe:∀{O:V1},(∀o∈O,pR o)->1<=iL O
 |[],_=>by simp[iL]
 |o::O,h=>by
  have u:=(h o bj).bd;have A:=Qe (O:=O) λq D=>h q (by simp[D]);simp only[iL]
  have:=Oq u.1 A aH aH
  omega
def zLI(h:∀o∈O,pR o)(i:Nat):iL (O.take i)<=iL O:=by
 have D:=Qe λo u=>h o (Y7 (i:=i) u);have A:=Qe λo u=>h o (Jx (i:=i) u)
 have:iL O=iL (O.take i)*iL (O.drop i):=by rw[<-zAr,List.take_append_drop]
 have E:=Oq (UL (iL (O.take i))) A aH aH;omega
def QK(hR:eQ vO vP vC O P C)(sz:ti O P C)(hk:∀t:Bool,(t=Im↔zI O P C)->K (.bool t) σ):zA Tryz.prog 40 [.agg [vO,vP,vC]] σ K:=by
 have A9:=hR.O;have EO:=sz.P;have At:=sz.C;obtain⟨⟨E,D,rfl⟩,⟨w1,G,rP,rfl,hP⟩,⟨N,H,rC,rfl,hC⟩⟩:=hR;refine zA.gh ?_;have fin:∀{t:Bool} {σ':dj},(t=Im↔zI O P C)->dq σ σ'->Gh σ K (.bool t) σ':=λh k=>Gh.fin0 k trivial (hk _ h);have no:∀{σ':dj},¬zI O P C->dq σ σ'->Gh σ K (.bool false) σ':=λh k=>fin ⟨λx=>(by cases x),λx=>absurd x h⟩ k;have A:=zB σ [.fz E D (Tw O) (eh O),.fz w1 G (Tw P) rP,.fz N H (Tw C) rC];have dL:PtrG (σ.cb [.fz E D (Tw O) (eh O),.fz w1 G (Tw P) rP,.fz N H (Tw C) rC]) σ.bY (.fz E D (Tw O) (eh O)) (.fz w1 G (Tw P) rP) (.fz N H (Tw C) rC):=⟨by simp only[Z3,seval,-ae],by simp only[Z3,seval,-ae]⟩
 refine Tn Tryz.func40 ?_;refine Tq ?_;by_cases h6:(Tw O)<=6;rotate_left
 .have T:(6:Int)<(Tw O:Int):=aH
  simp only[Z3,seval,-ae,T];exact no (λh=>h6 h.1) A
 have T:¬(6:Int)<(Tw O:Int):=aH
 by_cases Dc:(Tw P)=Tw O;rotate_left
 .have X:¬(Tw P:Int)=(Tw O:Int):=aH
  simp only[Z3,seval,-ae,T,X];exact no (λh=>Dc h.2.1) A
 have X:(Tw P:Int)=(Tw O:Int):=aH
 by_cases uA:(Tw C)=Tw O;rotate_left
 .have lR:¬(Tw C:Int)=(Tw O:Int):=aH
  simp only[Z3,seval,-ae,T,eq_true X,lR];exact no (λh=>uA h.2.2.1) A
 have lR:(Tw C:Int)=(Tw O:Int):=aH
 simp only[Z3,seval,-ae,T,eq_true X,eq_true lR];refine zF (λm vs h'=>∃i:Nat,i<=Tw O/\m=Tw O-i/\vs=[.ptr σ.bY 0,.int .i64 (Tw O),.int .i64 (iL (O.take i)),.fz E D (Tw O) (eh O),.int .i64 (Tw O),.int .i64 i]/\h'=σ.cb [.fz E D (Tw O) (eh O),.fz w1 G (Tw P) rP,.fz N H (Tw C) rC]/\(∀o∈O.take i,pR o)/\iL (O.take i)<=729) (Tw O) ?_ ?_
 .exact⟨0,aH,aH,rfl,rfl,bj,by simp[iL]⟩
 rintro m vs h' ⟨i,hi,rfl,rfl,rfl,I,Y⟩
 refine Tq ?_;refine fi (λu=>?_) λan=>?_
 .simp only[Z3,seval,-ae,u,gi u,zJ];refine zF1 ?_;by_cases L:pR O[i];rotate_left
  .simp only[Z3,seval,-ae,L];exact no (λh=>L (h.2.2.2.1 _ (ss u))) A
  have vJ:=L.bd;have h1:=Qe I;have AQ:0<=iL (O.take i)*O[i]:=UW aH aH;have D6:=Oq Y vJ.2 aH aH;have hw:Tu .i64 (iL (O.take i)*O[i])=iL (O.take i)*O[i]:=WE;by_cases ho:iL (O.take i)*O[i]<=729
  .have di:¬(729:Int)<iL (O.take i)*O[i]:=aH
   simp only[Z3,seval,-ae,L,hw,di,u,gi u,zJ,WX u];refine⟨_,aH,i+1,aH,rfl,?_,zDL u I L,?_⟩
   .rw[Zg u]
   .rw[Zg u];exact ho
  .have di:(729:Int)<iL (O.take i)*O[i]:=aH
   simp only[Z3,seval,-ae,L,hw,di];refine no (λh=>?_) A
   have:=zLI h.2.2.2.1 (i+1)
   rw[Zg u]at this
   have:=h.2.2.2.2.1
   omega
 have dd:i=Tw O:=aH
 subst dd;rw[YP]at I Y;refine zF (λm vs h'=>∃i:Nat,i<=Tw O/\m=Tw O-i/\vs=[.ptr σ.bY 0,.int .i64 (Tw O),.int .i64 (Tw O),.int .i64 i]/\h'=σ.cb [.fz E D (Tw O) (eh O),.fz w1 G (Tw P) rP,.fz N H (Tw C) rC]/\∀j,j<i->rowPr O P C j) (Tw O) ?_ ?_
 .exact⟨0,aH,aH,rfl,rfl,λj V=>aH⟩
 rintro m vs h' ⟨i,hi,rfl,rfl,rfl,aE⟩
 refine Tq ?_;refine Tr (λan=>?_) λu=>?_
 .exact fin ⟨λ_=>⟨h6,Dc,uA,I,Y,λj V=>aE j aH⟩,λ_=>rfl⟩ A
 have U:i<Tw P:=aH
 have J:i<Tw C:=aH
 obtain⟨w4,a4,hr⟩:=hP.rowI U;obtain⟨w5,a5,rs,cn,gI⟩:=hC.rowL J;have mi:=EO.r _ (ss U);have tA:=(At.r _ (ss J)).l;have bad:(ZP O (i+1) P[i]->C[i].length=Tw O-1-i->(∀k (h:k<C[i].length),ZP O (i+1) C[i][k])->False)->¬zI O P C:=λhb mV=>by
  obtain⟨q1,q3,q4⟩:=mV.2.2.2.2.2 i u;simp_all
 simp only[Z3,seval,-ae,U,hr];refine zCY dL A9 sz.O I ⟨_,_,rfl⟩ mi u λt R=>?_;cases t with
 |false=>
  refine Tq ?_;exact no (bad λq _ _=>by cases R.2 q) A
 |true=>
 have hv:=R.1 rfl;have e1:Tu .i64 ((Tw O:Int)-1)=(Tw O:Int)-1:=WE;have e2:Tu .i64 ((Tw O:Int)-1-(i:Int))=(Tw O:Int)-1-(i:Int):=WE;by_cases hlen:C[i].length=Tw O-1-i;rotate_left
 .have Z:¬(C[i].length:Int)=(Tw O:Int)-1-(i:Int):=aH
  simp only[Z3,seval,-ae,u,J,cn,e1,e2,Z];exact no (bad λ_ q _=>hlen q) A
 have Z:(C[i].length:Int)=(Tw O:Int)-1-(i:Int):=aH
 simp only[Z3,seval,-ae,u,J,cn,e1,e2,eq_true Z];refine zF (λm vs h'=>∃k:Nat,k<=C[i].length/\m=C[i].length-k/\vs=[.ptr σ.bY 0,.int .i64 (Tw O),.int .i64 i,.int .i64 (Tw O),.int .i64 i,.fz w5 a5 C[i].length rs,.int .i64 C[i].length,.int .i64 k]/\
  h'=σ.cb [.fz E D (Tw O) (eh O),.fz w1 G (Tw P) rP,.fz N H (Tw C) rC]/\∀j (h:j<C[i].length),j<k->ZP O (i+1) C[i][j]) C[i].length ?_ ?_
 .exact⟨0,aH,aH,rfl,rfl,λj h V=>aH⟩
 rintro m vs h' ⟨k,cB,rfl,rfl,rfl,rQ⟩
 refine Tq ?_;refine fi (λQ=>?_) λan=>?_
 .obtain⟨w6,a6,jf⟩:=gI.rowI Q;have dD:=(At.r _ (ss J)).r _ (ss Q);simp only[Z3,seval,-ae,Q,jf];refine zCY dL A9 sz.O I ⟨_,_,rfl⟩ dD u λt R=>?_;cases t with
  |false=>
   refine Tq ?_;exact no (bad λ_ _ q=>by cases R.2 (q k Q)) A
  |true=>
   simp only[Z3,seval,-ae,WX Q];refine⟨_,aH,k+1,aH,rfl,rfl,λj h V=>?_⟩;grind
 .simp only[Z3,seval,-ae,WX u];refine⟨_,aH,i+1,aH,rfl,rfl,λj V=>?_⟩;by_cases e:j=i
  .subst e;refine⟨by rw[zEm U];exact hv,by rw[zBO J];exact hlen,λt R=>?_⟩;grind
  .exact aE j aH
end
def Qs{t:Nat}{z:Int}(hz:z=(t:Int)-1)(ht:t<=Tw O)(Z:FI vO O)(sG:(Tw O)<=1048576)(Y:∀o∈O,pR o)(hx:FI vx x)(hb:(Tw x)<=1048576)(G:∀b:Bool,(b=Im↔ZP O t x)->K (.bool b) σ):zA Tryz.prog 96 [vO,vx,.int .i64 z] σ K:=by
 have Q:=@Ts
 obtain⟨T,L,rfl⟩:=Z;obtain⟨U,N,rfl⟩:=hx;subst hz;refine ZY mix Tryz.func96 ?_;refine Tq ?_;refine Tr (λH=>?_) λH=>?_
 .exact G _ (Q λh=>H (by rw[h.1.1]))
 have H:(Tw x)=Tw O:=aH
 refine zF (λm vs h'=>∃i:Nat,i<=Tw x/\m=Tw x-i/\vs=[.fz T L (Tw O) (eh O),.fz U N (Tw x) (eh x),.int .i64 ((t:Int)-1),.int .i64 i]/\σ=h'/\∀j,j<i->(0<=at_ x j/\at_ x j<=at_ O j-1)/\(j<t->at_ x j=0)) (Tw x) ?_ ?_
 .exact⟨0,aH,aH,rfl,rfl,λj R=>aH⟩
 rintro m vs h' ⟨i,hi,rfl,rfl,rfl,V⟩
 refine Tq ?_;refine Tr (λan=>?_) λu=>?_
 .refine G _ ⟨λ_=>⟨⟨H,λj R=>(V j aH).1⟩,λy X=>?_⟩,λ_=>rfl⟩;rw[UQ]at X;obtain⟨j,R,rfl⟩:=X
  have:=(V j aH).2 aH
  rwa[gj aH]at this
 have J:i<Tw O:=aH
 have bo:=(Y _ (ss J)).bd;simp only[Z3,seval,-ae,u,J,gi u,gi J,zJ,mn (n:=O[i] - 1) aH aH];refine QZ ?_;by_cases D:0<=x[i]/\x[i]<=O[i] - 1;rotate_left
 .simp only[Z3,seval,-ae,D];exact G _ (Q λh=>D (by have:=h.1.2 i u;rwa[gj u,gj J]at this))
 have next:(i<t->x[i]=0)->∃n',n'<Tw x-i/\∃I:Nat,I<=Tw x/\n'=Tw x-I/\[PV.fz T L (Tw O) (eh O),.fz U N (Tw x) (eh x),.int .i64 ((t:Int)-1),.int .i64 ((i+1:Nat):Int)]=[.fz T L (Tw O) (eh O),.fz U N (Tw x) (eh x),.int .i64 ((t:Int)-1),.int .i64 I]/\∀j,j<I->(0<=at_ x j/\at_ x j<=at_ O j-1)/\(j<t->at_ x j=0):=λE=>by
  refine⟨_,aH,i+1,aH,rfl,rfl,λj R=>?_⟩;grind
 by_cases hle:(i:Int)<=(t:Int)-1
 .simp only[Z3,seval,-ae,D,hle,u,gi u,zJ];refine fi (λE=>?_) λE=>?_
  .simp only[Z3,seval,-ae,WX u];exact next λ_=>E
  .refine G _ (Q λh=>E ?_);exact h.2 _ (by rw[UQ];exact⟨i,aH,rfl⟩)
 .simp only[Z3,seval,-ae,D,hle,u,WX u];exact next λh=>absurd h aH
def zCb(H:FI vO O)(X:(Tw O)<=6)(A:∀o∈O,pR o)(U:∀r:Int,(r<=729↔iL O<=729)->K (.int .i64 r) σ):zA Tryz.prog 56 [vO] σ K:=by
 obtain⟨L,G,rfl⟩:=H;refine Tn Tryz.func56 ?_;refine Tq ?_;refine zF (λm vs h'=>∃(i:Nat) (r:Int),i<=Tw O/\m=Tw O-i/\vs=[.fz L G (Tw O) (eh O),.int .i64 r,.int .i64 i]/\σ=h'/\(r=iL (O.take i)\/(729<r/\729<iL (O.take i)))) (Tw O) ?_ ?_
 .exact⟨0,1,aH,aH,rfl,rfl,.inl (by simp[iL])⟩
 rintro m vs h' ⟨i,r,T,rfl,rfl,rfl,V⟩
 refine Tq ?_;refine Tr (λQ=>?_) λu=>?_
 .grind
 have bt:∀o∈O.take i,pR o:=λo I=>A o (Y7 I);have R:=Qe bt;have J:=A _ (ss u);have D:=J.bd;have hs:=Zg u;refine fi (λhle=>?_) λY=>?_
 .have nh:r=iL (O.take i):=aH
  subst nh;have N:0<=iL (O.take i)*O[i]:=UW aH aH;have E:=Oq hle D.2 aH aH;simp only[Z3,seval,-ae,u,gi u,zJ,mn (n:=iL (O.take i)*O[i]) aH aH,WX u];exact⟨_,aH,i+1,_,aH,rfl,rfl,.inl hs.symm⟩
 .simp only[Z3,seval,-ae,WX u];refine⟨_,aH,i+1,_,aH,rfl,rfl,.inr ⟨aH,?_⟩⟩;have E:=Oq (UL (iL (O.take i))) D.1 aH aH;omega
def qJ(hR:eQ vO vP vC O P C)(sz:ti O P C)(hk:∀t:Bool,(t=Im↔zI O P C)->K (.bool t) σ):zA Tryz.prog 46 [.agg [vO,vP,vC]] σ K:=by
 have Z:=hR.O;have EO:=sz.P;have At:=sz.C;obtain⟨⟨X,J,rfl⟩,⟨w1,L,rP,rfl,hP⟩,⟨Y,N,rC,rfl,hC⟩⟩:=hR;refine zA.gh ?_;have fin:∀{t:Bool} {σ':dj},(t=Im↔zI O P C)->dq σ σ'->Gh σ K (.bool t) σ':=λh k=>Gh.fin0 k trivial (hk _ h);have no:∀{σ':dj},¬zI O P C->dq σ σ'->Gh σ K (.bool false) σ':=λh k=>fin ⟨λx=>(by cases x),λx=>absurd x h⟩ k;have A:=zB σ [.fz X J (Tw O) (eh O),.fz w1 L (Tw P) rP,.fz Y N (Tw C) rC];refine ZY mix Tryz.func46 ?_;refine Tq ?_;by_cases h6:(Tw O)<=6;rotate_left
 .have I:(6:Int)<(Tw O:Int):=aH
  simp only[Z3,seval,-ae,I];exact no (λh=>h6 h.1) A
 have I:¬(6:Int)<(Tw O:Int):=aH
 by_cases Dc:(Tw P)=Tw O;rotate_left
 .have V:¬(Tw P:Int)=(Tw O:Int):=aH
  simp only[Z3,seval,-ae,I,V];exact no (λh=>Dc h.2.1) A
 have V:(Tw P:Int)=(Tw O:Int):=aH
 by_cases uA:(Tw C)=Tw O;rotate_left
 .have lR:¬(Tw C:Int)=(Tw O:Int):=aH
  simp only[Z3,seval,-ae,I,eq_true V,lR];exact no (λh=>uA h.2.2.1) A
 have lR:(Tw C:Int)=(Tw O:Int):=aH
 simp only[Z3,seval,-ae,I,eq_true V,eq_true lR];refine zF (λm vs h'=>∃i:Nat,i<=Tw O/\m=Tw O-i/\vs=[.ptr σ.bY 0,.int .i64 (Tw O),.int .i64 i]/\h'=σ.cb [.fz X J (Tw O) (eh O),.fz w1 L (Tw P) rP,.fz Y N (Tw C) rC]/\(∀o∈O.take i,pR o)) (Tw O) ?_ ?_
 .exact⟨0,aH,aH,rfl,rfl,bj⟩
 rintro m vs h' ⟨i,hi,rfl,rfl,rfl,E⟩
 refine Tq ?_;refine fi (λu=>?_) λan=>?_
 .simp only[Z3,seval,-ae,u,gi u,zJ];refine Q7 ?_;by_cases U:pR O[i];rotate_left
  .simp only[Z3,seval,-ae,U];exact no (λh=>U (h.2.2.2.1 _ (ss u))) A
  simp only[Z3,seval,-ae,U,WX u];exact⟨_,aH,i+1,aH,rfl,rfl,zDL u E U⟩
 have dd:i=Tw O:=aH
 subst dd;rw[YP]at E;refine Tq ?_;refine zCb Z h6 E λr hr=>?_;by_cases dH:iL O<=729;rotate_left
 .have:(729:Int)<r:=aH
  simp only[Z3,seval,-ae,this];exact no (λh=>dH h.2.2.2.2.1) A
 have:¬(729:Int)<r:=aH
 simp only[Z3,seval,-ae,this];refine zF (λm vs h'=>∃i:Nat,i<=Tw O/\m=Tw O-i/\vs=[.ptr σ.bY 0,.int .i64 (Tw O),.int .i64 i]/\h'=σ.cb [.fz X J (Tw O) (eh O),.fz w1 L (Tw P) rP,.fz Y N (Tw C) rC]/\∀j,j<i->rowPr O P C j) (Tw O) ?_ ?_
 .exact⟨0,aH,aH,rfl,rfl,λj T=>aH⟩
 rintro m vs h' ⟨i,hi,rfl,rfl,rfl,aE⟩
 refine Tq ?_;refine Tr (λan=>?_) λu=>?_
 .exact fin ⟨λ_=>⟨h6,Dc,uA,E,dH,λj T=>aE j aH⟩,λ_=>rfl⟩ A
 have R:i<Tw P:=aH
 have D:i<Tw C:=aH
 obtain⟨w4,a4,hr⟩:=hP.rowI R;obtain⟨w5,a5,rs,Q,gI⟩:=hC.rowL D;have mi:=EO.r _ (ss R);have tA:=(At.r _ (ss D)).l;have bad:(ZP O (i+1) P[i]->C[i].length=Tw O-1-i->(∀k (h:k<C[i].length),ZP O (i+1) C[i][k])->False)->¬zI O P C:=λhb mV=>by
  obtain⟨q1,q3,q4⟩:=mV.2.2.2.2.2 i u;simp_all
 simp only[Z3,seval,-ae,R,hr];refine Qs (t:=i+1) aH aH Z sz.O E ⟨_,_,rfl⟩ mi λt H=>?_;cases t with
 |false=>
  refine Tq ?_;exact no (bad λq _ _=>by cases H.2 q) A
 |true=>
 have hv:=H.1 rfl;have e1:Tu .i64 ((Tw O:Int)-1)=(Tw O:Int)-1:=WE;have e2:Tu .i64 ((Tw O:Int)-1-(i:Int))=(Tw O:Int)-1-(i:Int):=WE;by_cases hlen:C[i].length=Tw O-1-i;rotate_left
 .have db:¬(C[i].length:Int)=(Tw O:Int)-1-(i:Int):=aH
  simp only[Z3,seval,-ae,u,D,Q,e1,e2,db];exact no (bad λ_ q _=>hlen q) A
 have db:(C[i].length:Int)=(Tw O:Int)-1-(i:Int):=aH
 simp only[Z3,seval,-ae,u,D,Q,e1,e2,eq_true db];refine zF (λm vs h'=>∃k:Nat,k<=C[i].length/\m=C[i].length-k/\vs=[.ptr σ.bY 0,.int .i64 (Tw O),.int .i64 i,.int .i64 k]/\
  h'=σ.cb [.fz X J (Tw O) (eh O),.fz w1 L (Tw P) rP,.fz Y N (Tw C) rC]/\∀j (h:j<C[i].length),j<k->ZP O (i+1) C[i][j]) C[i].length ?_ ?_
 .exact⟨0,aH,aH,rfl,rfl,λj h T=>aH⟩
 rintro m vs h' ⟨k,cB,rfl,rfl,rfl,rQ⟩
 simp only[Z3,seval,-ae,D,Q];refine fi (λG=>?_) λan=>?_
 .obtain⟨w6,a6,jf⟩:=gI.rowI G;have dD:=(At.r _ (ss D)).r _ (ss G);simp only[Z3,seval,-ae,D,Q,G,jf];refine Qs (t:=i+1) aH aH Z sz.O E ⟨_,_,rfl⟩ dD λt H=>?_;cases t with
  |false=>
   refine Tq ?_;exact no (bad λ_ _ q=>by cases H.2 (q k G)) A
  |true=>
   simp only[Z3,seval,-ae,WX G];refine⟨_,aH,k+1,aH,rfl,rfl,λj h T=>?_⟩;grind
 .simp only[Z3,seval,-ae,WX u];refine⟨_,aH,i+1,aH,rfl,rfl,λj T=>?_⟩;by_cases e:j=i
  .subst e;refine⟨by rw[zEm R];exact hv,by rw[zBO D];exact hlen,λt H=>?_⟩;grind
  .exact aE j aH
section
variable{s:Nat}
def lK{i:Nat}(h:i<Tw x):(eh x)[i]? = Ik (.int .i64 (at_ x i)):=by rw[zJ,gi h,gj h];rfl
def pvRow(s:kC O P C)(D:ez FI rP P){i:Nat}(A:i<Tw O):∃w a,rP[i]? = Ik (.fz w a (Tw O) (eh (jt P i))):=by
 have u:i<Tw P:=by rw[s.pl];exact A
 obtain⟨w,a,h⟩:=D.rowI u;refine⟨w,a,?_⟩;have e:jt P i=P[i]:=zEm u;rw[h,e,show P[i].length=(Tw O) by rw[<-e];exact(s.pw i A).len]
def cvRow(s:kC O P C)(I:ez hK rC C){i:Nat}(E:i<Tw O):∃w a u,rC[i]? = Ik (.fz w a (Tw O-1-i) u)/\∀q,q<Tw O-1-i->∃w' a',u[q]? = Ik (.fz w' a' (Tw O) (eh (iD C i (i+(1+q))))):=by
 have A:i<Tw C:=by rw[s.cl];exact E
 obtain⟨w,a,u,h,H⟩:=I.rowL A;have e:C.getD i []=C[i]:=zBO A;have J:C[i].length=Tw O-1-i:=by rw[<-e];exact s.row i E
 refine⟨w,a,u,by rw[h,J],λq L=>?_⟩;have G:q<C[i].length:=aH
 obtain⟨w',a',h'⟩:=H.rowI G;have D:iD C i (i+(1+q))=C[i][q]:=by
  simp_all
 exact⟨w',a',by rw[h',D,show C[i][q].length=(Tw O) by rw[<-D];exact(s.cj i _ aH aH).len]⟩
def FI.mk{w:Bool}{a:AV}{n:Nat}(h:(Tw x)=n):FI (.fz w a n (eh x)) x:=⟨w,a,by rw[h]⟩
def AtOK(O:V1)(P:V2)(C:V3)(d i:Nat):Prop:=
 ∀{σ:dj} {K:PV->dj->Prop} {a b:V1} {u A vO vP vC:PV},eQ vO vP vC O P C->TT O i a->TT O i b->FI u a->FI A b->(∀v,FI v (mu O P C d a b)->K v σ)->zA Tryz.prog 127 [.agg [vO,vP,vC],.int .i64 i,u,A] σ K
def QQ(s:kC O P C){d i:Nat}(hi:(Tw O)=d+(i+1))(fA:AtOK O P C d (i+1))(X:eQ vO vP vC O P C)(hx:TT O 0 x)(bX:FI vx x)(Y:∀v,FI v (Grp.vQ O C (mu O P C d) i x)->K v σ):
  zA Tryz.prog 169 [.agg [vO,vP,vC],.int .i64 i,vx] σ K:=by
 have bB:=s.le;have bp:=X;have Z:=hx.len;have H:i<Tw O:=aH
 have hm:∀a b,TT O (i+1) a->TT O (i+1) b->TT O (i+1) (mu O P C d a b):=λa b ha hb=>by
  have:=Bc s (d:=d) (a:=a) (b:=b) aH (by rwa[show (Tw O)-d=i+1 by omega]) (by rwa[show (Tw O)-d=i+1 by omega])
  rwa[show (Tw O)-d=i+1 by omega]at this
 obtain⟨⟨R,I,rfl⟩,⟨w1,J,rP,rfl,hP⟩,⟨T,L,rC,rfl,hC⟩⟩:=X;obtain⟨w5,a5,rs,cn,gI⟩:=cvRow s hC H;have dI:i<Tw C:=by rw[s.cl];exact H
 obtain⟨wx,V,rfl⟩:=bX;rw[Z];refine To Tryz.func169 ?_;simp only[Z3,seval,-ae,YT,zi,E4 (n:=(Tw O)) aH,zx (n:=(Tw O)) aH,WX H];have aJ:dq σ (((σ.cb [.fz R I (Tw O) (eh O),.fz w1 J (Tw P) rP,.fz T L (Tw C) rC]).cb (eh (zv O))).kill (σ.bY+1)):=((zB σ _).cb _).kill aH;refine qF (λm vs h'=>∃(q:Nat) (D:PV) (A:V1),q<=d/\m=d-q/\vs=[.int .i64 i,.fz wx V (Tw O) (eh x),.ptr σ.bY 0,.int .i64 (Tw O),D,.int .i64 ((i+(1+q):Nat):Int)]/\
  h'=((σ.cb [.fz R I (Tw O) (eh O),.fz w1 J (Tw P) rP,.fz T L (Tw C) rC]).cb (eh (zv O))).kill (σ.bY+1)/\FI D A/\TT O (i+1) A/\fo (mu O P C d) (iD C i) (nx x) (i+(1+q)) (d-q) A=Grp.vQ O C (mu O P C d) i x) d ?_ ?_
 .refine .fz (σ.bY+1) (eh (zv O)) (by simp only[Z3,seval,-ae]) (zO _ _) λo1=>.here ?_;refine⟨0,.fz Im (.sl o1 0 (Tw O) (.cm (Tw O))) (Tw O) (eh (zv O)),zv O,aH,aH,?_,rfl,FI.mk bj,s.zv _,?_⟩
  .refine Tq ?_;simp only[nD,sb,kv,sB,decide_true,and_self,if_true]
  .show _=fo _ _ _ (i+1) (Tw O-1-i) (zv O);rw[show (Tw O)-1-i=d by omega];rfl
 rintro m vs h' ⟨q,D,A,hq,rfl,rfl,rfl,E,G,u⟩
 refine Tq ?_;refine Tr (λan=>?_) λaf=>?_
 .have U:q=d:=aH
  subst U;rw[Yh]at u
  have:A=Grp.vQ O C (mu O P C q) i x:=u
  rw[<-this]at Y;exact Gh.fin0 aJ (E.bel _) (Y _ E)
 have U:q<d:=aH
 have N:i+(1+q)<Tw x:=aH
 have bx:=hx.bd (i+(1+q)) aH;have bO:=s.pr (i+(1+q)) aH;obtain⟨w6,a6,jf⟩:=gI q aH;have qT:q<Tw O-1-i:=aH
 have Q:=s.cj i (i+(1+q)) aH aH;have e3:Tu .i64 (((i+(1+q):Nat):Int)-(i:Int))=((1+q:Nat):Int):=WQ
 have e4:Tu .i64 (((1+q:Nat):Int)-1)=(q:Int):=WQ
 have e5:Tu .i64 (((i+(1+q):Nat):Int)+1)=((i+(1+(q+1)):Nat):Int):=WQ
 rw[show d-q=(d-q-1)+1 by omega]at u;refine zF (λm vs h'=>∃(k:Nat) (D:PV) (A:V1),k<=nx x (i+(1+q))/\m=nx x (i+(1+q))-k/\vs=[.int .i64 i,.fz wx V (Tw O) (eh x),.ptr σ.bY 0,.int .i64 (Tw O),D,.int .i64 ((i+(1+q):Nat):Int),.int .i64 k]/\
  h'=((σ.cb [.fz R I (Tw O) (eh O),.fz w1 J (Tw P) rP,.fz T L (Tw C) rC]).cb (eh (zv O))).kill (σ.bY+1)/\FI D A/\TT O (i+1) A/\fo (mu O P C d) (iD C i) (nx x) (i+(1+q)+1) (d-q-1) (rep (mu O P C d) (iD C i (i+(1+q))) (nx x (i+(1+q))-k) A)=Grp.vQ O C (mu O P C d) i x) (nx x (i+(1+q))) ?_ ?_
 .exact⟨0,D,A,aH,aH,rfl,rfl,E,G,u⟩
 rintro m vs h' ⟨k,D,A,cZ,rfl,rfl,rfl,E,G,u⟩
 have bZ:((nx x (i+(1+q)):Nat):Int)=at_ x (i+(1+q)):=Yi bx.1;simp only[Z3,seval,-ae,lK N,N,Z ▸ N];refine fi (λaX=>?_) λlP=>?_
 .have nk:k<nx x (i+(1+q)):=aH
  simp only[Z3,seval,-ae,WX H,dI,cn,e3,e4,qT,jf];refine fA bp G Q E (FI.mk Q.len) λv hv=>?_;simp only[Z3,seval,-ae,lG nk (aH:nx x (i+(1+q))<=4611686018427387904)];refine⟨_,aH,k+1,v,_,aH,rfl,rfl,hv,hm _ _ G Q,?_⟩;rw[show nx x (i+(1+q))-k=(nx x (i+(1+q))-(k+1))+1 by omega]at u;exact u
 .have lh:k=nx x (i+(1+q)):=aH
  subst lh;simp only[Z3,seval,-ae,e5];refine⟨d-(q+1),aH,.here ⟨q+1,D,A,aH,rfl,rfl,rfl,E,G,?_⟩⟩;rw[Yh]at u;rw[show d-(q+1)=d-q-1 by omega];exact u
def Z8(s:kC O P C):∀{d i:Nat},(Tw O)=d+i->AtOK O P C d i
 |0,i,hi=>by
  rename_i σ K a b va vb vO vP vC;intro J G H DZ kN E;have bB:=s.le;obtain⟨⟨w0,a0,rfl⟩,⟨w1,a1,rP,rfl,hP⟩,⟨w3,a3,rC,rfl,hC⟩⟩:=J;refine zA.gh ?_;have U:(Tw O:Int)<=(i:Int):=aH
  refine Tn Tryz.func127 ?_;simp only[Z3,seval,-ae,U,YT,zi,E4 (n:=(Tw O)) aH,zx (n:=(Tw O)) aH];exact Gh.finF (s:=σ.bY+1) ((zB σ _).cb _) (by refine Tq ?_;rfl) aH (zO _ _) (by simp[kv]) λN=>E _ (FI.mk (by simp[mu]))
 |d+1,i,hi=>by
  rename_i σ K a b va vb vO vP vC;intro J G H DZ kN E;have X:AtOK O P C d (i+1):=Z8 s aH;have bB:=s.le;have V:=J;have u:i<Tw O:=aH
  have hO:=s.pr i u;have lu:=G.len;have tA:=H.len;have ba:=G.bd i u;have bb:=H.bd i u;have aM:=s.pos u;have Pe:(Tw O)-(d+1)=i:=aH
  have hm:∀a b,TT O (i+1) a->TT O (i+1) b->TT O (i+1) (mu O P C d a b):=λa b G H=>by
   have:=Bc s (d:=d) (a:=a) (b:=b) aH (by rwa[show (Tw O)-d=i+1 by omega]) (by rwa[show (Tw O)-d=i+1 by omega])
   rwa[show (Tw O)-d=i+1 by omega]at this
  obtain⟨⟨w0,a0,rfl⟩,⟨w1,a1,rP,rfl,hP⟩,⟨w3,a3,rC,rfl,hC⟩⟩:=J;obtain⟨w5,a5,dH⟩:=pvRow s hP u;have dC:i<Tw P:=by rw[s.pl];exact u
  have Y:=s.pw i u;obtain⟨wa,aa,rfl⟩:=DZ;obtain⟨wb,ab,rfl⟩:=kN;have I:i<Tw a:=aH
  have D:i<Tw b:=aH
  have U:¬(Tw O:Int)<=(i:Int):=aH
  have sa:=G.set0 u aM;have R:=H.set0 u aM;have RF:=sa.len;have RE:=R.len;refine To Tryz.func127 ?_;simp only[Z3,seval,-ae,U];refine zl rfl aH λcA iB=>?_;refine Tq ?_;refine zl rfl aH λbG cK=>?_;have g1:i<Tw a/\i+1<=Tw a:=⟨I,I⟩;have g2:i<Tw b/\i+1<=Tw b:=⟨D,D⟩;simp only[Z3,seval,-ae,g1.1,g1.2,g2.1,g2.2,zK,zq I,zq D];refine qF (λm vs h'=>∃(k:Nat) (vl Q:PV) (A:V1),k<=nx b i/\m=nx b i-k/\vs=[.int .i64 i,.fz wa aa (Tw a) (eh a),.fz wb ab (Tw b) (eh b),.ptr σ.bY 0,vl,Q,.int .i64 k]/\
   h'=((((σ.cb [.fz w0 a0 (Tw O) (eh O),.fz w1 a1 (Tw P) rP,.fz w3 a3 (Tw C) rC]).cb (eh (a.set i 0))).cb (eh (b.set i 0))).kill (σ.bY+1)).kill (σ.bY+2)/\FI vl A/\FI Q (b.set i 0)/\TT O (i+1) A/\iter (Grp.vQ O C (mu O P C d) i) (nx b i-k) A=iter (Grp.vQ O C (mu O P C d) i) (nx b i) (a.set i 0)) (nx b i) ?_ ?_
  .refine .fz (σ.bY+1) (eh (a.set i 0)) (by simp only[Z3,seval,-ae]) (zO _ _) λN=>.fz (σ.bY+2) (eh (b.set i 0)) (by simp only[Z3,seval,-ae]) (zO _ _) λo2=>.here ?_;refine⟨0,.fz Im (.sl N 0 (Tw a) cA) (Tw a) (eh (a.set i 0)),.fz Im (.sl o2 0 (Tw b) bG) (Tw b) (eh (b.set i 0)),a.set i 0,aH,aH,?_,rfl,FI.mk bj,FI.mk bj,sa,rfl⟩;refine Tq ?_;have k1:=iB.ok;have k2:=cK.ok;have aj:¬(σ.bY+2=σ.bY+1):=aH
   simp only[nD,sb,k1,k2,aj,false_and,if_false,sB,decide_true,and_self,if_true];rfl
  rintro m vs h' ⟨k,vl,Q,A,cZ,rfl,rfl,rfl,vh,JK,Z,hit⟩
  have bZ:((nx b i:Nat):Int)=at_ b i:=Yi bb.1;have Kp:=iB.ok;simp only[Z3,seval,-ae,lK D,D];refine fi (λaf=>?_) λlP=>?_
  .have nk:k<nx b i:=aH
   refine Tq ?_;refine QQ s aH X V (Z.mono (YQ _)) vh λv L=>?_;simp only[Z3,seval,-ae,WX nk];refine⟨nx b i-(k+1),aH,.here ⟨k+1,v,Q,_,aH,rfl,rfl,rfl,L,JK,zAz s hm _,?_⟩⟩;rw[show nx b i-k=(nx b i-(k+1))+1 by omega]at hit;exact hit
  have lh:k=nx b i:=aH
  subst lh;rw[Yh]at hit;have Iq:A=iter (Grp.vQ O C (mu O P C d) i) (nx b i) (a.set i 0):=hit;subst Iq;simp only[Z3,seval,-ae,WX u];have ir:=hm _ _ Z R;have Nd:=ir.len;refine X V Z R vh JK λv L=>?_;have rV:Tu .i64 (at_ a i+at_ b i)=at_ a i+at_ b i:=WE;have T:i<Tw O:=u;simp only[Z3,seval,-ae,lK I,lK D,I,D,lK u,T,rV];have AP:∀c e:V1,(if at_ a i+at_ b i ≥ at_ O i then(mu O P C d (jt P i) (mu O P C d (iter (Grp.vQ O C (mu O P C d) i) (nx b i) (a.set i 0)) (b.set i 0))).set i (at_ a i+at_ b i-at_ O i)else(mu O P C d (iter (Grp.vQ O C (mu O P C d) i) (nx b i) (a.set i 0)) (b.set i 0)).set i (at_ a i+at_ b i))=mu O P C (d+1) a b:=λ_ _=>by
   simp only[mu,Pe]
  refine fi (λHq=>?_) λnk=>?_
  .have bV:Tu .i64 (at_ a i+at_ b i-at_ O i)=at_ a i+at_ b i-at_ O i:=WE;have e:=AP a b;rw[Iu Hq]at e;simp only[Z3,seval,-ae,lK u,T,bV,WX u,dC,dH];have DT:=hm _ _ Y ir;have xY:i<(mu O P C d (jt P i) (mu O P C d (iter (Grp.vQ O C (mu O P C d) i) (nx b i) (a.set i 0)) (b.set i 0))).length:=by rw[DT.len];exact u
   refine X V Y ir (FI.mk Y.len) L λv2 dx=>?_;obtain⟨w7,a7,rfl⟩:=dx;simp only[Z3,seval,-ae,lK u,T,bV,WX u,dC,dH];refine zl rfl (by have:=DT.len;omega) λsE zp=>?_;simp only[Z3,seval,-ae,xY,UH xY,zK,zq xY];rw[<-e]at E;exact Gh.finF (s:=σ.bY+1+2) ((((((zB σ _).cb _).cb _).kill aH).kill aH).cb _) (by simp only[Z3,seval,-ae]) aH (zO _ _) zp.ok λN=>E _ (FI.mk bj)
  .have e:=AP a b;rw[Iv aH]at e;have xX:i<(mu O P C d (iter (Grp.vQ O C (mu O P C d) i) (nx b i) (a.set i 0)) (b.set i 0)).length:=by rw[Nd];exact u
   obtain⟨w7,a7,rfl⟩:=L;refine Tq ?_;refine zl rfl aH λsE zp=>?_;simp only[Z3,seval,-ae,xX,UH xX,zK,zq xX];rw[<-e]at E;exact Gh.finF (s:=σ.bY+1+2) ((((((zB σ _).cb _).cb _).kill aH).kill aH).cb _) (by simp only[Z3,seval,-ae]) aH (zO _ _) zp.ok λN=>E _ (FI.mk bj)
end
section
variable{s:Nat}
def pw_sq{α:Type}{S:α->Prop}{m:α->α->α}{e:α}(M:Mon S m e){x:α}(u:S x):∀q,Grp.pw m e (m x x) q=Grp.pw m e x (q+q)
 |0=>rfl
 |q+1=>by
  rw[show q+1+(q+1)=(q+q)+1+1 by omega];show m (Grp.pw m e (m x x) q) (m x x)=m (m (Grp.pw m e x (q+q)) x) x;rw[pw_sq M u q,M.as (M.pw u _) u u]
def zRu{α:Type}{S:α->Prop}{m:α->α->α}{e:α}(M:Mon S m e){x:α}(u:S x)(q:Nat):m x (Grp.pw m e (m x x) q)=Grp.pw m e x (q+q+1):=by
 rw[pw_sq M u q];exact(M.pw_comm u _).symm
def zAw(s:kC O P C){d i:Nat}(hi:(Tw O)=d+i)(N:AtOK O P C d i)(M:Mon (TT O i) (mu O P C d) (zv O))(hR:eQ vO vP vC O P C)(hx:TT O i x)(bX:FI vx x){k:Int}(df:0<=k/\k<=1000)
  (hk:∀v,FI v (pw (mu O P C d) (zv O) x k.toNat)->K v σ):zA Tryz.prog 128 [.agg [vO,vP,vC],.int .i64 i,vx,.int .i64 k] σ K:=by
 have bB:=s.le;have J:=hR;obtain⟨kn,rfl⟩:∃kn:Nat,k=kn:=⟨k.toNat,aH⟩
 obtain⟨⟨w0,X,rfl⟩,⟨w1,Y,rP,rfl,hP⟩,⟨w3,Z,rC,rfl,hC⟩⟩:=hR;refine To Tryz.func128 ?_;simp only[Z3,seval,-ae,YT,zi,E4 (n:=(Tw O)) aH,zx (n:=(Tw O)) aH];have aJ:dq σ (((σ.cb [.fz w0 X (Tw O) (eh O),.fz w1 Y (Tw P) rP,.fz w3 Z (Tw C) rC]).cb (eh (zv O))).kill (σ.bY+1)):=((zB σ _).cb _).kill aH;refine qF (λm vs h'=>∃(k:Nat) (I T:PV) (A b:V1),k<=1000/\m=k/\vs=[.int .i64 i,.int .i64 k,.ptr σ.bY 0,I,T]/\
  h'=((σ.cb [.fz w0 X (Tw O) (eh O),.fz w1 Y (Tw P) rP,.fz w3 Z (Tw C) rC]).cb (eh (zv O))).kill (σ.bY+1)/\FI I A/\FI T b/\TT O i A/\TT O i b/\mu O P C d A (pw (mu O P C d) (zv O) b k)=pw (mu O P C d) (zv O) x kn) kn ?_ ?_
 .refine .fz (σ.bY+1) (eh (zv O)) (by simp only[Z3,seval,-ae]) (zO _ _) λo1=>.here ?_;refine⟨kn,.fz Im (.sl o1 0 (Tw O) (.cm (Tw O))) (Tw O) (eh (zv O)),vx,zv O,x,aH,rfl,?_,rfl,FI.mk bj,bX,s.zv _,hx,M.l1 (M.pw hx _)⟩;refine Tq ?_;simp only[nD,sb,kv,sB,decide_true,and_self,if_true,bX.sb]
 rintro m vs h' ⟨k,I,T,A,b,bm,rfl,rfl,rfl,H,E,D,u,hinv⟩
 refine Tq ?_;refine Tr (λhle=>?_) λwN=>?_
 .have kU:m=0:=aH
  subst kU;rw[show pw (mu O P C d) (zv O) b 0=zv O from rfl,M.r1 D]at hinv;rw[show((kn:Int)).toNat=kn from KH kn,<-hinv]at hk;exact Gh.fin0 aJ (H.bel _) (hk _ H)
 have U:Int.tmod (m:Int) 2=((m % 2:Nat):Int):=by rw[Yf aH];rfl
 have V:Int.tdiv (m:Int) 2=((m / 2:Nat):Int):=by rw[Y8 aH];rfl
 have G:¬((2:Int)=0):=by decide
 have x9:Tu .i64 ((m / 2:Nat):Int)=((m / 2:Nat):Int):=WE;have Nk:Tu .i64 ((m % 2:Nat):Int)=((m % 2:Nat):Int):=WE;have Q:=M.cl u u;by_cases ho:m % 2=1
 .have di:((m % 2:Nat):Int)=1:=aH
  simp only[Z3,seval,-ae,G,U,di,eq_true di];refine N J D u H E λv hv=>?_;refine Tq ?_;refine N J u u E E λR L=>?_;simp only[Z3,seval,-ae,G,V,x9];refine⟨m / 2,aH,.here ⟨m / 2,v,R,_,_,aH,rfl,rfl,rfl,hv,L,M.cl D u,Q,?_⟩⟩;rw[M.as D u (M.pw Q _),zRu M u,show m / 2+m / 2+1=m by omega];exact hinv
 .have di:¬((m % 2:Nat):Int)=1:=aH
  simp only[Z3,seval,-ae,G,U,di];refine N J u u E E λR L=>?_;simp only[Z3,seval,-ae,G,V,x9];refine⟨m / 2,aH,.here ⟨m / 2,I,R,_,_,aH,rfl,rfl,rfl,H,L,D,Q,?_⟩⟩;rw[pw_sq M u,show m / 2+m / 2=m by omega];exact hinv
def Qq{n k:Nat}(D:n<=1048576)(u:k<n)(A:∀v,FI v (iS n k)->K v σ):zA Tryz.prog 71 [.int .i64 n,.int .i64 k] σ K:=by
 refine To Tryz.func71 ?_;simp only[Z3,seval,-ae,YT,zi,E4 (n:=n) aH,zx (n:=n) aH,u,UH u,zK];rw[zq (by simpa using u)];exact Gh.finF (s:=σ.bY) (zB σ _) (by refine Tq ?_;rfl) (sB _) (zO _ _) (by simp[kv]) λE=>A _ (FI.mk (zg n k))
end
section
variable{s:Nat}
def zJ1(s:kC O P C){d i:Nat}(hi:(Tw O)=d+(i+1))(B:Beh O P C d)(hR:eQ vO vP vC O P C)
  (hk:∀U f1 f2 f3:Int,(U=0↔Lv O P C i)->K (.agg [.int .i64 U,.int .i64 f1,.int .i64 f2,.int .i64 f3]) σ):zA Tryz.prog 163 [.agg [vO,vP,vC],.int .i64 i] σ K:=by
 have bB:=s.le;have J:=hR;have I:i<Tw O:=aH
 have Q:AtOK O P C d (i+1):=Z8 s aH;have M:=B.gp.toMon;rw[show (Tw O)-d=i+1 by omega]at M;have T:(Tw O)-1-i=d:=aH
 have yes:((∀q,q<d->pw (mu O P C d) (zv O) (iD C i (i+(1+q))) (nx O (i+(1+q)))=Grp.vQ O C (mu O P C d) i (jt P (i+(1+q))))->
   (∀q r,q+(1+r)<d->mu O P C d (iD C i (i+(1+(q+(1+r))))) (iD C i (i+(1+q)))=mu O P C d (iD C i (i+(1+q))) (Grp.vQ O C (mu O P C d) i (iD C (i+(1+q)) (i+(1+(q+(1+r)))))))->
   Grp.vQ O C (mu O P C d) i (jt P i)=jt P i->
   (∀q,q<d->mu O P C d (jt P i) (iter (Grp.vQ O C (mu O P C d) i) (nx O i) (iS (Tw O) (i+(1+q))))=mu O P C d (iS (Tw O) (i+(1+q))) (jt P i))->Lv O P C i):=λh1 h2 h3 h4=>by
  refine⟨λj g1 g2=>?_,λj k g1 g2 g3=>?_,?_,λj g1 g2=>?_⟩
  .have:=h1 (j-i-1) aH;rw[show i+(1+(j-i-1))=j by omega]at this;rw[T];exact this
  .have:=h2 (j-i-1) (k-j-1) aH;rw[show i+(1+(j-i-1))=j by omega,show i+(1+(j-i-1+(1+(k-j-1))))=k by omega]at this;rw[T];exact this
  .rw[T];exact h3
  .have:=h4 (j-i-1) aH;rw[show i+(1+(j-i-1))=j by omega]at this;rw[T];exact this
 obtain⟨⟨w0,X,rfl⟩,⟨w1,Y,rP,rfl,hP⟩,⟨w3,Z,rC,rfl,hC⟩⟩:=hR;obtain⟨w5,a5,rs,cn,gI⟩:=cvRow s hC I;have dI:i<Tw C:=by rw[s.cl];exact I
 have dC:i<Tw P:=by rw[s.pl];exact I
 refine zA.gh ?_;have fin:∀{U f1 f2 f3:Int} {σ':dj},(U=0↔Lv O P C i)->dq σ σ'->Gh σ K (.agg [.int .i64 U,.int .i64 f1,.int .i64 f2,.int .i64 f3]) σ':=λh k=>Gh.fin0 k ⟨Is,Is,Is,Is,Is⟩ (hk _ _ _ _ h);have no:∀{U:Int},U≠0->¬Lv O P C i->(U=0↔Lv O P C i):=λh g=>⟨λx=>absurd x h,λx=>absurd x g⟩
 refine ZY mix Tryz.func163 ?_;refine Tq ?_;have aJ:∀cs:List PV,dq σ ((σ.cb [.fz w0 X (Tw O) (eh O),.fz w1 Y (Tw P) rP,.fz w3 Z (Tw C) rC]).cb cs):=λcs=>(zB σ _).cb _;have H:Tu .i64 ((i:Int)+1)=((i+1:Nat):Int):=lG I aH
 -- first condition
 simp only[Z3,seval,-ae,H];refine zF (λm vs h'=>∃q:Nat,q<=d/\m=d-q/\vs=[.int .i64 i,.ptr σ.bY 0,.ptr (σ.bY+1) 0,.int .i64 (Tw O),.int .i64 i,.int .i64 ((i+(1+q):Nat):Int)]/\
  h'=(σ.cb [.fz w0 X (Tw O) (eh O),.fz w1 Y (Tw P) rP,.fz w3 Z (Tw C) rC]).cb [.int .i64 0,.int .i64 0,.int .i64 0,.int .i64 0]/\∀D,D<q->pw (mu O P C d) (zv O) (iD C i (i+(1+D))) (nx O (i+(1+D)))=Grp.vQ O C (mu O P C d) i (jt P (i+(1+D)))) d ?_ ?_
 .exact⟨0,aH,aH,rfl,rfl,λq h=>aH⟩
 rintro m vs h' ⟨q,hq,rfl,rfl,rfl,ai⟩
 refine Tq ?_;refine fi (λaf=>?_) λan=>?_
 .have u:i+(1+q)<Tw O:=aH
  have Kb:i+(1+q)<Tw P:=by rw[s.pl];exact u
  obtain⟨w6,a6,jf⟩:=gI q aH;obtain⟨w7,a7,dH⟩:=pvRow s hP u;have qT:q<Tw O-1-i:=aH
  have N:=s.cj i (i+(1+q)) aH aH;have E:=s.pw (i+(1+q)) u;have hO:=s.pr _ u;have e3:Tu .i64 (((i+(1+q):Nat):Int)-(i:Int))=((1+q:Nat):Int):=WQ
  have e4:Tu .i64 (((1+q:Nat):Int)-1)=(q:Int):=WQ
  have e5:Tu .i64 (((i+(1+q):Nat):Int)+1)=((i+(1+(q+1)):Nat):Int):=WQ
  simp only[Z3,seval,-ae,H,dI,cn,e3,e4,qT,jf,u,lK u];refine zAw s aH Q M J N (FI.mk N.len) aH λv V=>?_;simp only[Z3,seval,-ae,H,dI,cn,e3,e4,qT,jf,u,lK u,Kb,dH];refine QQ s aH Q J (E.mono (YQ _)) (FI.mk E.len) λv2 dx=>?_;obtain⟨w8,a8,rfl⟩:=V;obtain⟨w9,a9,rfl⟩:=dx;simp only[Z3,seval,-ae,Kb,dH];refine qi rfl rfl (by have:=(M.pw N (at_ O (i+(1+q))).toNat).len;omega) ?_;by_cases G:pw (mu O P C d) (zv O) (iD C i (i+(1+q))) (nx O (i+(1+q)))=Grp.vQ O C (mu O P C d) i (jt P (i+(1+q)))
  .simp only[Z3,seval,-ae,eq_true G,e5];refine⟨_,aH,q+1,aH,rfl,rfl,λD h=>?_⟩;grind
  .simp only[Z3,seval,-ae,G];exact fin (no Tx λL=>G (by have:=L.pow (i+(1+q)) aH u;rwa[T]at this)) (aJ _)
 have Cd:q=d:=aH
 subst Cd
 -- second condition
 simp only[Z3,seval,-ae,H];refine zF (λm vs h'=>∃D:Nat,D<=q/\m=q-D/\vs=[.int .i64 i,.ptr σ.bY 0,.ptr (σ.bY+1) 0,.int .i64 (Tw O),.int .i64 i,.int .i64 ((i+(1+D):Nat):Int)]/\
  h'=(σ.cb [.fz w0 X (Tw O) (eh O),.fz w1 Y (Tw P) rP,.fz w3 Z (Tw C) rC]).cb [.int .i64 0,.int .i64 0,.int .i64 0,.int .i64 0]/\
  ∀t r,t<D->t+(1+r)<q->mu O P C q (iD C i (i+(1+(t+(1+r))))) (iD C i (i+(1+t)))=mu O P C q (iD C i (i+(1+t))) (Grp.vQ O C (mu O P C q) i (iD C (i+(1+t)) (i+(1+(t+(1+r))))))) q ?_ ?_
 .exact⟨0,aH,aH,rfl,rfl,λt r h=>aH⟩
 rintro m vs h' ⟨t,ht,rfl,rfl,rfl,rQ⟩
 refine Tq ?_;refine fi (λaf=>?_) λan=>?_
 .have u:i+(1+t)<Tw O:=aH
  have Kd:i+(1+t)<Tw C:=by rw[s.cl];exact u
  obtain⟨w6,a6,jf⟩:=gI t aH;obtain⟨w7,a7,RH,ni,Gi⟩:=cvRow s hC u;have qT:t<Tw O-1-i:=aH
  have N:=s.cj i (i+(1+t)) aH aH;have e3:Tu .i64 (((i+(1+t):Nat):Int)-(i:Int))=((1+t:Nat):Int):=WQ
  have e4:Tu .i64 (((1+t:Nat):Int)-1)=(t:Int):=WQ
  have e5:Tu .i64 (((i+(1+t):Nat):Int)+1)=((i+(1+(t+1)):Nat):Int):=WQ
  simp only[Z3,seval,-ae,e5];refine zF (λm vs h'=>∃r:Nat,t+(1+r)<=q/\m=q-(t+(1+r))/\vs=[.int .i64 i,.ptr σ.bY 0,.ptr (σ.bY+1) 0,.int .i64 (Tw O),.int .i64 i,.int .i64 ((i+(1+t):Nat):Int),.int .i64 ((i+(1+(t+(1+r))):Nat):Int)]/\
   h'=(σ.cb [.fz w0 X (Tw O) (eh O),.fz w1 Y (Tw P) rP,.fz w3 Z (Tw C) rC]).cb [.int .i64 0,.int .i64 0,.int .i64 0,.int .i64 0]/\
   ∀R,R<r->t+(1+R)<q->mu O P C q (iD C i (i+(1+(t+(1+R))))) (iD C i (i+(1+t)))=mu O P C q (iD C i (i+(1+t))) (Grp.vQ O C (mu O P C q) i (iD C (i+(1+t)) (i+(1+(t+(1+R))))))) (q-(t+1)) ?_ ?_
  .exact⟨0,aH,aH,rfl,rfl,λR h=>aH⟩
  rintro m vs h' ⟨r,hr,rfl,rfl,rfl,Ks⟩
  refine Tq ?_;refine fi (λaX=>?_) λlP=>?_
  .have yK:i+(1+(t+(1+r)))<Tw O:=aH
   obtain⟨w8,a8,B3⟩:=gI (t+(1+r)) aH;obtain⟨w9,a9,yk⟩:=Gi r aH;rw[show i+(1+t)+(1+r)=i+(1+(t+(1+r))) by omega]at yk;have yY:=s.cj i (i+(1+(t+(1+r)))) aH yK;have CP:=s.cj (i+(1+t)) (i+(1+(t+(1+r)))) aH yK;have mD:t+(1+r)<Tw O-1-i:=aH
   have CE:r<Tw O-1-(i+(1+t)):=aH
   have f3:Tu .i64 (((i+(1+(t+(1+r))):Nat):Int)-(i:Int))=((1+(t+(1+r)):Nat):Int):=WQ
   have f4:Tu .i64 (((1+(t+(1+r)):Nat):Int)-1)=((t+(1+r):Nat):Int):=WQ
   have f5:Tu .i64 (((i+(1+(t+(1+r))):Nat):Int)+1)=((i+(1+(t+(1+(r+1)))):Nat):Int):=WQ
   have f6:Tu .i64 (((i+(1+(t+(1+r))):Nat):Int)-((i+(1+t):Nat):Int))=((1+r:Nat):Int):=WQ
   have f7:Tu .i64 (((1+r:Nat):Int)-1)=(r:Int):=WQ
   simp only[Z3,seval,-ae,H,dI,cn,e3,e4,f3,f4,f6,f7,qT,jf,mD,B3,Kd,ni,CE,yk];refine QQ s aH Q J (CP.mono (YQ _)) (FI.mk CP.len) λv V=>?_;have hz:=zAz s (i:=i) (m:=mu O P C q) (λa b ha hb=>M.cl ha hb) (iD C (i+(1+t)) (i+(1+(t+(1+r)))));simp only[Z3,seval,-ae,H,dI,cn,e3,e4,f3,f4,f6,f7,qT,jf,mD,B3,Kd,ni,CE,yk];refine Q J yY N (FI.mk yY.len) (FI.mk N.len) λv2 dx=>?_;simp only[Z3,seval,-ae,H];refine Q J N hz (FI.mk N.len) V λv3 jl=>?_;obtain⟨DG,ED,rfl⟩:=dx;obtain⟨Rw,I5,rfl⟩:=jl;refine Tq ?_;refine qi rfl rfl (by have:=(M.cl yY N).len;omega) ?_;by_cases G:mu O P C q (iD C i (i+(1+(t+(1+r))))) (iD C i (i+(1+t)))=mu O P C q (iD C i (i+(1+t))) (Grp.vQ O C (mu O P C q) i (iD C (i+(1+t)) (i+(1+(t+(1+r))))))
   .simp only[Z3,seval,-ae,eq_true G,f5];refine⟨_,aH,r+1,aH,rfl,rfl,λR h1 h2=>?_⟩;grind
   .simp only[Z3,seval,-ae,G];exact fin (no Tx λL=>G (by have:=L.cj (i+(1+t)) (i+(1+(t+(1+r)))) aH aH yK;rwa[T]at this)) (aJ _)
  .simp only[Z3,seval,-ae,e5];refine⟨_,aH,t+1,aH,rfl,rfl,λt' R h1 h2=>?_⟩;grind
 -- third condition
 obtain⟨w6,a6,dH⟩:=pvRow s hP I;have E:=s.pw i I;simp only[Z3,seval,-ae,dC,dH];refine QQ s aH Q J (E.mono (YQ _)) (FI.mk E.len) λv V=>?_;obtain⟨w7,a7,rfl⟩:=V;refine Tq ?_;refine qi rfl E.len.symm (by have:=(zAz s (i:=i) (m:=mu O P C q) (λa b ha hb=>M.cl ha hb) (jt P i)).len;omega) ?_;by_cases Ee:Grp.vQ O C (mu O P C q) i (jt P i)=jt P i;rotate_left
 .simp only[Z3,seval,-ae,Ee];exact fin (no Tx λL=>Ee (by have:=L.fix;rwa[T]at this)) (aJ _)
 simp only[Z3,seval,-ae,eq_true Ee,H]
 -- IA condition
 refine zF (λm vs h'=>∃D:Nat,D<=q/\m=q-D/\vs=[.int .i64 i,.ptr σ.bY 0,.ptr (σ.bY+1) 0,.int .i64 (Tw O),.int .i64 i,.fz w6 a6 (Tw O) (eh (jt P i)),.int .i64 ((i+(1+D):Nat):Int)]/\
  h'=(σ.cb [.fz w0 X (Tw O) (eh O),.fz w1 Y (Tw P) rP,.fz w3 Z (Tw C) rC]).cb [.int .i64 0,.int .i64 0,.int .i64 0,.int .i64 0]/\
  ∀t,t<D->mu O P C q (jt P i) (iter (Grp.vQ O C (mu O P C q) i) (nx O i) (iS (Tw O) (i+(1+t))))=mu O P C q (iS (Tw O) (i+(1+t))) (jt P i)) q ?_ ?_
 .exact⟨0,aH,aH,rfl,rfl,λt h=>aH⟩
 rintro m vs h' ⟨t,ht,rfl,rfl,rfl,C7⟩
 refine Tq ?_;refine Tr (λan=>?_) λaf=>?_
 .exact fin ⟨λ_=>yes ai (λt' R h=>rQ t' R aH h) Ee (λt' h=>C7 t' aH),λ_=>rfl⟩ (aJ _)
 have u:i+(1+t)<Tw O:=aH
 have hO:=s.pr i I;have e5:Tu .i64 (((i+(1+t):Nat):Int)+1)=((i+(1+(t+1)):Nat):Int):=WQ
 have JO:TT O (i+1) (iS (Tw O) (i+(1+t))):=s.unit u aH;refine Tq ?_;refine Qq aH u λv V=>?_;refine Tq ?_;refine zF (λm vs h'=>∃(k:Nat) (v2:PV) (A:V1),k<=nx O i/\m=nx O i-k/\vs=[.int .i64 i,.ptr σ.bY 0,.ptr (σ.bY+1) 0,.int .i64 (Tw O),.int .i64 i,.fz w6 a6 (Tw O) (eh (jt P i)),.int .i64 ((i+(1+t):Nat):Int),v,v2,.int .i64 k]/\
  h'=(σ.cb [.fz w0 X (Tw O) (eh O),.fz w1 Y (Tw P) rP,.fz w3 Z (Tw C) rC]).cb [.int .i64 0,.int .i64 0,.int .i64 0,.int .i64 0]/\FI v2 A/\TT O (i+1) A/\iter (Grp.vQ O C (mu O P C q) i) (nx O i-k) A=iter (Grp.vQ O C (mu O P C q) i) (nx O i) (iS (Tw O) (i+(1+t)))) (nx O i) ?_ ?_
 .exact⟨0,v,_,aH,aH,rfl,rfl,V,JO,rfl⟩
 rintro m vs h' ⟨k,v2,A,cZ,rfl,rfl,rfl,dx,hA,hit⟩
 have bZ:((nx O i:Nat):Int)=at_ O i:=Yi aH;simp only[Z3,seval,-ae,lK I,I];refine fi (λaX=>?_) λlP=>?_
 .have nk:k<nx O i:=aH
  refine QQ s aH Q J (hA.mono (YQ _)) dx λv3 jl=>?_;simp only[Z3,seval,-ae,WX nk];refine⟨_,aH,k+1,v3,_,aH,rfl,rfl,jl,zAz s (λa b ha hb=>M.cl ha hb) _,?_⟩;rw[show nx O i-k=(nx O i-(k+1))+1 by omega]at hit;exact hit
 have lh:k=nx O i:=aH
 subst lh;rw[Yh]at hit;have Iq:A=iter (Grp.vQ O C (mu O P C q) i) (nx O i) (iS (Tw O) (i+(1+t))):=hit;subst Iq;simp only[Z3,seval,-ae,H];refine Q J E hA (FI.mk E.len) dx λv3 jl=>?_;simp only[Z3,seval,-ae,H];refine Q J JO E V (FI.mk E.len) λv4 yc=>?_;obtain⟨w8,a8,rfl⟩:=jl;obtain⟨w9,a9,rfl⟩:=yc;refine Tq ?_;refine qi rfl rfl (by have:=(M.cl E hA).len;omega) ?_;by_cases G:mu O P C q (jt P i) (iter (Grp.vQ O C (mu O P C q) i) (nx O i) (iS (Tw O) (i+(1+t))))=mu O P C q (iS (Tw O) (i+(1+t))) (jt P i)
 .simp only[Z3,seval,-ae,eq_true G,e5];refine⟨_,aH,t+1,aH,rfl,rfl,λt' h=>?_⟩;grind
 .simp only[Z3,seval,-ae,G];exact fin (no Tx λL=>G (by have:=L.inn (i+(1+t)) aH u;rwa[T]at this)) (aJ _)
end
section
variable{s:Nat}
def zJ2(s:kC O P C)(X:eQ vO vP vC O P C)
  (hk:∀u A D E:Int,(u=0↔Cons O P C)->K (.agg [.int .i64 u,.int .i64 A,.int .i64 D,.int .i64 E]) σ):zA Tryz.prog 115 [.agg [vO,vP,vC]] σ K:=by
 have bB:=s.le;have bp:=X;obtain⟨⟨R,J,rfl⟩,⟨w1,L,rP,rfl,hP⟩,⟨T,N,rC,rfl,hC⟩⟩:=X;refine zA.gh ?_;have fin:∀{u A D E:Int} {σ':dj},(u=0↔Cons O P C)->dq σ σ'->Gh σ K (.agg [.int .i64 u,.int .i64 A,.int .i64 D,.int .i64 E]) σ':=λh k=>Gh.fin0 k ⟨Is,Is,Is,Is,Is⟩ (hk _ _ _ _ h);have Np:Tu .i64 ((Tw O:Int)-1)=(Tw O:Int)-1:=WE;refine Tn Tryz.func115 ?_;simp only[Z3,seval,-ae,Np];refine zF (λm vs h'=>∃k:Nat,k<=Tw O/\m=k/\vs=[.ptr σ.bY 0,.ptr (σ.bY+1) 0,.int .i64 ((k:Int)-1)]/\dq ((σ.cb [.fz R J (Tw O) (eh O),.fz w1 L (Tw P) rP,.fz T N (Tw C) rC]).cb [.int .i64 0,.int .i64 0,.int .i64 0,.int .i64 0]) h'/\∀j,k<=j->j<Tw O->Lv O P C j) (Tw O) ?_ ?_
 .exact⟨(Tw O),sB _,rfl,rfl,dq.refl _,λj V I=>aH⟩
 rintro m vs h' ⟨k,yK,rfl,rfl,G,Q⟩
 have U:dq σ h':=((zB σ _).cb _).trans G;have dW:σ.bY+2<=h'.bY:=G.bY;have Co:h'.cd σ.bY=Ik [.fz R J (Tw O) (eh O),.fz w1 L (Tw P) rP,.fz T N (Tw C) rC]:=by rw[G.cd _ (by simp[dj.cb];omega)];simp[dj.cb]
 have Cn:h'.cd (σ.bY+1)=Ik [.int .i64 0,.int .i64 0,.int .i64 0,.int .i64 0]:=by rw[G.cd _ (by simp[dj.cb])];simp[dj.cb]
 have eZ:h'.rd σ.bY 0 3=Ik [.fz R J (Tw O) (eh O),.fz w1 L (Tw P) rP,.fz T N (Tw C) rC]:=by simp[dj.rd,Co]
 have mh:∀u A D E:Int,h'.wr (σ.bY+1) 0 [.int .i64 u,.int .i64 A,.int .i64 D,.int .i64 E]=Ik (h'.set (σ.bY+1) [.int .i64 u,.int .i64 A,.int .i64 D,.int .i64 E]):=λu A D E=>by
  have:∀cs:List PV,(Tw cs)=4->cs.all PV.one=Im->h'.wr (σ.bY+1) 0 cs=Ik (h'.set (σ.bY+1) cs):=λcs Z ho=>by
   simp only[dj.wr,Cn,YG,ho,Z];simp[dj.set,Kz,Z]
  exact this _ rfl rfl
 have GF:¬σ.bY=h'.bY:=aH
 have GD:¬σ.bY+1=h'.bY:=aH
 rcases MB m with rfl|D5
 .simp only[Z3,seval,-ae,show ¬((0:Int)<=((0:Nat):Int)-1) by omega,mh];exact fin ⟨λ_ j hj=>Q j (YQ _) hj,λ_=>rfl⟩ (U.set aH _)
 obtain⟨i,rfl⟩:∃i,m=i+1:=⟨m-1,aH⟩
 have e:((i+1:Nat):Int)-1=(i:Int):=aH
 rw[e];have aK:i<Tw O:=yK;have mj:Tu .i64 ((i:Int)-1)=(i:Int)-1:=WE;have B:Beh O P C (Tw O-(i+1)):=zOV s aH λj V I=>Q j aH I;simp only[Z3,seval,-ae,eZ];refine zJ1 s (d:=(Tw O)-(i+1)) aH B bp λu A D E Y=>?_;refine Tq ?_;refine fi (λH=>?_) λH=>?_
 .simp only[Z3,seval,-ae,mj];refine⟨i,aH,i,aH,rfl,rfl,G.cb _,λj V I=>?_⟩;by_cases e:j=i
  .subst e;exact Y.1 H
  .exact Q j aH I
 .simp only[Z3,seval,-ae,GF,GD,mh];exact fin ⟨λh=>absurd h H,λh=>absurd (Y.2 (h i aK)) H⟩ ((U.set aH _).cb _)
def zAx(s:kC O P C)(u:eQ vO vP vC O P C)(H:∀t:Bool,(t=Im↔Cons O P C)->K (.bool t) σ):zA Tryz.prog 59 [.agg [vO,vP,vC]] σ K:=by
 have A:=u.O.one;have D:=u.P.one;have E:=u.C.one;refine To Tryz.func59 ?_;simp only[Z3,seval,-ae,A,D,E];refine zJ2 s u λI J L N G=>?_;refine Tq ?_;exact Gh.fin0 (zB σ _) trivial (H _ (by rw[decide_eq_true_iff];exact G))
def ZB(u:eQ vO vP vC O P C)(sz:ti O P C)(I:∀t:Bool,(t=Im↔zI O P C/\Cons O P C)->K (.bool t) σ):zA Tryz.prog 76 [.agg [vO,vP,vC]] σ K:=by
 have E:=u.O.one;have G:=u.P.one;have H:=u.C.one;have L:∀{A:Prop},¬A->((false=Im)↔A):=λh=>⟨λx=>(by cases x),λx=>absurd x h⟩
 refine To Tryz.func76 ?_;simp only[Z3,seval,-ae,E,G,H];refine qJ u sz λt D=>?_;cases t with
 |false=>
  refine Tq ?_;exact Gh.fin0 (zB σ _) trivial (I _ (L λh=>by cases D.2 h.1))
 |true=>
  have J:=D.1 rfl;simp only[Z3,seval,-ae,E,G,H];refine zAx J.shp u λt D=>?_;refine Tq ?_;exact Gh.fin0 (zB σ _) trivial (I _ ⟨λh=>⟨J,D.1 h⟩,λh=>D.2 h.2⟩)
end
end Go.Proofs
namespace Go.Grp
open Go.Ab Go.Lie
section
variable{α:Type}{S:α->Prop}{m:α->α->α}{e:α}{a b x y z g:α}
noncomputable def mE[Inhabited α](S:α->Prop)(m:α->α->α)(e a:α):α:=Classical.epsilon λb=>S b/\m a b=e
section
variable[Inhabited α]
def Gp.inv_in(G:Gp S m e)(D:S a):S (mE S m e a)/\m a (mE S m e a)=e:=by
 obtain⟨b,u,A,E⟩:=G.inv D;exact Classical.epsilon_spec (p:=λb=>S b/\m a b=e) ⟨b,u,A⟩
def Gp.inv_eq(G:Gp S m e)(u:S a)(A:S b)(h:m a b=e):b=mE S m e a:=G.cancel u A (G.inv_in u).1 (h.trans (G.inv_in u).2.symm)
def Gp.inv_l(G:Gp S m e)(u:S a):m (mE S m e a) a=e:=by
 obtain⟨b,A,D,E⟩:=G.inv u;rw[<-G.inv_eq u A D];exact E
def Gp.inv_r(G:Gp S m e)(u:S a):m a (mE S m e a)=e:=(G.inv_in u).2
noncomputable def com(S:α->Prop)(m:α->α->α)(e x y:α):α:=m (mE S m e x) (m (mE S m e y) (m x y))
noncomputable def cnj(S:α->Prop)(m:α->α->α)(e x g:α):α:=m (mE S m e g) (m x g)
def Gp.com_in(G:Gp S m e)(u:S x)(A:S y):S (com S m e x y):=G.cl (G.inv_in u).1 (G.cl (G.inv_in A).1 (G.cl u A))
def Gp.cnj_in(G:Gp S m e)(A:S x)(u:S g):S (cnj S m e x g):=G.cl (G.inv_in u).1 (G.cl A u)
def Gp.com_spec(G:Gp S m e)(u:S x)(A:S y):m (m y x) (com S m e x y)=m x y:=by
 have H:=(G.inv_in u).1;have E:=(G.inv_in A).1;have D:=G.cl u A;unfold com;rw[G.as A u (G.cl H (G.cl E D)),<-G.as u H (G.cl E D),G.inv_r u,G.l1 (G.cl E D),<-G.as A E D,G.inv_r A,G.l1 D]
def Gp.com_eq(G:Gp S m e)(u:S x)(A:S y)(D:S z)(h:m (m y x) z=m x y):z=com S m e x y:=
 G.cancel (G.cl A u) D (G.com_in u A) (h.trans (G.com_spec u A).symm)
def Gp.cnj_spec(G:Gp S m e)(A:S x)(u:S g):m g (cnj S m e x g)=m x g:=by
 unfold cnj;rw[<-G.as u (G.inv_in u).1 (G.cl A u),G.inv_r u,G.l1 (G.cl A u)]
def Gp.cnj_eq(G:Gp S m e)(A:S x)(u:S g)(D:S z)(h:m g z=m x g):z=cnj S m e x g:=
 G.cancel u D (G.cnj_in A u) (h.trans (G.cnj_spec A u).symm)
def Gp.cnj_one(G:Gp S m e)(u:S g):cnj S m e e g=e:=(G.cnj_eq G.one u G.one (by rw[G.r1 u,G.l1 u])).symm
def Gp.cnj_com(G:Gp S m e)(u:S x)(A:S y):m x (com S m e x y)=cnj S m e x y:=by
 have D:=G.com_in u A;exact G.cnj_eq u A (G.cl u D) (by rw[<-G.as A u D];exact G.com_spec u A)
end
end
end Go.Grp
