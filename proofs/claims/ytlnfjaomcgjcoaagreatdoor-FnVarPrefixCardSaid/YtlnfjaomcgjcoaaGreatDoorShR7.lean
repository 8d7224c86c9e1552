/-
 DERIVED: THE SHELF's CONTRACTS AT THIS DUMP,IN PLAIN WORDS (tools/lay-plain.mjs out of 'TryzShelf.lean',which tools/lay-shelf.mjs wrote): THE SAME DECLARATIONS UNDER THE SAME NAMES: 'import','namespace','open','def','theorem' AND NOTHING ELSE: no command of the shelf's: FOR A HAND-IN. Each laying: the table of numbers ('.._ren') and one theorem,a field a fact of the dump's own or the kernel's comparison; each contract: ONE APPLICATION.
-/
import Derived.Shelf.Strings.Builder1
import Derived.Shelf.Strings.Builder2
import Derived.Shelf.Small.Bits
import Derived.Shelf.Small.Strs
import Derived.Shelf.Strconv.Atoi
import Derived.Shelf.Strconv.Itoa0
import Derived.Shelf.Strconv.Itoa1
import Derived.Shelf.LaysM
import Derived.Shelf.Strconv.Itoa2
import Derived.Shelf.Strconv.Itoa3
import Derived.Shelf.Strconv.AtoiErrFast
import Derived.Shelf.Strconv.ParseIntEmpty
import Derived.Shelf.Strconv.AtoiFail
import Derived.Shelf.Strconv.Clone
import Derived.Shelf.Strconv.SyntaxError
import Derived.Shelf.LaysC
import Derived.Shelf.Strconv.ToError
import Derived.Shelf.Strconv.AtoiErr
import Derived.Shelf.Strings.Search1
import Derived.Shelf.Sort.Plain
import Derived.Shelf.Slices.Turned
import Derived.Shelf.Slices.Equal
import Derived.Ground.Names2Prog
import Derived.Shelf.Slices.Clone
import Derived.Shelf.Slices.CompactI
import Derived.Shelf.Slices.SearchI
import Derived.Shelf.Slices.Cells
import Derived.Shelf.Slices.In.SortNone
import Derived.Shelf.Slices.Empties2
import Derived.Ground.SlgnProg
import Derived.Shelf.SlicesE.Clone
import Derived.Test.YtlnfjaomcgjcoaaGreatDoorProg
namespace Go.Proofs
open Go.Shelf
def Tryz.lays137_ren:Go.Shelf.Ren:=⟨fun | 137=>158 | 217=>184 | 266=>205 | n=>n,fun | 9=>9 | 5=>5 | 3=>3 | n=>n,fun | n=>n⟩
theorem Tryz.lays137:Go.Proofs.Lays.n137 Tryz.prog Tryz.lays137_ren:={
 mixed:=by kernel_rfl
 f137:=Tryz.func158.trans (congrArg some (by kernel_rfl))
 f217:=Tryz.func184.trans (congrArg some (by kernel_rfl))
 f266:=Tryz.func205.trans (congrArg some (by kernel_rfl))
 t3:=Tryz.underlying3
 a3:=Tryz.isAgg3
 z3:=Tryz.sizeOf3
 v3:=Tryz.zeroValue3
 t5:=Tryz.underlying5
 a5:=Tryz.isAgg5
 z5:=Tryz.sizeOf5
 v5:=Tryz.zeroValue5
 t9:=Tryz.underlying9
 a9:=Tryz.isAgg9
 z9:=Tryz.sizeOf9
 v9:=Tryz.zeroValue9 }
open Go.RowKit in
theorem Tryz.strings_IndexByte (s:ByteArray) (c:Int) (w:World) :
  Calls Tryz.prog 158 #[.string s,.int .u8 c] w fun e w'=>e=.returned (.int .i64 (Lib.indexByte s.data.toList c.toNat.toUInt8))∧w'=w:=Any.strings_IndexByte Tryz.lays137 s c w
def Tryz.lays172_ren:Go.Shelf.Ren:=⟨fun | 172=>104 | 244=>135 | 245=>136 | 247=>163 | 279=>164 | 280=>165 | 281=>166 | 282=>167 | 287=>187 | 316=>188 | 171=>99 | 205=>189 | 321=>216 | 322=>217 | 243=>126 | 246=>150 | 283=>174 | 284=>175 | 285=>176 | 286=>177 | 129=>194 | 317=>193 | 318=>195 | 319=>196 | 320=>197 | 337=>218 | 338=>219 | n=>n,fun | 9=>9 | 3=>3 | 75=>127 | 76=>128 | 4=>4 | 5=>5 | 167=>178 | 37=>46 | 0=>0 | 85=>179 | 2=>2 | 168=>181 | 53=>188 | 175=>201 | 46=>200 | 210=>205 | 127=>184 | 145=>237 | 143=>235 | 21=>21 | 171=>187 | 173=>191 | 212=>211 | 51=>212 | 20=>20 | 213=>213 | 232=>252 | 233=>253 | 80=>159 | n=>n,fun | 15=>2 | 16=>3 | 17=>4 | 18=>6 | 19=>7 | n=>n⟩
theorem Tryz.lays172:Go.Proofs.Lays.n172 Tryz.prog Tryz.lays172_ren:={
 mixed:=by kernel_rfl
 f129:=Tryz.func194.trans (congrArg some (by kernel_rfl))
 f171:=Tryz.func99.trans (congrArg some (by kernel_rfl))
 f172:=Tryz.func104.trans (congrArg some (by kernel_rfl))
 f205:=Tryz.func189.trans (congrArg some (by kernel_rfl))
 f243:=Tryz.func126.trans (congrArg some (by kernel_rfl))
 f244:=Tryz.func135.trans (congrArg some (by kernel_rfl))
 f245:=Tryz.func136.trans (congrArg some (by kernel_rfl))
 f246:=Tryz.func150.trans (congrArg some (by kernel_rfl))
 f247:=Tryz.func163.trans (congrArg some (by kernel_rfl))
 f279:=Tryz.func164.trans (congrArg some (by kernel_rfl))
 f280:=Tryz.func165.trans (congrArg some (by kernel_rfl))
 f281:=Tryz.func166.trans (congrArg some (by kernel_rfl))
 f282:=Tryz.func167.trans (congrArg some (by kernel_rfl))
 f283:=Tryz.func174.trans (congrArg some (by kernel_rfl))
 f284:=Tryz.func175.trans (congrArg some (by kernel_rfl))
 f285:=Tryz.func176.trans (congrArg some (by kernel_rfl))
 f286:=Tryz.func177.trans (congrArg some (by kernel_rfl))
 f287:=Tryz.func187.trans (congrArg some (by kernel_rfl))
 f316:=Tryz.func188.trans (congrArg some (by kernel_rfl))
 f317:=Tryz.func193.trans (congrArg some (by kernel_rfl))
 f318:=Tryz.func195.trans (congrArg some (by kernel_rfl))
 f319:=Tryz.func196.trans (congrArg some (by kernel_rfl))
 f320:=Tryz.func197.trans (congrArg some (by kernel_rfl))
 f321:=Tryz.func216.trans (congrArg some (by kernel_rfl))
 f322:=Tryz.func217.trans (congrArg some (by kernel_rfl))
 f337:=Tryz.func218.trans (congrArg some (by kernel_rfl))
 f338:=Tryz.func219.trans (congrArg some (by kernel_rfl))
 t0:=Tryz.underlying0
 a0:=Tryz.isAgg0
 z0:=Tryz.sizeOf0
 v0:=Tryz.zeroValue0
 t2:=Tryz.underlying2
 a2:=Tryz.isAgg2
 z2:=Tryz.sizeOf2
 v2:=Tryz.zeroValue2
 t3:=Tryz.underlying3
 a3:=Tryz.isAgg3
 z3:=Tryz.sizeOf3
 v3:=Tryz.zeroValue3
 t4:=Tryz.underlying4
 a4:=Tryz.isAgg4
 z4:=Tryz.sizeOf4
 v4:=Tryz.zeroValue4
 t5:=Tryz.underlying5
 a5:=Tryz.isAgg5
 z5:=Tryz.sizeOf5
 v5:=Tryz.zeroValue5
 t9:=Tryz.underlying9
 a9:=Tryz.isAgg9
 z9:=Tryz.sizeOf9
 v9:=Tryz.zeroValue9
 t20:=Tryz.underlying20
 a20:=Tryz.isAgg20
 z20:=Tryz.sizeOf20
 v20:=Tryz.zeroValue20
 t21:=Tryz.underlying21
 a21:=Tryz.isAgg21
 z21:=Tryz.sizeOf21
 v21:=Tryz.zeroValue21
 t37:=Tryz.underlying46
 a37:=Tryz.isAgg46
 z37:=Tryz.sizeOf46
 v37:=Tryz.zeroValue46
 t46:=Tryz.underlying200
 a46:=Tryz.isAgg200
 z46:=Tryz.sizeOf200
 v46:=Tryz.zeroValue200
 t51:=Tryz.underlying212
 a51:=Tryz.isAgg212
 z51:=Tryz.sizeOf212
 v51:=Tryz.zeroValue212
 t53:=Tryz.underlying188
 a53:=Tryz.isAgg188
 z53:=Tryz.sizeOf188
 v53:=Tryz.zeroValue188
 t75:=Tryz.underlying127
 a75:=Tryz.isAgg127
 z75:=Tryz.sizeOf127
 v75:=Tryz.zeroValue127
 t76:=Tryz.underlying128
 a76:=Tryz.isAgg128
 z76:=Tryz.sizeOf128
 v76:=Tryz.zeroValue128
 t85:=Tryz.underlying179
 a85:=Tryz.isAgg179
 z85:=Tryz.sizeOf179
 v85:=Tryz.zeroValue179
 t127:=Tryz.underlying184
 a127:=Tryz.isAgg184
 z127:=Tryz.sizeOf184
 v127:=Tryz.zeroValue184
 t143:=Tryz.underlying235
 a143:=Tryz.isAgg235
 z143:=Tryz.sizeOf235
 v143:=Tryz.zeroValue235
 t145:=Tryz.underlying237
 a145:=Tryz.isAgg237
 z145:=Tryz.sizeOf237
 v145:=Tryz.zeroValue237
 t167:=Tryz.underlying178
 a167:=Tryz.isAgg178
 z167:=Tryz.sizeOf178
 v167:=Tryz.zeroValue178
 t168:=Tryz.underlying181
 a168:=Tryz.isAgg181
 z168:=Tryz.sizeOf181
 v168:=Tryz.zeroValue181
 t171:=Tryz.underlying187
 a171:=Tryz.isAgg187
 z171:=Tryz.sizeOf187
 v171:=Tryz.zeroValue187
 t173:=Tryz.underlying191
 a173:=Tryz.isAgg191
 z173:=Tryz.sizeOf191
 v173:=Tryz.zeroValue191
 t175:=Tryz.underlying201
 a175:=Tryz.isAgg201
 z175:=Tryz.sizeOf201
 v175:=Tryz.zeroValue201
 t210:=Tryz.underlying205
 a210:=Tryz.isAgg205
 z210:=Tryz.sizeOf205
 v210:=Tryz.zeroValue205
 t212:=Tryz.underlying211
 a212:=Tryz.isAgg211
 z212:=Tryz.sizeOf211
 v212:=Tryz.zeroValue211
 t213:=Tryz.underlying213
 a213:=Tryz.isAgg213
 z213:=Tryz.sizeOf213
 t232:=Tryz.underlying252
 a232:=Tryz.isAgg252
 z232:=Tryz.sizeOf252
 v232:=Tryz.zeroValue252
 t233:=Tryz.underlying253
 a233:=Tryz.isAgg253
 z233:=Tryz.sizeOf253
 v233:=Tryz.zeroValue253
 g15:=by kernel_rfl
 g16:=by kernel_rfl
 g17:=by kernel_rfl
 g18:=by kernel_rfl
 g19:=by kernel_rfl }
open Go.RowKit in
theorem Tryz.strconv_Atoi (s:ByteArray) (n:Int) (hl:s.size≤18) (h:Lib.atoi s.data.toList=some n) (w:World) :
  Calls Tryz.prog 104 #[.string s] w fun e w'=>e=.returned (.tuple #[.int .i64 n,.nilIface])∧∃t,w'=Lib.bytesWorld w 5 t:=Any.strconv_Atoi Tryz.lays172 s n hl h w
def Tryz.laysM171_ren:Go.Shelf.Ren:=⟨fun | 171=>99 | 243=>126 | 246=>150 | 283=>174 | 284=>175 | 285=>176 | 286=>177 | 129=>194 | 317=>193 | 318=>195 | 319=>196 | 320=>197 | 337=>218 | 338=>219 | n=>n,fun | 3=>3 | 9=>9 | 2=>2 | 4=>4 | 171=>187 | 0=>0 | 53=>188 | 37=>46 | 5=>5 | 173=>191 | 212=>211 | 51=>212 | 20=>20 | 213=>213 | 46=>200 | 232=>252 | 233=>253 | n=>n,fun | 17=>4 | 18=>6 | 19=>7 | n=>n⟩
theorem Tryz.laysM171:Go.Proofs.LaysM.n171 Tryz.prog Tryz.laysM171_ren:={
 mixed:=by kernel_rfl
 f129:=Tryz.func194.trans (congrArg some (by kernel_rfl))
 f171:=Tryz.func99.trans (congrArg some (by kernel_rfl))
 f243:=Tryz.func126.trans (congrArg some (by kernel_rfl))
 f246:=Tryz.func150.trans (congrArg some (by kernel_rfl))
 f283:=Tryz.func174.trans (congrArg some (by kernel_rfl))
 f284:=Tryz.func175.trans (congrArg some (by kernel_rfl))
 f285:=Tryz.func176.trans (congrArg some (by kernel_rfl))
 f286:=Tryz.func177.trans (congrArg some (by kernel_rfl))
 f317:=Tryz.func193.trans (congrArg some (by kernel_rfl))
 f318:=Tryz.func195.trans (congrArg some (by kernel_rfl))
 f319:=Tryz.func196.trans (congrArg some (by kernel_rfl))
 f320:=Tryz.func197.trans (congrArg some (by kernel_rfl))
 f337:=Tryz.func218.trans (congrArg some (by kernel_rfl))
 f338:=Tryz.func219.trans (congrArg some (by kernel_rfl))
 t0:=Tryz.underlying0
 a0:=Tryz.isAgg0
 z0:=Tryz.sizeOf0
 v0:=Tryz.zeroValue0
 t2:=Tryz.underlying2
 a2:=Tryz.isAgg2
 z2:=Tryz.sizeOf2
 v2:=Tryz.zeroValue2
 t3:=Tryz.underlying3
 a3:=Tryz.isAgg3
 z3:=Tryz.sizeOf3
 v3:=Tryz.zeroValue3
 t4:=Tryz.underlying4
 a4:=Tryz.isAgg4
 z4:=Tryz.sizeOf4
 v4:=Tryz.zeroValue4
 t5:=Tryz.underlying5
 a5:=Tryz.isAgg5
 z5:=Tryz.sizeOf5
 v5:=Tryz.zeroValue5
 t9:=Tryz.underlying9
 a9:=Tryz.isAgg9
 z9:=Tryz.sizeOf9
 v9:=Tryz.zeroValue9
 t20:=Tryz.underlying20
 a20:=Tryz.isAgg20
 z20:=Tryz.sizeOf20
 v20:=Tryz.zeroValue20
 t37:=Tryz.underlying46
 a37:=Tryz.isAgg46
 z37:=Tryz.sizeOf46
 v37:=Tryz.zeroValue46
 t46:=Tryz.underlying200
 a46:=Tryz.isAgg200
 z46:=Tryz.sizeOf200
 v46:=Tryz.zeroValue200
 t51:=Tryz.underlying212
 a51:=Tryz.isAgg212
 z51:=Tryz.sizeOf212
 v51:=Tryz.zeroValue212
 t53:=Tryz.underlying188
 a53:=Tryz.isAgg188
 z53:=Tryz.sizeOf188
 v53:=Tryz.zeroValue188
 t171:=Tryz.underlying187
 a171:=Tryz.isAgg187
 z171:=Tryz.sizeOf187
 v171:=Tryz.zeroValue187
 t173:=Tryz.underlying191
 a173:=Tryz.isAgg191
 z173:=Tryz.sizeOf191
 v173:=Tryz.zeroValue191
 t212:=Tryz.underlying211
 a212:=Tryz.isAgg211
 z212:=Tryz.sizeOf211
 v212:=Tryz.zeroValue211
 t213:=Tryz.underlying213
 a213:=Tryz.isAgg213
 z213:=Tryz.sizeOf213
 t232:=Tryz.underlying252
 a232:=Tryz.isAgg252
 z232:=Tryz.sizeOf252
 v232:=Tryz.zeroValue252
 t233:=Tryz.underlying253
 a233:=Tryz.isAgg253
 z233:=Tryz.sizeOf253
 v233:=Tryz.zeroValue253
 g17:=by kernel_rfl
 g18:=by kernel_rfl
 g19:=by kernel_rfl
 i0:=by kernel_rfl
 i2:=by kernel_rfl
 i3:=by kernel_rfl
 i4:=by kernel_rfl
 i5:=by kernel_rfl
 i9:=by kernel_rfl
 i20:=by kernel_rfl
 i37:=by kernel_rfl
 i46:=by kernel_rfl
 i51:=by kernel_rfl
 i53:=by kernel_rfl
 i171:=by kernel_rfl
 i173:=by kernel_rfl
 i212:=by kernel_rfl
 i232:=by kernel_rfl
 i233:=by kernel_rfl
 m17:=by kernel_rfl
 m18:=by kernel_rfl
 m19:=by kernel_rfl }
open Go.RowKit Go.Sort Go.Lib in
theorem Tryz.strconv_Itoa (n : Int) (h0 : -9223372036854775808 ≤ n) (h1 : n ≤ 9223372036854775807) (w : World) (htab : Lib.TabIs Tryz.prog w "internal/strconv.uint64pow10" .u64 Lib.pow10Tab) :
  Calls Tryz.prog 99 #[.int .i64 n] w fun e w'=>e=.returned (.string ⟨(Lib.itoa n).toArray⟩)∧∃k os,w'=grow (w.drewN k) os:=Any.strconv_Itoa Tryz.laysM171 n h0 h1 w htab
def Tryz.lays171_ren:Go.Shelf.Ren:=⟨fun | 171=>99 | 243=>126 | 246=>150 | 283=>174 | 284=>175 | 285=>176 | 286=>177 | 129=>194 | 317=>193 | 318=>195 | 319=>196 | 320=>197 | 337=>218 | 338=>219 | n=>n,fun | 3=>3 | 9=>9 | 2=>2 | 4=>4 | 171=>187 | 0=>0 | 53=>188 | 37=>46 | 5=>5 | 173=>191 | 212=>211 | 51=>212 | 20=>20 | 213=>213 | 46=>200 | 232=>252 | 233=>253 | n=>n,fun | 17=>4 | 18=>6 | 19=>7 | n=>n⟩
theorem Tryz.lays171:Go.Proofs.Lays.n171 Tryz.prog Tryz.lays171_ren:={
 mixed:=by kernel_rfl
 f129:=Tryz.func194.trans (congrArg some (by kernel_rfl))
 f171:=Tryz.func99.trans (congrArg some (by kernel_rfl))
 f243:=Tryz.func126.trans (congrArg some (by kernel_rfl))
 f246:=Tryz.func150.trans (congrArg some (by kernel_rfl))
 f283:=Tryz.func174.trans (congrArg some (by kernel_rfl))
 f284:=Tryz.func175.trans (congrArg some (by kernel_rfl))
 f285:=Tryz.func176.trans (congrArg some (by kernel_rfl))
 f286:=Tryz.func177.trans (congrArg some (by kernel_rfl))
 f317:=Tryz.func193.trans (congrArg some (by kernel_rfl))
 f318:=Tryz.func195.trans (congrArg some (by kernel_rfl))
 f319:=Tryz.func196.trans (congrArg some (by kernel_rfl))
 f320:=Tryz.func197.trans (congrArg some (by kernel_rfl))
 f337:=Tryz.func218.trans (congrArg some (by kernel_rfl))
 f338:=Tryz.func219.trans (congrArg some (by kernel_rfl))
 t0:=Tryz.underlying0
 a0:=Tryz.isAgg0
 z0:=Tryz.sizeOf0
 v0:=Tryz.zeroValue0
 t2:=Tryz.underlying2
 a2:=Tryz.isAgg2
 z2:=Tryz.sizeOf2
 v2:=Tryz.zeroValue2
 t3:=Tryz.underlying3
 a3:=Tryz.isAgg3
 z3:=Tryz.sizeOf3
 v3:=Tryz.zeroValue3
 t4:=Tryz.underlying4
 a4:=Tryz.isAgg4
 z4:=Tryz.sizeOf4
 v4:=Tryz.zeroValue4
 t5:=Tryz.underlying5
 a5:=Tryz.isAgg5
 z5:=Tryz.sizeOf5
 v5:=Tryz.zeroValue5
 t9:=Tryz.underlying9
 a9:=Tryz.isAgg9
 z9:=Tryz.sizeOf9
 v9:=Tryz.zeroValue9
 t20:=Tryz.underlying20
 a20:=Tryz.isAgg20
 z20:=Tryz.sizeOf20
 v20:=Tryz.zeroValue20
 t37:=Tryz.underlying46
 a37:=Tryz.isAgg46
 z37:=Tryz.sizeOf46
 v37:=Tryz.zeroValue46
 t46:=Tryz.underlying200
 a46:=Tryz.isAgg200
 z46:=Tryz.sizeOf200
 v46:=Tryz.zeroValue200
 t51:=Tryz.underlying212
 a51:=Tryz.isAgg212
 z51:=Tryz.sizeOf212
 v51:=Tryz.zeroValue212
 t53:=Tryz.underlying188
 a53:=Tryz.isAgg188
 z53:=Tryz.sizeOf188
 v53:=Tryz.zeroValue188
 t171:=Tryz.underlying187
 a171:=Tryz.isAgg187
 z171:=Tryz.sizeOf187
 v171:=Tryz.zeroValue187
 t173:=Tryz.underlying191
 a173:=Tryz.isAgg191
 z173:=Tryz.sizeOf191
 v173:=Tryz.zeroValue191
 t212:=Tryz.underlying211
 a212:=Tryz.isAgg211
 z212:=Tryz.sizeOf211
 v212:=Tryz.zeroValue211
 t213:=Tryz.underlying213
 a213:=Tryz.isAgg213
 z213:=Tryz.sizeOf213
 t232:=Tryz.underlying252
 a232:=Tryz.isAgg252
 z232:=Tryz.sizeOf252
 v232:=Tryz.zeroValue252
 t233:=Tryz.underlying253
 a233:=Tryz.isAgg253
 z233:=Tryz.sizeOf253
 v233:=Tryz.zeroValue253
 g17:=by kernel_rfl
 g18:=by kernel_rfl
 g19:=by kernel_rfl }
open Go.RowKit Go.Sort Go.Lib in
theorem Tryz.strconv_Itoa_small (i:Nat) (hi:i<100) (w:World) :
  Calls Tryz.prog 99 #[.int .i64 i] w fun e w'=>e=.returned (.string ⟨(Lib.decDigits i).toArray⟩)∧w'=w:=Any.strconv_Itoa_small Tryz.lays171 i hi w
def Tryz.laysC172_ren:Go.Shelf.Ren:=⟨fun | 172=>104 | 244=>135 | 245=>136 | 247=>163 | 279=>164 | 280=>165 | 281=>166 | 282=>167 | 287=>187 | 316=>188 | 171=>99 | 205=>189 | 321=>216 | 322=>217 | 243=>126 | 246=>150 | 283=>174 | 284=>175 | 285=>176 | 286=>177 | 129=>194 | 317=>193 | 318=>195 | 319=>196 | 320=>197 | 337=>218 | 338=>219 | n=>n,fun | 9=>9 | 3=>3 | 75=>127 | 76=>128 | 4=>4 | 5=>5 | 167=>178 | 37=>46 | 0=>0 | 85=>179 | 2=>2 | 168=>181 | 53=>188 | 175=>201 | 46=>200 | 210=>205 | 127=>184 | 145=>237 | 143=>235 | 21=>21 | 171=>187 | 173=>191 | 212=>211 | 51=>212 | 20=>20 | 213=>213 | 232=>252 | 233=>253 | 80=>159 | n=>n,fun | 15=>2 | 16=>3 | 17=>4 | 18=>6 | 19=>7 | n=>n⟩
theorem Tryz.laysC172:Go.Proofs.LaysC.n172 Tryz.prog Tryz.laysC172_ren:={
 mixed:=by kernel_rfl
 f129:=Tryz.func194.trans (congrArg some (by kernel_rfl))
 f171:=Tryz.func99.trans (congrArg some (by kernel_rfl))
 f172:=Tryz.func104.trans (congrArg some (by kernel_rfl))
 f205:=Tryz.func189.trans (congrArg some (by kernel_rfl))
 f243:=Tryz.func126.trans (congrArg some (by kernel_rfl))
 f244:=Tryz.func135.trans (congrArg some (by kernel_rfl))
 f245:=Tryz.func136.trans (congrArg some (by kernel_rfl))
 f246:=Tryz.func150.trans (congrArg some (by kernel_rfl))
 f247:=Tryz.func163.trans (congrArg some (by kernel_rfl))
 f279:=Tryz.func164.trans (congrArg some (by kernel_rfl))
 f280:=Tryz.func165.trans (congrArg some (by kernel_rfl))
 f281:=Tryz.func166.trans (congrArg some (by kernel_rfl))
 f282:=Tryz.func167.trans (congrArg some (by kernel_rfl))
 f283:=Tryz.func174.trans (congrArg some (by kernel_rfl))
 f284:=Tryz.func175.trans (congrArg some (by kernel_rfl))
 f285:=Tryz.func176.trans (congrArg some (by kernel_rfl))
 f286:=Tryz.func177.trans (congrArg some (by kernel_rfl))
 f287:=Tryz.func187.trans (congrArg some (by kernel_rfl))
 f316:=Tryz.func188.trans (congrArg some (by kernel_rfl))
 f317:=Tryz.func193.trans (congrArg some (by kernel_rfl))
 f318:=Tryz.func195.trans (congrArg some (by kernel_rfl))
 f319:=Tryz.func196.trans (congrArg some (by kernel_rfl))
 f320:=Tryz.func197.trans (congrArg some (by kernel_rfl))
 f321:=Tryz.func216.trans (congrArg some (by kernel_rfl))
 f322:=Tryz.func217.trans (congrArg some (by kernel_rfl))
 f337:=Tryz.func218.trans (congrArg some (by kernel_rfl))
 f338:=Tryz.func219.trans (congrArg some (by kernel_rfl))
 t0:=Tryz.underlying0
 a0:=Tryz.isAgg0
 z0:=Tryz.sizeOf0
 v0:=Tryz.zeroValue0
 t2:=Tryz.underlying2
 a2:=Tryz.isAgg2
 z2:=Tryz.sizeOf2
 v2:=Tryz.zeroValue2
 t3:=Tryz.underlying3
 a3:=Tryz.isAgg3
 z3:=Tryz.sizeOf3
 v3:=Tryz.zeroValue3
 t4:=Tryz.underlying4
 a4:=Tryz.isAgg4
 z4:=Tryz.sizeOf4
 v4:=Tryz.zeroValue4
 t5:=Tryz.underlying5
 a5:=Tryz.isAgg5
 z5:=Tryz.sizeOf5
 v5:=Tryz.zeroValue5
 t9:=Tryz.underlying9
 a9:=Tryz.isAgg9
 z9:=Tryz.sizeOf9
 v9:=Tryz.zeroValue9
 t20:=Tryz.underlying20
 a20:=Tryz.isAgg20
 z20:=Tryz.sizeOf20
 v20:=Tryz.zeroValue20
 t21:=Tryz.underlying21
 a21:=Tryz.isAgg21
 z21:=Tryz.sizeOf21
 v21:=Tryz.zeroValue21
 t37:=Tryz.underlying46
 a37:=Tryz.isAgg46
 z37:=Tryz.sizeOf46
 v37:=Tryz.zeroValue46
 t46:=Tryz.underlying200
 a46:=Tryz.isAgg200
 z46:=Tryz.sizeOf200
 v46:=Tryz.zeroValue200
 t51:=Tryz.underlying212
 a51:=Tryz.isAgg212
 z51:=Tryz.sizeOf212
 v51:=Tryz.zeroValue212
 t53:=Tryz.underlying188
 a53:=Tryz.isAgg188
 z53:=Tryz.sizeOf188
 v53:=Tryz.zeroValue188
 t75:=Tryz.underlying127
 a75:=Tryz.isAgg127
 z75:=Tryz.sizeOf127
 v75:=Tryz.zeroValue127
 t76:=Tryz.underlying128
 a76:=Tryz.isAgg128
 z76:=Tryz.sizeOf128
 v76:=Tryz.zeroValue128
 t85:=Tryz.underlying179
 a85:=Tryz.isAgg179
 z85:=Tryz.sizeOf179
 v85:=Tryz.zeroValue179
 t127:=Tryz.underlying184
 a127:=Tryz.isAgg184
 z127:=Tryz.sizeOf184
 v127:=Tryz.zeroValue184
 t143:=Tryz.underlying235
 a143:=Tryz.isAgg235
 z143:=Tryz.sizeOf235
 v143:=Tryz.zeroValue235
 t145:=Tryz.underlying237
 a145:=Tryz.isAgg237
 z145:=Tryz.sizeOf237
 v145:=Tryz.zeroValue237
 t167:=Tryz.underlying178
 a167:=Tryz.isAgg178
 z167:=Tryz.sizeOf178
 v167:=Tryz.zeroValue178
 t168:=Tryz.underlying181
 a168:=Tryz.isAgg181
 z168:=Tryz.sizeOf181
 v168:=Tryz.zeroValue181
 t171:=Tryz.underlying187
 a171:=Tryz.isAgg187
 z171:=Tryz.sizeOf187
 v171:=Tryz.zeroValue187
 t173:=Tryz.underlying191
 a173:=Tryz.isAgg191
 z173:=Tryz.sizeOf191
 v173:=Tryz.zeroValue191
 t175:=Tryz.underlying201
 a175:=Tryz.isAgg201
 z175:=Tryz.sizeOf201
 v175:=Tryz.zeroValue201
 t210:=Tryz.underlying205
 a210:=Tryz.isAgg205
 z210:=Tryz.sizeOf205
 v210:=Tryz.zeroValue205
 t212:=Tryz.underlying211
 a212:=Tryz.isAgg211
 z212:=Tryz.sizeOf211
 v212:=Tryz.zeroValue211
 t213:=Tryz.underlying213
 a213:=Tryz.isAgg213
 z213:=Tryz.sizeOf213
 t232:=Tryz.underlying252
 a232:=Tryz.isAgg252
 z232:=Tryz.sizeOf252
 v232:=Tryz.zeroValue252
 t233:=Tryz.underlying253
 a233:=Tryz.isAgg253
 z233:=Tryz.sizeOf253
 v233:=Tryz.zeroValue253
 g15:=by kernel_rfl
 g16:=by kernel_rfl
 g17:=by kernel_rfl
 g18:=by kernel_rfl
 g19:=by kernel_rfl
 t80:=Tryz.underlying159
 a80:=Tryz.isAgg159
 z80:=Tryz.sizeOf159
 v80:=Tryz.zeroValue159
 i0:=by kernel_rfl
 i2:=by kernel_rfl
 i3:=by kernel_rfl
 i4:=by kernel_rfl
 i5:=by kernel_rfl
 i9:=by kernel_rfl
 i20:=by kernel_rfl
 i21:=by kernel_rfl
 i37:=by kernel_rfl
 i46:=by kernel_rfl
 i51:=by kernel_rfl
 i53:=by kernel_rfl
 i75:=by kernel_rfl
 i76:=by kernel_rfl
 i80:=by kernel_rfl
 i85:=by kernel_rfl
 i127:=by kernel_rfl
 i143:=by kernel_rfl
 i145:=by kernel_rfl
 i167:=by kernel_rfl
 i168:=by kernel_rfl
 i171:=by kernel_rfl
 i173:=by kernel_rfl
 i175:=by kernel_rfl
 i210:=by kernel_rfl
 i212:=by kernel_rfl
 i232:=by kernel_rfl
 i233:=by kernel_rfl
 m15:=by kernel_rfl
 m16:=by kernel_rfl
 m17:=by kernel_rfl
 m18:=by kernel_rfl
 m19:=by kernel_rfl
 c0:=by kernel_rfl
 c2:=by kernel_rfl
 c3:=by kernel_rfl
 c4:=by kernel_rfl
 c5:=by kernel_rfl
 c9:=by kernel_rfl
 c20:=by kernel_rfl
 c21:=by kernel_rfl
 c37:=by kernel_rfl
 c46:=by kernel_rfl
 c51:=by kernel_rfl
 c53:=by kernel_rfl
 c75:=by kernel_rfl
 c76:=by kernel_rfl
 c80:=by kernel_rfl
 c85:=by kernel_rfl
 c127:=by kernel_rfl
 c143:=by kernel_rfl
 c145:=by kernel_rfl
 c167:=by kernel_rfl
 c168:=by kernel_rfl
 c171:=by kernel_rfl
 c173:=by kernel_rfl
 c175:=by kernel_rfl
 c210:=by kernel_rfl
 c212:=by kernel_rfl
 c213:=by kernel_rfl
 c232:=by kernel_rfl
 c233:=by kernel_rfl }
open Go.RowKit in
theorem Tryz.strconv_Atoi_err (s:ByteArray) (hl:s.size≤18) (h:Lib.atoi s.data.toList=none) (ev:Value) (w:World) (hv:w.cell? ⟨2,0,none⟩=some ev) (hev:ev=.nilIface∨∃te pe,ev=.iface te pe) :
  Calls Tryz.prog 104 #[.string s] w fun e w'=>∃N,e=.returned (.tuple #[.int .i64 0,.iface 181 (.pointer (some ⟨N,0,none⟩))])∧w.heap.size≤N∧w'.heap[N]? = some (.cells #[.string ⟨#[65,116,111,105]⟩,.string s,ev] 205 (0,0))∧Below w.heap.size w w':=Any.strconv_Atoi_err Tryz.laysC172 s hl h ev w hv hev
def Tryz.lays189_ren:Go.Shelf.Ren:=⟨fun | 189=>160 | 125=>186 | 257=>185 | 128=>215 | 129=>194 | 294=>206 | 295=>207 | 296=>208 | 297=>209 | 298=>210 | 299=>211 | 216=>212 | 300=>213 | 301=>214 | 328=>227 | 329=>228 | 330=>229 | 331=>230 | 332=>231 | 215=>232 | 343=>243 | n=>n,fun | 28=>22 | 3=>3 | 46=>200 | 0=>0 | 51=>212 | 53=>188 | 4=>4 | 183=>228 | 182=>227 | 131=>132 | 5=>5 | 9=>9 | 218=>247 | 222=>107 | 228=>269 | 229=>216 | n=>n,fun | n=>n⟩
theorem Tryz.lays189:Go.Proofs.Lays.n189 Tryz.prog Tryz.lays189_ren:={
 mixed:=by kernel_rfl
 f125:=Tryz.func186.trans (congrArg some (by kernel_rfl))
 f128:=Tryz.func215.trans (congrArg some (by kernel_rfl))
 f129:=Tryz.func194.trans (congrArg some (by kernel_rfl))
 f189:=Tryz.func160.trans (congrArg some (by kernel_rfl))
 f215:=Tryz.func232.trans (congrArg some (by kernel_rfl))
 f216:=Tryz.func212.trans (congrArg some (by kernel_rfl))
 f257:=Tryz.func185.trans (congrArg some (by kernel_rfl))
 f294:=Tryz.func206.trans (congrArg some (by kernel_rfl))
 f295:=Tryz.func207.trans (congrArg some (by kernel_rfl))
 f296:=Tryz.func208.trans (congrArg some (by kernel_rfl))
 f297:=Tryz.func209.trans (congrArg some (by kernel_rfl))
 f298:=Tryz.func210.trans (congrArg some (by kernel_rfl))
 f299:=Tryz.func211.trans (congrArg some (by kernel_rfl))
 f300:=Tryz.func213.trans (congrArg some (by kernel_rfl))
 f301:=Tryz.func214.trans (congrArg some (by kernel_rfl))
 f328:=Tryz.func227.trans (congrArg some (by kernel_rfl))
 f329:=Tryz.func228.trans (congrArg some (by kernel_rfl))
 f330:=Tryz.func229.trans (congrArg some (by kernel_rfl))
 f331:=Tryz.func230.trans (congrArg some (by kernel_rfl))
 f332:=Tryz.func231.trans (congrArg some (by kernel_rfl))
 f343:=Tryz.func243.trans (congrArg some (by kernel_rfl))
 t0:=Tryz.underlying0
 a0:=Tryz.isAgg0
 z0:=Tryz.sizeOf0
 v0:=Tryz.zeroValue0
 t3:=Tryz.underlying3
 a3:=Tryz.isAgg3
 z3:=Tryz.sizeOf3
 v3:=Tryz.zeroValue3
 t4:=Tryz.underlying4
 a4:=Tryz.isAgg4
 z4:=Tryz.sizeOf4
 v4:=Tryz.zeroValue4
 t5:=Tryz.underlying5
 a5:=Tryz.isAgg5
 z5:=Tryz.sizeOf5
 v5:=Tryz.zeroValue5
 t9:=Tryz.underlying9
 a9:=Tryz.isAgg9
 z9:=Tryz.sizeOf9
 v9:=Tryz.zeroValue9
 t28:=Tryz.underlying22
 a28:=Tryz.isAgg22
 z28:=Tryz.sizeOf22
 v28:=Tryz.zeroValue22
 t46:=Tryz.underlying200
 a46:=Tryz.isAgg200
 z46:=Tryz.sizeOf200
 v46:=Tryz.zeroValue200
 t51:=Tryz.underlying212
 a51:=Tryz.isAgg212
 z51:=Tryz.sizeOf212
 v51:=Tryz.zeroValue212
 t53:=Tryz.underlying188
 a53:=Tryz.isAgg188
 z53:=Tryz.sizeOf188
 v53:=Tryz.zeroValue188
 t131:=Tryz.underlying132
 a131:=Tryz.isAgg132
 z131:=Tryz.sizeOf132
 v131:=Tryz.zeroValue132
 t182:=Tryz.underlying227
 a182:=Tryz.isAgg227
 z182:=Tryz.sizeOf227
 v182:=Tryz.zeroValue227
 t183:=Tryz.underlying228
 a183:=Tryz.isAgg228
 z183:=Tryz.sizeOf228
 v183:=Tryz.zeroValue228
 t218:=Tryz.underlying247
 a218:=Tryz.isAgg247
 z218:=Tryz.sizeOf247
 v218:=Tryz.zeroValue247
 t222:=Tryz.underlying107
 a222:=Tryz.isAgg107
 z222:=Tryz.sizeOf107
 v222:=Tryz.zeroValue107
 t228:=Tryz.underlying269
 a228:=Tryz.isAgg269
 z228:=Tryz.sizeOf269
 v228:=Tryz.zeroValue269
 t229:=Tryz.underlying216
 a229:=Tryz.isAgg216
 z229:=Tryz.sizeOf216
 v229:=Tryz.zeroValue216 }
open Go.Sort Go.RowKit in
theorem Tryz.slices_Sort_int (blk off cap:Nat) (zs:List Int) (w:World) (hH:Holds (Value.int .i64) w blk off zs.toArray) (hblk:blk<w.heap.size) (hsz:zs.length<4611686018427387904) :
  Calls Tryz.prog 160 #[.slice (some ⟨blk,off,none⟩) zs.length cap] w fun e w'=>
   e=.returned (.tuple #[])∧∃n os,w'=grow (putRow (Value.int .i64) (Sort.ahead w n) blk off (zs.mergeSort fun x y=>decide (x≤y)).toArray) os:=Any.slices_Sort_int Tryz.lays189 blk off cap zs w hH hblk hsz
def Tryz.lays108_ren:Go.Shelf.Ren:=⟨fun | 108=>157 | n=>n,fun | 28=>22 | 3=>3 | 0=>0 | 4=>4 | n=>n,fun | n=>n⟩
theorem Tryz.lays108:Go.Proofs.Lays.n108 Tryz.prog Tryz.lays108_ren:={
 mixed:=by kernel_rfl
 f108:=Tryz.func157.trans (congrArg some (by kernel_rfl))
 t0:=Tryz.underlying0
 a0:=Tryz.isAgg0
 z0:=Tryz.sizeOf0
 v0:=Tryz.zeroValue0
 t3:=Tryz.underlying3
 a3:=Tryz.isAgg3
 z3:=Tryz.sizeOf3
 v3:=Tryz.zeroValue3
 t4:=Tryz.underlying4
 a4:=Tryz.isAgg4
 z4:=Tryz.sizeOf4
 v4:=Tryz.zeroValue4
 t28:=Tryz.underlying22
 a28:=Tryz.isAgg22
 z28:=Tryz.sizeOf22
 v28:=Tryz.zeroValue22 }
open Go.Lib in
theorem Tryz.slices_Index_int (b off n c:Nat) (zs:List Int) (x:Int) (w:World) (hz:n≤zs.length) (hbig:n≤9223372036854775807) (hc:∀j,j<zs.length→w.cell? ⟨b,off+j,none⟩=some (.int .i64 (zs.getD j 0))) :
  Calls Tryz.prog 157 #[.slice (some ⟨b,off,none⟩) n c,.int .i64 x] w fun e w'=>e=.returned (.int .i64 (Lib.idxOf (zs.take n) x))∧w'=w:=Any.slices_Index_int Tryz.lays108 b off n c zs x w hz hbig hc
def Tryz.lays107_ren:Go.Shelf.Ren:=⟨fun | 107=>131 | 108=>157 | n=>n,fun | 28=>22 | 3=>3 | 4=>4 | 0=>0 | n=>n,fun | n=>n⟩
theorem Tryz.lays107:Go.Proofs.Lays.n107 Tryz.prog Tryz.lays107_ren:={
 mixed:=by kernel_rfl
 f107:=Tryz.func131.trans (congrArg some (by kernel_rfl))
 f108:=Tryz.func157.trans (congrArg some (by kernel_rfl))
 t0:=Tryz.underlying0
 a0:=Tryz.isAgg0
 z0:=Tryz.sizeOf0
 v0:=Tryz.zeroValue0
 t3:=Tryz.underlying3
 a3:=Tryz.isAgg3
 z3:=Tryz.sizeOf3
 v3:=Tryz.zeroValue3
 t4:=Tryz.underlying4
 a4:=Tryz.isAgg4
 z4:=Tryz.sizeOf4
 v4:=Tryz.zeroValue4
 t28:=Tryz.underlying22
 a28:=Tryz.isAgg22
 z28:=Tryz.sizeOf22
 v28:=Tryz.zeroValue22 }
open Go.Lib in
theorem Tryz.slices_Contains_int (b off n c:Nat) (zs:List Int) (x:Int) (w:World) (hz:n≤zs.length) (hbig:n≤9223372036854775807) (hc:∀j,j<zs.length→w.cell? ⟨b,off+j,none⟩=some (.int .i64 (zs.getD j 0))) :
  Calls Tryz.prog 131 #[.slice (some ⟨b,off,none⟩) n c,.int .i64 x] w fun e w'=>e=.returned (.bool ((zs.take n).contains x))∧w'=w:=Any.slices_Contains_int Tryz.lays107 b off n c zs x w hz hbig hc
def Tryz.lays109_ren:Go.Shelf.Ren:=⟨fun | 109=>95 | n=>n,fun | 31=>50 | 9=>9 | 3=>3 | 0=>0 | 4=>4 | n=>n,fun | n=>n⟩
theorem Tryz.lays109:Go.Proofs.Lays.n109 Tryz.prog Tryz.lays109_ren:={
 mixed:=by kernel_rfl
 f109:=Tryz.func95.trans (congrArg some (by kernel_rfl))
 t0:=Tryz.underlying0
 a0:=Tryz.isAgg0
 z0:=Tryz.sizeOf0
 v0:=Tryz.zeroValue0
 t3:=Tryz.underlying3
 a3:=Tryz.isAgg3
 z3:=Tryz.sizeOf3
 v3:=Tryz.zeroValue3
 t4:=Tryz.underlying4
 a4:=Tryz.isAgg4
 z4:=Tryz.sizeOf4
 v4:=Tryz.zeroValue4
 t9:=Tryz.underlying9
 a9:=Tryz.isAgg9
 z9:=Tryz.sizeOf9
 v9:=Tryz.zeroValue9
 t31:=Tryz.underlying50
 a31:=Tryz.isAgg50
 z31:=Tryz.sizeOf50
 v31:=Tryz.zeroValue50 }
open Go.Lib in
theorem Tryz.slices_Index_string (b off n c:Nat) (zs:List ByteArray) (x:ByteArray) (w:World) (hz:n≤zs.length) (hbig:n≤9223372036854775807) (hc:∀j,j<zs.length→w.cell? ⟨b,off+j,none⟩=some (.string (zs.getD j ByteArray.empty))) :
  Calls Tryz.prog 95 #[.slice (some ⟨b,off,none⟩) n c,.string x] w fun e w'=>e=.returned (.int .i64 (Lib.idxOfS (zs.take n) x))∧w'=w:=Any.slices_Index_string Tryz.lays109 b off n c zs x w hz hbig hc
def Tryz.lays110_ren:Go.Shelf.Ren:=⟨fun | 110=>47 | 109=>95 | n=>n,fun | 31=>50 | 9=>9 | 4=>4 | 3=>3 | 0=>0 | n=>n,fun | n=>n⟩
theorem Tryz.lays110:Go.Proofs.Lays.n110 Tryz.prog Tryz.lays110_ren:={
 mixed:=by kernel_rfl
 f109:=Tryz.func95.trans (congrArg some (by kernel_rfl))
 f110:=Tryz.func47.trans (congrArg some (by kernel_rfl))
 t0:=Tryz.underlying0
 a0:=Tryz.isAgg0
 z0:=Tryz.sizeOf0
 v0:=Tryz.zeroValue0
 t3:=Tryz.underlying3
 a3:=Tryz.isAgg3
 z3:=Tryz.sizeOf3
 v3:=Tryz.zeroValue3
 t4:=Tryz.underlying4
 a4:=Tryz.isAgg4
 z4:=Tryz.sizeOf4
 v4:=Tryz.zeroValue4
 t9:=Tryz.underlying9
 a9:=Tryz.isAgg9
 z9:=Tryz.sizeOf9
 v9:=Tryz.zeroValue9
 t31:=Tryz.underlying50
 a31:=Tryz.isAgg50
 z31:=Tryz.sizeOf50
 v31:=Tryz.zeroValue50 }
open Go.Lib in
theorem Tryz.slices_Contains_string (b off n c:Nat) (zs:List ByteArray) (x:ByteArray) (w:World) (hz:n≤zs.length) (hbig:n≤9223372036854775807) (hc:∀j,j<zs.length→w.cell? ⟨b,off+j,none⟩=some (.string (zs.getD j ByteArray.empty))) :
  Calls Tryz.prog 47 #[.slice (some ⟨b,off,none⟩) n c,.string x] w fun e w'=>e=.returned (.bool (Lib.containsS (zs.take n) x))∧w'=w:=Any.slices_Contains_string Tryz.lays110 b off n c zs x w hz hbig hc
def Tryz.lays111_ren:Go.Shelf.Ren:=⟨fun | 111=>68 | n=>n,fun | 28=>22 | 3=>3 | 4=>4 | 0=>0 | n=>n,fun | n=>n⟩
theorem Tryz.lays111:Go.Proofs.Lays.n111 Tryz.prog Tryz.lays111_ren:={
 mixed:=by kernel_rfl
 f111:=Tryz.func68.trans (congrArg some (by kernel_rfl))
 t0:=Tryz.underlying0
 a0:=Tryz.isAgg0
 z0:=Tryz.sizeOf0
 v0:=Tryz.zeroValue0
 t3:=Tryz.underlying3
 a3:=Tryz.isAgg3
 z3:=Tryz.sizeOf3
 v3:=Tryz.zeroValue3
 t4:=Tryz.underlying4
 a4:=Tryz.isAgg4
 z4:=Tryz.sizeOf4
 v4:=Tryz.zeroValue4
 t28:=Tryz.underlying22
 a28:=Tryz.isAgg22
 z28:=Tryz.sizeOf22
 v28:=Tryz.zeroValue22 }
open Go.RowKit Go.Lib in
theorem Tryz.slices_Equal_int (b1 o1 n c b2 o2 m d:Nat) (xs ys:List Int) (w:World) (hx:n≤xs.length) (hy:m≤ys.length) (hbig:n≤9223372036854775807) (hbig2:m≤9223372036854775807) (hc1:∀j,j<xs.length→w.cell? ⟨b1,o1+j,none⟩=some (.int .i64 (xs.getD j 0))) (hc2:∀j,j<ys.length→w.cell? ⟨b2,o2+j,none⟩=some (.int .i64 (ys.getD j 0))) :
  Calls Tryz.prog 68 #[.slice (some ⟨b1,o1,none⟩) n c,.slice (some ⟨b2,o2,none⟩) m d] w fun e w'=>e=.returned (.bool (xs.take n==ys.take m))∧∃q,w'=w.drewN q:=Any.slices_Equal_int Tryz.lays111 b1 o1 n c b2 o2 m d xs ys w hx hy hbig hbig2 hc1 hc2
def Tryz.laysNm215_ren:Go.Shelf.Ren:=⟨fun | 15=>125 | n=>n,fun | 22=>22 | 3=>3 | 4=>4 | n=>n,fun | n=>n⟩
theorem Tryz.laysNm215:Go.Proofs.Lays2.n15 Tryz.prog Tryz.laysNm215_ren:={
 mixed:=by kernel_rfl
 f15:=Tryz.func125.trans (congrArg some (by kernel_rfl))
 t3:=Tryz.underlying3
 a3:=Tryz.isAgg3
 z3:=Tryz.sizeOf3
 v3:=Tryz.zeroValue3
 t4:=Tryz.underlying4
 a4:=Tryz.isAgg4
 z4:=Tryz.sizeOf4
 v4:=Tryz.zeroValue4
 t22:=Tryz.underlying22
 a22:=Tryz.isAgg22
 z22:=Tryz.sizeOf22
 v22:=Tryz.zeroValue22
 i3:=by kernel_rfl }
open Go.RowKit Go.Lib in
theorem Tryz.slices_Clone_int (b off n c:Nat) (zs:List Int) (w:World) (hz:n≤zs.length) (hbig:n*8≤140737488355328) (hc:∀j,j<zs.length→w.cell? ⟨b,off+j,none⟩=some (.int .i64 (zs.getD j 0))) :
  Calls Tryz.prog 125 #[.slice (some ⟨b,off,none⟩) n c] w fun e w'=>∃v',e=.returned v'∧w'.ownsRow w.heap.size 3 1 v' n ((zs.take n).map (Value.int .i64))∧v'≠.slice none 0 0∧Below w.heap.size w w':=Any.slices_Clone_int Tryz.laysNm215 b off n c zs w hz hbig hc
def Tryz.laysNm220_ren:Go.Shelf.Ren:=⟨fun | 20=>161 | n=>n,fun | 22=>22 | 3=>3 | 4=>4 | 0=>0 | n=>n,fun | n=>n⟩
theorem Tryz.laysNm220:Go.Proofs.Lays2.n20 Tryz.prog Tryz.laysNm220_ren:={
 mixed:=by kernel_rfl
 f20:=Tryz.func161.trans (congrArg some (by kernel_rfl))
 t0:=Tryz.underlying0
 a0:=Tryz.isAgg0
 z0:=Tryz.sizeOf0
 v0:=Tryz.zeroValue0
 t3:=Tryz.underlying3
 a3:=Tryz.isAgg3
 z3:=Tryz.sizeOf3
 v3:=Tryz.zeroValue3
 t4:=Tryz.underlying4
 a4:=Tryz.isAgg4
 z4:=Tryz.sizeOf4
 v4:=Tryz.zeroValue4
 t22:=Tryz.underlying22
 a22:=Tryz.isAgg22
 z22:=Tryz.sizeOf22
 v22:=Tryz.zeroValue22
 i3:=by kernel_rfl }
open Go.RowKit Go.Lib Go.Sort in
theorem Tryz.slices_Compact_int (blk off cap:Nat) (zs:List Int) (w:World) (hH:Holds (Value.int .i64) w blk off zs.toArray) (hsz:zs.length≤9223372036854775807) (hcap:zs.length≤cap) :
  Calls Tryz.prog 161 #[.slice (some ⟨blk,off,none⟩) zs.length cap] w fun e w'=>e=.returned (.slice (some ⟨blk,off,none⟩) (Lib.compact zs).length cap)∧∃q,w'=putRow (Value.int .i64) (Sort.ahead w q) blk off (Lib.compact zs++List.replicate (zs.length-(Lib.compact zs).length) 0).toArray:=Any.slices_Compact_int Tryz.laysNm220 blk off cap zs w hH hsz hcap
open Go.RowKit Go.Lib Go.Sort in
theorem Tryz.slices_Compact_int_empty (a:Option Addr) (cap:Nat) (w:World) :
  Calls Tryz.prog 161 #[.slice a 0 cap] w fun e w'=>e=.returned (.slice a 0 cap)∧w'=w:=Any.slices_Compact_int_empty Tryz.laysNm220 a cap w
open Go.RowKit Go.Sort in
theorem Tryz.slices_Sort_int_none (p:Option Addr) (cap:Nat) (w:World) :
  Calls Tryz.prog 160 #[.slice p 0 cap] w fun e w'=>e=.returned (.tuple #[])∧w'=w:=Any.slices_Sort_int_none Tryz.lays189 p cap w
end Go.Proofs
