/- The library's contracts at this program, laid by the kit's tool in plain words. -/
import Derived.Shelf.Small.Strs
import Derived.Shelf.Small.Wraps
import Derived.Shelf.Strconv.Itoa0
import Derived.Shelf.Strconv.Itoa1
import Derived.Shelf.LaysM
import Derived.Shelf.Strconv.Itoa2
import Derived.Shelf.Strconv.Itoa3
import Derived.Shelf.Strings.Search1
import Derived.Shelf.Strings.Search2
import Derived.Shelf.Strings.Search3
import Derived.Shelf.Strings.Shaped
import Derived.Shelf.Strings.Prefix
import Derived.Shelf.Strings.Fields
import Derived.Shelf.Strings.SplitShaped
import Derived.Shelf.Unicode.Latin
import Derived.Shelf.Unicode.Is16White
import Derived.Shelf.Unicode.IsSpaceAny
import Derived.Shelf.Unicode.Is16WhiteD
import Derived.Shelf.Unicode.IsSpaceAnyD
import Derived.Shelf.Unicode.Is16Any
import Derived.Shelf.Unicode.Is32Any
import Derived.Shelf.Unicode.ExclAny
import Derived.Shelf.Slices.Turned
import Derived.Test.YtnhifhlbelogcaaDoorProg
namespace Go.Proofs
open Go.Shelf Go.RowKit Go.Sort Go.Lib
def Tryd.lays137_ren:Go.Shelf.Ren:=⟨fun | 137=>52 | 217=>71 | 266=>85 | n=>n,fun | 9=>9 | 5=>5 | 3=>3 | n=>n,fun | n=>n⟩
theorem Tryd.lays137:Go.Proofs.Lays.n137 Tryd.prog Tryd.lays137_ren:={
 mixed:=by kernel_rfl
 f137:=Tryd.func52.trans (congrArg some (by kernel_rfl))
 f217:=Tryd.func71.trans (congrArg some (by kernel_rfl))
 f266:=Tryd.func85.trans (congrArg some (by kernel_rfl))
 t3:=Tryd.underlying3
 a3:=Tryd.isAgg3
 z3:=Tryd.sizeOf3
 v3:=Tryd.zeroValue3
 t5:=Tryd.underlying5
 a5:=Tryd.isAgg5
 z5:=Tryd.sizeOf5
 v5:=Tryd.zeroValue5
 t9:=Tryd.underlying9
 a9:=Tryd.isAgg9
 z9:=Tryd.sizeOf9
 v9:=Tryd.zeroValue9 }
theorem Tryd.strings_IndexByte (s:ByteArray) (c:Int) (w:World) :
 Calls Tryd.prog 52 #[.string s,.int .u8 c] w fun e w'=>e = .returned (.int .i64 (Lib.indexByte s.data.toList c.toNat.toUInt8))∧w'=w:=Any.strings_IndexByte Tryd.lays137 s c w
def Tryd.lays143_ren:Go.Shelf.Ren:=⟨fun | 143=>32 | 219=>53 | 217=>71 | 225=>72 | 224=>73 | 267=>74 | 266=>85 | 314=>86 | n=>n,fun | 9=>9 | 3=>3 | 4=>4 | 5=>5 | 46=>88 | 146=>94 | 51=>93 | n=>n,fun | 1=>0 | n=>n⟩
theorem Tryd.lays143:Go.Proofs.Lays.n143 Tryd.prog Tryd.lays143_ren:={
 mixed:=by kernel_rfl
 f143:=Tryd.func32.trans (congrArg some (by kernel_rfl))
 f217:=Tryd.func71.trans (congrArg some (by kernel_rfl))
 f219:=Tryd.func53.trans (congrArg some (by kernel_rfl))
 f224:=Tryd.func73.trans (congrArg some (by kernel_rfl))
 f225:=Tryd.func72.trans (congrArg some (by kernel_rfl))
 f266:=Tryd.func85.trans (congrArg some (by kernel_rfl))
 f267:=Tryd.func74.trans (congrArg some (by kernel_rfl))
 f314:=Tryd.func86.trans (congrArg some (by kernel_rfl))
 t3:=Tryd.underlying3
 a3:=Tryd.isAgg3
 z3:=Tryd.sizeOf3
 v3:=Tryd.zeroValue3
 t4:=Tryd.underlying4
 a4:=Tryd.isAgg4
 z4:=Tryd.sizeOf4
 v4:=Tryd.zeroValue4
 t5:=Tryd.underlying5
 a5:=Tryd.isAgg5
 z5:=Tryd.sizeOf5
 v5:=Tryd.zeroValue5
 t9:=Tryd.underlying9
 a9:=Tryd.isAgg9
 z9:=Tryd.sizeOf9
 v9:=Tryd.zeroValue9
 t46:=Tryd.underlying88
 a46:=Tryd.isAgg88
 z46:=Tryd.sizeOf88
 v46:=Tryd.zeroValue88
 t51:=Tryd.underlying93
 a51:=Tryd.isAgg93
 z51:=Tryd.sizeOf93
 v51:=Tryd.zeroValue93
 t146:=Tryd.underlying94
 a146:=Tryd.isAgg94
 z146:=Tryd.sizeOf94
 v146:=Tryd.zeroValue94
 g1:=by kernel_rfl }
theorem Tryd.strings_Index (s sub:ByteArray) (m:Int) (w:World) (hs:s.size < 4294967281) (hm:w.cell? ⟨0,0,none⟩=some (.int .i64 m)) :
 Calls Tryd.prog 32 #[.string s,.string sub] w fun e w'=>e = .returned (.int .i64 (Lib.index s.data.toList sub.data.toList))∧w'=w:=Any.strings_Index Tryd.lays143 s sub m w hs hm
def Tryd.laysM157_ren:Go.Shelf.Ren:=⟨fun | 157=>55 | 229=>75 | 199=>76 | 261=>87 | 311=>93 | 312=>94 | n=>n,fun | 9=>9 | 31=>70 | 3=>3 | 5=>5 | 4=>4 | 119=>89 | 0=>0 | 40=>91 | 152=>96 | 21=>21 | 154=>98 | 51=>93 | 141=>100 | 196=>110 | 193=>107 | 198=>113 | 49=>111 | 194=>108 | 201=>116 | 226=>123 | 46=>88 | 227=>124 | n=>n,fun | 0=>1 | 6=>2 | n=>n⟩
theorem Tryd.laysM157:Go.Proofs.LaysM.n157 Tryd.prog Tryd.laysM157_ren:={
 mixed:=by kernel_rfl
 f157:=Tryd.func55.trans (congrArg some (by kernel_rfl))
 f199:=Tryd.func76.trans (congrArg some (by kernel_rfl))
 f229:=Tryd.func75.trans (congrArg some (by kernel_rfl))
 f261:=Tryd.func87.trans (congrArg some (by kernel_rfl))
 f311:=Tryd.func93.trans (congrArg some (by kernel_rfl))
 f312:=Tryd.func94.trans (congrArg some (by kernel_rfl))
 t0:=Tryd.underlying0
 a0:=Tryd.isAgg0
 z0:=Tryd.sizeOf0
 v0:=Tryd.zeroValue0
 t3:=Tryd.underlying3
 a3:=Tryd.isAgg3
 z3:=Tryd.sizeOf3
 v3:=Tryd.zeroValue3
 t4:=Tryd.underlying4
 a4:=Tryd.isAgg4
 z4:=Tryd.sizeOf4
 v4:=Tryd.zeroValue4
 t5:=Tryd.underlying5
 a5:=Tryd.isAgg5
 z5:=Tryd.sizeOf5
 v5:=Tryd.zeroValue5
 t9:=Tryd.underlying9
 a9:=Tryd.isAgg9
 z9:=Tryd.sizeOf9
 v9:=Tryd.zeroValue9
 t21:=Tryd.underlying21
 a21:=Tryd.isAgg21
 z21:=Tryd.sizeOf21
 v21:=Tryd.zeroValue21
 t31:=Tryd.underlying70
 a31:=Tryd.isAgg70
 z31:=Tryd.sizeOf70
 v31:=Tryd.zeroValue70
 t40:=Tryd.underlying91
 a40:=Tryd.isAgg91
 z40:=Tryd.sizeOf91
 v40:=Tryd.zeroValue91
 t46:=Tryd.underlying88
 a46:=Tryd.isAgg88
 z46:=Tryd.sizeOf88
 v46:=Tryd.zeroValue88
 t49:=Tryd.underlying111
 a49:=Tryd.isAgg111
 z49:=Tryd.sizeOf111
 v49:=Tryd.zeroValue111
 t51:=Tryd.underlying93
 a51:=Tryd.isAgg93
 z51:=Tryd.sizeOf93
 v51:=Tryd.zeroValue93
 t119:=Tryd.underlying89
 a119:=Tryd.isAgg89
 z119:=Tryd.sizeOf89
 t141:=Tryd.underlying100
 a141:=Tryd.isAgg100
 z141:=Tryd.sizeOf100
 v141:=Tryd.zeroValue100
 t152:=Tryd.underlying96
 a152:=Tryd.isAgg96
 z152:=Tryd.sizeOf96
 v152:=Tryd.zeroValue96
 t154:=Tryd.underlying98
 a154:=Tryd.isAgg98
 z154:=Tryd.sizeOf98
 v154:=Tryd.zeroValue98
 t193:=Tryd.underlying107
 a193:=Tryd.isAgg107
 z193:=Tryd.sizeOf107
 v193:=Tryd.zeroValue107
 t194:=Tryd.underlying108
 a194:=Tryd.isAgg108
 z194:=Tryd.sizeOf108
 v194:=Tryd.zeroValue108
 t196:=Tryd.underlying110
 a196:=Tryd.isAgg110
 z196:=Tryd.sizeOf110
 v196:=Tryd.zeroValue110
 t198:=Tryd.underlying113
 a198:=Tryd.isAgg113
 z198:=Tryd.sizeOf113
 v198:=Tryd.zeroValue113
 t201:=Tryd.underlying116
 a201:=Tryd.isAgg116
 z201:=Tryd.sizeOf116
 v201:=Tryd.zeroValue116
 t226:=Tryd.underlying123
 a226:=Tryd.isAgg123
 z226:=Tryd.sizeOf123
 v226:=Tryd.zeroValue123
 t227:=Tryd.underlying124
 a227:=Tryd.isAgg124
 z227:=Tryd.sizeOf124
 v227:=Tryd.zeroValue124
 g0:=by kernel_rfl
 g6:=by kernel_rfl
 i0:=by kernel_rfl
 i3:=by kernel_rfl
 i4:=by kernel_rfl
 i5:=by kernel_rfl
 i9:=by kernel_rfl
 i21:=by kernel_rfl
 i31:=by kernel_rfl
 i40:=by kernel_rfl
 i46:=by kernel_rfl
 i49:=by kernel_rfl
 i51:=by kernel_rfl
 i141:=by kernel_rfl
 i152:=by kernel_rfl
 i154:=by kernel_rfl
 i193:=by kernel_rfl
 i194:=by kernel_rfl
 i196:=by kernel_rfl
 i198:=by kernel_rfl
 i201:=by kernel_rfl
 i226:=by kernel_rfl
 i227:=by kernel_rfl
 m0:=by kernel_rfl
 m6:=by kernel_rfl }
theorem Tryd.strings_Fields_laid (s : ByteArray) (w : World) (hs : s.size < 4294967281) (hascii : ∀ (j : Nat) b, s.data.toList[j]? = some b → b.toNat < 128) (htab : Lib.TabIs Tryd.prog w "strings.asciiSpace" .u8 Lib.asciiSpaceTab) :
 Calls Tryd.prog 55 #[.string s] w fun e w' =>
  e = .returned (.slice (some ⟨w.heap.size,0,none⟩) (Lib.fields s.data.toList).length (Lib.fields s.data.toList).length)∧w'=w.alloc (.cells ((Lib.fields s.data.toList).map fun l=>Value.string ⟨l.toArray⟩).toArray 9):=Any.strings_Fields_laid Tryd.laysM157 s w hs hascii htab
def Tryd.laysM171_ren:Go.Shelf.Ren:=⟨fun | 171=>37 | 243=>58 | 246=>78 | 283=>88 | 284=>89 | 285=>90 | 286=>91 | 129=>96 | 317=>95 | 318=>97 | 319=>98 | 320=>99 | 337=>100 | 338=>101 | n=>n,fun | 3=>3 | 9=>9 | 2=>2 | 4=>4 | 171=>101 | 0=>0 | 53=>102 | 37=>43 | 5=>5 | 173=>105 | 212=>119 | 51=>93 | 20=>20 | 213=>120 | 46=>88 | 232=>126 | 233=>127 | n=>n,fun | 17=>3 | 18=>4 | 19=>5 | n=>n⟩
theorem Tryd.laysM171:Go.Proofs.LaysM.n171 Tryd.prog Tryd.laysM171_ren:={
 mixed:=by kernel_rfl
 f129:=Tryd.func96.trans (congrArg some (by kernel_rfl))
 f171:=Tryd.func37.trans (congrArg some (by kernel_rfl))
 f243:=Tryd.func58.trans (congrArg some (by kernel_rfl))
 f246:=Tryd.func78.trans (congrArg some (by kernel_rfl))
 f283:=Tryd.func88.trans (congrArg some (by kernel_rfl))
 f284:=Tryd.func89.trans (congrArg some (by kernel_rfl))
 f285:=Tryd.func90.trans (congrArg some (by kernel_rfl))
 f286:=Tryd.func91.trans (congrArg some (by kernel_rfl))
 f317:=Tryd.func95.trans (congrArg some (by kernel_rfl))
 f318:=Tryd.func97.trans (congrArg some (by kernel_rfl))
 f319:=Tryd.func98.trans (congrArg some (by kernel_rfl))
 f320:=Tryd.func99.trans (congrArg some (by kernel_rfl))
 f337:=Tryd.func100.trans (congrArg some (by kernel_rfl))
 f338:=Tryd.func101.trans (congrArg some (by kernel_rfl))
 t0:=Tryd.underlying0
 a0:=Tryd.isAgg0
 z0:=Tryd.sizeOf0
 v0:=Tryd.zeroValue0
 t2:=Tryd.underlying2
 a2:=Tryd.isAgg2
 z2:=Tryd.sizeOf2
 v2:=Tryd.zeroValue2
 t3:=Tryd.underlying3
 a3:=Tryd.isAgg3
 z3:=Tryd.sizeOf3
 v3:=Tryd.zeroValue3
 t4:=Tryd.underlying4
 a4:=Tryd.isAgg4
 z4:=Tryd.sizeOf4
 v4:=Tryd.zeroValue4
 t5:=Tryd.underlying5
 a5:=Tryd.isAgg5
 z5:=Tryd.sizeOf5
 v5:=Tryd.zeroValue5
 t9:=Tryd.underlying9
 a9:=Tryd.isAgg9
 z9:=Tryd.sizeOf9
 v9:=Tryd.zeroValue9
 t20:=Tryd.underlying20
 a20:=Tryd.isAgg20
 z20:=Tryd.sizeOf20
 v20:=Tryd.zeroValue20
 t37:=Tryd.underlying43
 a37:=Tryd.isAgg43
 z37:=Tryd.sizeOf43
 v37:=Tryd.zeroValue43
 t46:=Tryd.underlying88
 a46:=Tryd.isAgg88
 z46:=Tryd.sizeOf88
 v46:=Tryd.zeroValue88
 t51:=Tryd.underlying93
 a51:=Tryd.isAgg93
 z51:=Tryd.sizeOf93
 v51:=Tryd.zeroValue93
 t53:=Tryd.underlying102
 a53:=Tryd.isAgg102
 z53:=Tryd.sizeOf102
 v53:=Tryd.zeroValue102
 t171:=Tryd.underlying101
 a171:=Tryd.isAgg101
 z171:=Tryd.sizeOf101
 v171:=Tryd.zeroValue101
 t173:=Tryd.underlying105
 a173:=Tryd.isAgg105
 z173:=Tryd.sizeOf105
 v173:=Tryd.zeroValue105
 t212:=Tryd.underlying119
 a212:=Tryd.isAgg119
 z212:=Tryd.sizeOf119
 v212:=Tryd.zeroValue119
 t213:=Tryd.underlying120
 a213:=Tryd.isAgg120
 z213:=Tryd.sizeOf120
 t232:=Tryd.underlying126
 a232:=Tryd.isAgg126
 z232:=Tryd.sizeOf126
 v232:=Tryd.zeroValue126
 t233:=Tryd.underlying127
 a233:=Tryd.isAgg127
 z233:=Tryd.sizeOf127
 v233:=Tryd.zeroValue127
 g17:=by kernel_rfl
 g18:=by kernel_rfl
 g19:=by kernel_rfl
 i0:=by kernel_rfl
 i2:=by kernel_rfl
 i3:=by kernel_rfl
 i4:=by kernel_rfl
 i5:=by kernel_rfl
 i9:=by kernel_rfl
 i20:=by kernel_rfl
 i37:=by kernel_rfl
 i46:=by kernel_rfl
 i51:=by kernel_rfl
 i53:=by kernel_rfl
 i171:=by kernel_rfl
 i173:=by kernel_rfl
 i212:=by kernel_rfl
 i232:=by kernel_rfl
 i233:=by kernel_rfl
 m17:=by kernel_rfl
 m18:=by kernel_rfl
 m19:=by kernel_rfl }
theorem Tryd.strconv_Itoa (n : Int) (h0 : -9223372036854775808 ≤ n) (h1 : n ≤ 9223372036854775807) (w : World) (htab : Lib.TabIs Tryd.prog w "internal/strconv.uint64pow10" .u64 Lib.pow10Tab) :
 Calls Tryd.prog 37 #[.int .i64 n] w fun e w'=>e = .returned (.string ⟨(Lib.itoa n).toArray⟩)∧∃ k os,w'=grow (w.drewN k) os:=Any.strconv_Itoa Tryd.laysM171 n h0 h1 w htab
end Go.Proofs
