/- The library's contracts at this program, laid by the kit's tool in plain words. -/
import Derived.Shelf.Small.Strs
import Derived.Shelf.Small.Wraps
import Derived.Shelf.Strconv.Itoa0
import Derived.Shelf.Strconv.Itoa1
import Derived.Shelf.LaysM
import Derived.Shelf.Strconv.Itoa2
import Derived.Shelf.Strconv.Itoa3
import Derived.Shelf.Strings.Search1
import Derived.Shelf.Strings.Search2
import Derived.Shelf.Strings.Search3
import Derived.Shelf.Strings.Shaped
import Derived.Shelf.Strings.Prefix
import Derived.Shelf.Strings.Fields
import Derived.Shelf.Strings.SplitShaped
import Derived.Shelf.Unicode.Latin
import Derived.Shelf.Unicode.Is16White
import Derived.Shelf.Unicode.IsSpaceAny
import Derived.Shelf.Unicode.Is16WhiteD
import Derived.Shelf.Unicode.IsSpaceAnyD
import Derived.Shelf.Unicode.Is16Any
import Derived.Shelf.Unicode.Is32Any
import Derived.Shelf.Unicode.ExclAny
import Derived.Shelf.Slices.Turned
import Derived.Test.YtnhifhlbelogcaaGreatDoorProg
namespace Go.Proofs
open Go.Shelf Go.RowKit Go.Sort Go.Lib
def Tryz.lays137_ren:Go.Shelf.Ren:=⟨fun | 137=>95 | 217=>129 | 266=>145 | n=>n,fun | 9=>9 | 5=>5 | 3=>3 | n=>n,fun | n=>n⟩
theorem Tryz.lays137:Go.Proofs.Lays.n137 Tryz.prog Tryz.lays137_ren:={
 mixed:=by kernel_rfl
 f137:=Tryz.func95.trans (congrArg some (by kernel_rfl))
 f217:=Tryz.func129.trans (congrArg some (by kernel_rfl))
 f266:=Tryz.func145.trans (congrArg some (by kernel_rfl))
 t3:=Tryz.underlying3
 a3:=Tryz.isAgg3
 z3:=Tryz.sizeOf3
 v3:=Tryz.zeroValue3
 t5:=Tryz.underlying5
 a5:=Tryz.isAgg5
 z5:=Tryz.sizeOf5
 v5:=Tryz.zeroValue5
 t9:=Tryz.underlying9
 a9:=Tryz.isAgg9
 z9:=Tryz.sizeOf9
 v9:=Tryz.zeroValue9 }
theorem Tryz.strings_IndexByte (s:ByteArray) (c:Int) (w:World) :
 Calls Tryz.prog 95 #[.string s,.int .u8 c] w fun e w'=>e = .returned (.int .i64 (Lib.indexByte s.data.toList c.toNat.toUInt8))∧w'=w:=Any.strings_IndexByte Tryz.lays137 s c w
def Tryz.lays143_ren:Go.Shelf.Ren:=⟨fun | 143=>52 | 219=>96 | 217=>129 | 225=>130 | 224=>131 | 267=>132 | 266=>145 | 314=>146 | n=>n,fun | 9=>9 | 3=>3 | 4=>4 | 5=>5 | 46=>109 | 146=>115 | 51=>114 | n=>n,fun | 1=>0 | n=>n⟩
theorem Tryz.lays143:Go.Proofs.Lays.n143 Tryz.prog Tryz.lays143_ren:={
 mixed:=by kernel_rfl
 f143:=Tryz.func52.trans (congrArg some (by kernel_rfl))
 f217:=Tryz.func129.trans (congrArg some (by kernel_rfl))
 f219:=Tryz.func96.trans (congrArg some (by kernel_rfl))
 f224:=Tryz.func131.trans (congrArg some (by kernel_rfl))
 f225:=Tryz.func130.trans (congrArg some (by kernel_rfl))
 f266:=Tryz.func145.trans (congrArg some (by kernel_rfl))
 f267:=Tryz.func132.trans (congrArg some (by kernel_rfl))
 f314:=Tryz.func146.trans (congrArg some (by kernel_rfl))
 t3:=Tryz.underlying3
 a3:=Tryz.isAgg3
 z3:=Tryz.sizeOf3
 v3:=Tryz.zeroValue3
 t4:=Tryz.underlying4
 a4:=Tryz.isAgg4
 z4:=Tryz.sizeOf4
 v4:=Tryz.zeroValue4
 t5:=Tryz.underlying5
 a5:=Tryz.isAgg5
 z5:=Tryz.sizeOf5
 v5:=Tryz.zeroValue5
 t9:=Tryz.underlying9
 a9:=Tryz.isAgg9
 z9:=Tryz.sizeOf9
 v9:=Tryz.zeroValue9
 t46:=Tryz.underlying109
 a46:=Tryz.isAgg109
 z46:=Tryz.sizeOf109
 v46:=Tryz.zeroValue109
 t51:=Tryz.underlying114
 a51:=Tryz.isAgg114
 z51:=Tryz.sizeOf114
 v51:=Tryz.zeroValue114
 t146:=Tryz.underlying115
 a146:=Tryz.isAgg115
 z146:=Tryz.sizeOf115
 v146:=Tryz.zeroValue115
 g1:=by kernel_rfl }
theorem Tryz.strings_Index (s sub:ByteArray) (m:Int) (w:World) (hs:s.size < 4294967281) (hm:w.cell? ⟨0,0,none⟩=some (.int .i64 m)) :
 Calls Tryz.prog 52 #[.string s,.string sub] w fun e w'=>e = .returned (.int .i64 (Lib.index s.data.toList sub.data.toList))∧w'=w:=Any.strings_Index Tryz.lays143 s sub m w hs hm
def Tryz.laysM157_ren:Go.Shelf.Ren:=⟨fun | 157=>98 | 229=>133 | 199=>134 | 261=>147 | 311=>150 | 312=>151 | n=>n,fun | 9=>9 | 31=>25 | 3=>3 | 5=>5 | 4=>4 | 119=>110 | 0=>0 | 40=>112 | 152=>117 | 21=>21 | 154=>119 | 51=>114 | 141=>121 | 196=>126 | 193=>123 | 198=>129 | 49=>127 | 194=>124 | 201=>132 | 226=>140 | 46=>109 | 227=>141 | n=>n,fun | 0=>1 | 6=>2 | n=>n⟩
theorem Tryz.laysM157:Go.Proofs.LaysM.n157 Tryz.prog Tryz.laysM157_ren:={
 mixed:=by kernel_rfl
 f157:=Tryz.func98.trans (congrArg some (by kernel_rfl))
 f199:=Tryz.func134.trans (congrArg some (by kernel_rfl))
 f229:=Tryz.func133.trans (congrArg some (by kernel_rfl))
 f261:=Tryz.func147.trans (congrArg some (by kernel_rfl))
 f311:=Tryz.func150.trans (congrArg some (by kernel_rfl))
 f312:=Tryz.func151.trans (congrArg some (by kernel_rfl))
 t0:=Tryz.underlying0
 a0:=Tryz.isAgg0
 z0:=Tryz.sizeOf0
 v0:=Tryz.zeroValue0
 t3:=Tryz.underlying3
 a3:=Tryz.isAgg3
 z3:=Tryz.sizeOf3
 v3:=Tryz.zeroValue3
 t4:=Tryz.underlying4
 a4:=Tryz.isAgg4
 z4:=Tryz.sizeOf4
 v4:=Tryz.zeroValue4
 t5:=Tryz.underlying5
 a5:=Tryz.isAgg5
 z5:=Tryz.sizeOf5
 v5:=Tryz.zeroValue5
 t9:=Tryz.underlying9
 a9:=Tryz.isAgg9
 z9:=Tryz.sizeOf9
 v9:=Tryz.zeroValue9
 t21:=Tryz.underlying21
 a21:=Tryz.isAgg21
 z21:=Tryz.sizeOf21
 v21:=Tryz.zeroValue21
 t31:=Tryz.underlying25
 a31:=Tryz.isAgg25
 z31:=Tryz.sizeOf25
 v31:=Tryz.zeroValue25
 t40:=Tryz.underlying112
 a40:=Tryz.isAgg112
 z40:=Tryz.sizeOf112
 v40:=Tryz.zeroValue112
 t46:=Tryz.underlying109
 a46:=Tryz.isAgg109
 z46:=Tryz.sizeOf109
 v46:=Tryz.zeroValue109
 t49:=Tryz.underlying127
 a49:=Tryz.isAgg127
 z49:=Tryz.sizeOf127
 v49:=Tryz.zeroValue127
 t51:=Tryz.underlying114
 a51:=Tryz.isAgg114
 z51:=Tryz.sizeOf114
 v51:=Tryz.zeroValue114
 t119:=Tryz.underlying110
 a119:=Tryz.isAgg110
 z119:=Tryz.sizeOf110
 t141:=Tryz.underlying121
 a141:=Tryz.isAgg121
 z141:=Tryz.sizeOf121
 v141:=Tryz.zeroValue121
 t152:=Tryz.underlying117
 a152:=Tryz.isAgg117
 z152:=Tryz.sizeOf117
 v152:=Tryz.zeroValue117
 t154:=Tryz.underlying119
 a154:=Tryz.isAgg119
 z154:=Tryz.sizeOf119
 v154:=Tryz.zeroValue119
 t193:=Tryz.underlying123
 a193:=Tryz.isAgg123
 z193:=Tryz.sizeOf123
 v193:=Tryz.zeroValue123
 t194:=Tryz.underlying124
 a194:=Tryz.isAgg124
 z194:=Tryz.sizeOf124
 v194:=Tryz.zeroValue124
 t196:=Tryz.underlying126
 a196:=Tryz.isAgg126
 z196:=Tryz.sizeOf126
 v196:=Tryz.zeroValue126
 t198:=Tryz.underlying129
 a198:=Tryz.isAgg129
 z198:=Tryz.sizeOf129
 v198:=Tryz.zeroValue129
 t201:=Tryz.underlying132
 a201:=Tryz.isAgg132
 z201:=Tryz.sizeOf132
 v201:=Tryz.zeroValue132
 t226:=Tryz.underlying140
 a226:=Tryz.isAgg140
 z226:=Tryz.sizeOf140
 v226:=Tryz.zeroValue140
 t227:=Tryz.underlying141
 a227:=Tryz.isAgg141
 z227:=Tryz.sizeOf141
 v227:=Tryz.zeroValue141
 g0:=by kernel_rfl
 g6:=by kernel_rfl
 i0:=by kernel_rfl
 i3:=by kernel_rfl
 i4:=by kernel_rfl
 i5:=by kernel_rfl
 i9:=by kernel_rfl
 i21:=by kernel_rfl
 i31:=by kernel_rfl
 i40:=by kernel_rfl
 i46:=by kernel_rfl
 i49:=by kernel_rfl
 i51:=by kernel_rfl
 i141:=by kernel_rfl
 i152:=by kernel_rfl
 i154:=by kernel_rfl
 i193:=by kernel_rfl
 i194:=by kernel_rfl
 i196:=by kernel_rfl
 i198:=by kernel_rfl
 i201:=by kernel_rfl
 i226:=by kernel_rfl
 i227:=by kernel_rfl
 m0:=by kernel_rfl
 m6:=by kernel_rfl }
theorem Tryz.strings_Fields_laid (s : ByteArray) (w : World) (hs : s.size < 4294967281) (hascii : ∀ (j : Nat) b, s.data.toList[j]? = some b → b.toNat < 128) (htab : Lib.TabIs Tryz.prog w "strings.asciiSpace" .u8 Lib.asciiSpaceTab) :
 Calls Tryz.prog 98 #[.string s] w fun e w' =>
  e = .returned (.slice (some ⟨w.heap.size,0,none⟩) (Lib.fields s.data.toList).length (Lib.fields s.data.toList).length)∧w'=w.alloc (.cells ((Lib.fields s.data.toList).map fun l=>Value.string ⟨l.toArray⟩).toArray 9):=Any.strings_Fields_laid Tryz.laysM157 s w hs hascii htab
def Tryz.laysM171_ren:Go.Shelf.Ren:=⟨fun | 171=>102 | 243=>136 | 246=>148 | 283=>152 | 284=>153 | 285=>154 | 286=>155 | 129=>157 | 317=>156 | 318=>158 | 319=>159 | 320=>160 | 337=>161 | 338=>162 | n=>n,fun | 3=>3 | 9=>9 | 2=>2 | 4=>4 | 171=>134 | 0=>0 | 53=>135 | 37=>64 | 5=>5 | 173=>138 | 212=>143 | 51=>114 | 20=>20 | 213=>144 | 46=>109 | 232=>148 | 233=>149 | n=>n,fun | 17=>3 | 18=>4 | 19=>5 | n=>n⟩
theorem Tryz.laysM171:Go.Proofs.LaysM.n171 Tryz.prog Tryz.laysM171_ren:={
 mixed:=by kernel_rfl
 f129:=Tryz.func157.trans (congrArg some (by kernel_rfl))
 f171:=Tryz.func102.trans (congrArg some (by kernel_rfl))
 f243:=Tryz.func136.trans (congrArg some (by kernel_rfl))
 f246:=Tryz.func148.trans (congrArg some (by kernel_rfl))
 f283:=Tryz.func152.trans (congrArg some (by kernel_rfl))
 f284:=Tryz.func153.trans (congrArg some (by kernel_rfl))
 f285:=Tryz.func154.trans (congrArg some (by kernel_rfl))
 f286:=Tryz.func155.trans (congrArg some (by kernel_rfl))
 f317:=Tryz.func156.trans (congrArg some (by kernel_rfl))
 f318:=Tryz.func158.trans (congrArg some (by kernel_rfl))
 f319:=Tryz.func159.trans (congrArg some (by kernel_rfl))
 f320:=Tryz.func160.trans (congrArg some (by kernel_rfl))
 f337:=Tryz.func161.trans (congrArg some (by kernel_rfl))
 f338:=Tryz.func162.trans (congrArg some (by kernel_rfl))
 t0:=Tryz.underlying0
 a0:=Tryz.isAgg0
 z0:=Tryz.sizeOf0
 v0:=Tryz.zeroValue0
 t2:=Tryz.underlying2
 a2:=Tryz.isAgg2
 z2:=Tryz.sizeOf2
 v2:=Tryz.zeroValue2
 t3:=Tryz.underlying3
 a3:=Tryz.isAgg3
 z3:=Tryz.sizeOf3
 v3:=Tryz.zeroValue3
 t4:=Tryz.underlying4
 a4:=Tryz.isAgg4
 z4:=Tryz.sizeOf4
 v4:=Tryz.zeroValue4
 t5:=Tryz.underlying5
 a5:=Tryz.isAgg5
 z5:=Tryz.sizeOf5
 v5:=Tryz.zeroValue5
 t9:=Tryz.underlying9
 a9:=Tryz.isAgg9
 z9:=Tryz.sizeOf9
 v9:=Tryz.zeroValue9
 t20:=Tryz.underlying20
 a20:=Tryz.isAgg20
 z20:=Tryz.sizeOf20
 v20:=Tryz.zeroValue20
 t37:=Tryz.underlying64
 a37:=Tryz.isAgg64
 z37:=Tryz.sizeOf64
 v37:=Tryz.zeroValue64
 t46:=Tryz.underlying109
 a46:=Tryz.isAgg109
 z46:=Tryz.sizeOf109
 v46:=Tryz.zeroValue109
 t51:=Tryz.underlying114
 a51:=Tryz.isAgg114
 z51:=Tryz.sizeOf114
 v51:=Tryz.zeroValue114
 t53:=Tryz.underlying135
 a53:=Tryz.isAgg135
 z53:=Tryz.sizeOf135
 v53:=Tryz.zeroValue135
 t171:=Tryz.underlying134
 a171:=Tryz.isAgg134
 z171:=Tryz.sizeOf134
 v171:=Tryz.zeroValue134
 t173:=Tryz.underlying138
 a173:=Tryz.isAgg138
 z173:=Tryz.sizeOf138
 v173:=Tryz.zeroValue138
 t212:=Tryz.underlying143
 a212:=Tryz.isAgg143
 z212:=Tryz.sizeOf143
 v212:=Tryz.zeroValue143
 t213:=Tryz.underlying144
 a213:=Tryz.isAgg144
 z213:=Tryz.sizeOf144
 t232:=Tryz.underlying148
 a232:=Tryz.isAgg148
 z232:=Tryz.sizeOf148
 v232:=Tryz.zeroValue148
 t233:=Tryz.underlying149
 a233:=Tryz.isAgg149
 z233:=Tryz.sizeOf149
 v233:=Tryz.zeroValue149
 g17:=by kernel_rfl
 g18:=by kernel_rfl
 g19:=by kernel_rfl
 i0:=by kernel_rfl
 i2:=by kernel_rfl
 i3:=by kernel_rfl
 i4:=by kernel_rfl
 i5:=by kernel_rfl
 i9:=by kernel_rfl
 i20:=by kernel_rfl
 i37:=by kernel_rfl
 i46:=by kernel_rfl
 i51:=by kernel_rfl
 i53:=by kernel_rfl
 i171:=by kernel_rfl
 i173:=by kernel_rfl
 i212:=by kernel_rfl
 i232:=by kernel_rfl
 i233:=by kernel_rfl
 m17:=by kernel_rfl
 m18:=by kernel_rfl
 m19:=by kernel_rfl }
theorem Tryz.strconv_Itoa (n : Int) (h0 : -9223372036854775808 ≤ n) (h1 : n ≤ 9223372036854775807) (w : World) (htab : Lib.TabIs Tryz.prog w "internal/strconv.uint64pow10" .u64 Lib.pow10Tab) :
 Calls Tryz.prog 102 #[.int .i64 n] w fun e w'=>e = .returned (.string ⟨(Lib.itoa n).toArray⟩)∧∃ k os,w'=grow (w.drewN k) os:=Any.strconv_Itoa Tryz.laysM171 n h0 h1 w htab
end Go.Proofs
