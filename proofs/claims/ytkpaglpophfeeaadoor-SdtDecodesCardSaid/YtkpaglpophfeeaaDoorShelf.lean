/- Contracts of three functions of Go's library at this program, laid by the kit's shelf. -/
import Derived.Shelf.Strings.Builder1
import Derived.Shelf.Strings.Builder2
import Derived.Shelf.Strings.Trim
import Derived.Shelf.Small.Utf8
import Derived.Shelf.Small.Strs
import Derived.Shelf.Strings.BuilderF
import Derived.Shelf.Strings.BuilderK
import Derived.Shelf.Strings.Builder2Cap
import Derived.Shelf.Strings.Search1
import Derived.Shelf.Strings.Prefix
import Derived.Shelf.Unicode.Decode
import Derived.Shelf.Strings.Runes
import Derived.Shelf.Strings.AsciiSet
import Derived.Shelf.Bits.Mul64
import Derived.Shelf.Strings.Repeat
import Derived.Shelf.Unicode.DecodeSlow
import Derived.Shelf.Unicode.DecodeAny
import Derived.Shelf.Unicode.DecodeLast
import Derived.Test.YtkpaglpophfeeaaDoorProg
namespace Go.Proofs
open Go.Shelf
def Tryd.lays162_ren : Go.Shelf.Ren := ⟨fun | 162 => 31 | 232 => 43 | 227 => 44 | 234 => 45 | 236 => 46 | 228 => 54 | 271 => 55 | 151 => 56 | 120 => 59 | 197 => 60 | 152 => 61 | 260 => 62 | 137 => 63 | 119 => 64 | 224 => 65 | 225 => 66 | 217 => 67 | 266 => 68 | n => n, fun | 9 => 9 | 4 => 4 | 3 => 3 | 5 => 5 | 117 => 69 | 116 => 68 | 0 => 0 | 124 => 72 | 21 => 21 | 105 => 81 | 46 => 52 | 119 => 92 | 139 => 95 | 138 => 94 | n => n, fun | 3 => 1 | 4 => 2 | n => n⟩
theorem Tryd.lays162 : Go.Proofs.Lays.n162 Tryd.prog Tryd.lays162_ren := {
  mixed := by kernel_rfl
  f119 := Tryd.func64.trans (congrArg some (by kernel_rfl))
  f120 := Tryd.func59.trans (congrArg some (by kernel_rfl))
  f137 := Tryd.func63.trans (congrArg some (by kernel_rfl))
  f151 := Tryd.func56.trans (congrArg some (by kernel_rfl))
  f152 := Tryd.func61.trans (congrArg some (by kernel_rfl))
  f162 := Tryd.func31.trans (congrArg some (by kernel_rfl))
  f197 := Tryd.func60.trans (congrArg some (by kernel_rfl))
  f217 := Tryd.func67.trans (congrArg some (by kernel_rfl))
  f224 := Tryd.func65.trans (congrArg some (by kernel_rfl))
  f225 := Tryd.func66.trans (congrArg some (by kernel_rfl))
  f227 := Tryd.func44.trans (congrArg some (by kernel_rfl))
  f228 := Tryd.func54.trans (congrArg some (by kernel_rfl))
  f232 := Tryd.func43.trans (congrArg some (by kernel_rfl))
  f234 := Tryd.func45.trans (congrArg some (by kernel_rfl))
  f236 := Tryd.func46.trans (congrArg some (by kernel_rfl))
  f260 := Tryd.func62.trans (congrArg some (by kernel_rfl))
  f266 := Tryd.func68.trans (congrArg some (by kernel_rfl))
  f271 := Tryd.func55.trans (congrArg some (by kernel_rfl))
  t0 := Tryd.underlying0
  a0 := Tryd.isAgg0
  z0 := Tryd.sizeOf0
  v0 := Tryd.zeroValue0
  t3 := Tryd.underlying3
  a3 := Tryd.isAgg3
  z3 := Tryd.sizeOf3
  v3 := Tryd.zeroValue3
  t4 := Tryd.underlying4
  a4 := Tryd.isAgg4
  z4 := Tryd.sizeOf4
  v4 := Tryd.zeroValue4
  t5 := Tryd.underlying5
  a5 := Tryd.isAgg5
  z5 := Tryd.sizeOf5
  v5 := Tryd.zeroValue5
  t9 := Tryd.underlying9
  a9 := Tryd.isAgg9
  z9 := Tryd.sizeOf9
  v9 := Tryd.zeroValue9
  t21 := Tryd.underlying21
  a21 := Tryd.isAgg21
  z21 := Tryd.sizeOf21
  v21 := Tryd.zeroValue21
  t46 := Tryd.underlying52
  a46 := Tryd.isAgg52
  z46 := Tryd.sizeOf52
  v46 := Tryd.zeroValue52
  t105 := Tryd.underlying81
  a105 := Tryd.isAgg81
  z105 := Tryd.sizeOf81
  v105 := Tryd.zeroValue81
  t116 := Tryd.underlying68
  a116 := Tryd.isAgg68
  z116 := Tryd.sizeOf68
  t117 := Tryd.underlying69
  a117 := Tryd.isAgg69
  z117 := Tryd.sizeOf69
  v117 := Tryd.zeroValue69
  t119 := Tryd.underlying92
  a119 := Tryd.isAgg92
  z119 := Tryd.sizeOf92
  t124 := Tryd.underlying72
  a124 := Tryd.isAgg72
  z124 := Tryd.sizeOf72
  v124 := Tryd.zeroValue72
  t138 := Tryd.underlying94
  a138 := Tryd.isAgg94
  z138 := Tryd.sizeOf94
  v138 := Tryd.zeroValue94
  t139 := Tryd.underlying95
  a139 := Tryd.isAgg95
  z139 := Tryd.sizeOf95
  v139 := Tryd.zeroValue95
  g3 := by kernel_rfl
  g4 := by kernel_rfl }
open Go.RowKit in
theorem Tryd.strings_TrimRight_one (s : ByteArray) (c : UInt8) (hc : c.toNat < 128) (w : World) (hs : s.size ≤ 9223372036854775807) :
    Calls Tryd.prog 31 #[.string s, .string ⟨#[c]⟩] w fun e w' => e = .returned (.string ⟨(Lib.trimRightB s.data.toList c).toArray⟩) ∧ w' = w := Any.strings_TrimRight_one Tryd.lays162 s c hc w hs
def Tryd.lays105_ren : Go.Shelf.Ren := ⟨fun | 105 => 28 | 212 => 37 | 99 => 38 | 165 => 39 | 166 => 40 | 170 => 41 | 169 => 42 | 263 => 49 | 264 => 50 | 206 => 51 | 240 => 52 | 241 => 53 | 276 => 57 | 277 => 58 | n => n, fun | 9 => 9 | 3 => 3 | 4 => 4 | 20 => 20 | 0 => 0 | 46 => 52 | 109 => 54 | 5 => 5 | 72 => 58 | 76 => 62 | 51 => 73 | 146 => 74 | 53 => 76 | 148 => 77 | 70 => 56 | 37 => 35 | 75 => 61 | 127 => 79 | 164 => 84 | 80 => 65 | n => n, fun | n => n⟩
theorem Tryd.lays105 : Go.Proofs.Lays.n105 Tryd.prog Tryd.lays105_ren := {
  mixed := by kernel_rfl
  f99 := Tryd.func38.trans (congrArg some (by kernel_rfl))
  f105 := Tryd.func28.trans (congrArg some (by kernel_rfl))
  f165 := Tryd.func39.trans (congrArg some (by kernel_rfl))
  f166 := Tryd.func40.trans (congrArg some (by kernel_rfl))
  f169 := Tryd.func42.trans (congrArg some (by kernel_rfl))
  f170 := Tryd.func41.trans (congrArg some (by kernel_rfl))
  f206 := Tryd.func51.trans (congrArg some (by kernel_rfl))
  f212 := Tryd.func37.trans (congrArg some (by kernel_rfl))
  f240 := Tryd.func52.trans (congrArg some (by kernel_rfl))
  f241 := Tryd.func53.trans (congrArg some (by kernel_rfl))
  f263 := Tryd.func49.trans (congrArg some (by kernel_rfl))
  f264 := Tryd.func50.trans (congrArg some (by kernel_rfl))
  f276 := Tryd.func57.trans (congrArg some (by kernel_rfl))
  f277 := Tryd.func58.trans (congrArg some (by kernel_rfl))
  t0 := Tryd.underlying0
  a0 := Tryd.isAgg0
  z0 := Tryd.sizeOf0
  v0 := Tryd.zeroValue0
  t3 := Tryd.underlying3
  a3 := Tryd.isAgg3
  z3 := Tryd.sizeOf3
  v3 := Tryd.zeroValue3
  t4 := Tryd.underlying4
  a4 := Tryd.isAgg4
  z4 := Tryd.sizeOf4
  v4 := Tryd.zeroValue4
  t5 := Tryd.underlying5
  a5 := Tryd.isAgg5
  z5 := Tryd.sizeOf5
  v5 := Tryd.zeroValue5
  t9 := Tryd.underlying9
  a9 := Tryd.isAgg9
  z9 := Tryd.sizeOf9
  v9 := Tryd.zeroValue9
  t20 := Tryd.underlying20
  a20 := Tryd.isAgg20
  z20 := Tryd.sizeOf20
  v20 := Tryd.zeroValue20
  t37 := Tryd.underlying35
  a37 := Tryd.isAgg35
  z37 := Tryd.sizeOf35
  v37 := Tryd.zeroValue35
  t46 := Tryd.underlying52
  a46 := Tryd.isAgg52
  z46 := Tryd.sizeOf52
  v46 := Tryd.zeroValue52
  t51 := Tryd.underlying73
  a51 := Tryd.isAgg73
  z51 := Tryd.sizeOf73
  v51 := Tryd.zeroValue73
  t53 := Tryd.underlying76
  a53 := Tryd.isAgg76
  z53 := Tryd.sizeOf76
  v53 := Tryd.zeroValue76
  t70 := Tryd.underlying56
  a70 := Tryd.isAgg56
  z70 := Tryd.sizeOf56
  v70 := Tryd.zeroValue56
  t72 := Tryd.underlying58
  a72 := Tryd.isAgg58
  z72 := Tryd.sizeOf58
  v72 := Tryd.zeroValue58
  t75 := Tryd.underlying61
  a75 := Tryd.isAgg61
  z75 := Tryd.sizeOf61
  v75 := Tryd.zeroValue61
  t76 := Tryd.underlying62
  a76 := Tryd.isAgg62
  z76 := Tryd.sizeOf62
  v76 := Tryd.zeroValue62
  t109 := Tryd.underlying54
  a109 := Tryd.isAgg54
  z109 := Tryd.sizeOf54
  v109 := Tryd.zeroValue54
  t127 := Tryd.underlying79
  a127 := Tryd.isAgg79
  z127 := Tryd.sizeOf79
  v127 := Tryd.zeroValue79
  t146 := Tryd.underlying74
  a146 := Tryd.isAgg74
  z146 := Tryd.sizeOf74
  v146 := Tryd.zeroValue74
  t148 := Tryd.underlying77
  a148 := Tryd.isAgg77
  z148 := Tryd.sizeOf77
  v148 := Tryd.zeroValue77
  t164 := Tryd.underlying84
  a164 := Tryd.isAgg84
  z164 := Tryd.sizeOf84
  v164 := Tryd.zeroValue84 }
theorem Tryd.Builder_Extra_105 : Builder.Extra Tryd.prog Tryd.lays105_ren := {
  sizeBuilder := by kernel_rfl
  liesBuilder := by kernel_rfl
  t5 := Tryd.underlying5
  a5 := Tryd.isAgg5
  z5 := Tryd.sizeOf5
  v5 := Tryd.zeroValue5
  infoByte := by kernel_rfl
  cellsByte := by kernel_rfl
  sizeByte := by kernel_rfl
  neB5 := by decide }
open Go.RowKit Go.Lib in
theorem Tryd.strings_Repeat (s : ByteArray) (c : Nat) (w : World) (hc : c ≤ 9223372036854775807) (hlen : s.size * c ≤ 140737488355328) :
    Calls Tryd.prog 28 #[.string s, .int .i64 c] w fun e w' => e = .returned (.string ⟨(Lib.repeatL s.data.toList c).toArray⟩) ∧ Below w.heap.size w w' := Any.strings_Repeat Tryd.lays105 Tryd.Builder_Extra_105 s c w hc hlen
end Go.Proofs
