/- The contract of strings.Repeat, laid from the library's shelf in plain words. -/
import Derived.Shelf.Strings.Repeat
import Derived.Test.YtfnmbhjifdfibaaProg
namespace Go.Proofs
open Go.Shelf Go.RowKit
def Try.lays105_ren : Go.Shelf.Ren := ⟨fun | 99 => 103 | 105 => 65 | 165 => 104 | 166 => 105 | 169 => 107 | 170 => 106 | 206 => 133 | 212 => 102 | 240 => 134 | 241 => 135 | 263 => 132 | 264 => 87 | 276 => 152 | 277 => 153 | n => n,
  fun | 0 => 0 | 3 => 3 | 4 => 4 | 5 => 5 | 9 => 9 | 20 => 20 | 37 => 127 | 46 => 116 | 51 => 139 | 53 => 100 | 70 => 126 | 72 => 129 | 75 => 132 | 76 => 133 | 80 => 136 | 109 => 123 | 127 => 159 | 146 => 150 | 148 => 109 | 164 => 170 | n => n, fun | n => n⟩
theorem Try.lays105 : Go.Proofs.Lays.n105 Try.prog Try.lays105_ren := {
  mixed := by kernel_rfl
  f99 := Try.func103.trans (congrArg some (by kernel_rfl))
  f105 := Try.func65.trans (congrArg some (by kernel_rfl))
  f165 := Try.func104.trans (congrArg some (by kernel_rfl))
  f166 := Try.func105.trans (congrArg some (by kernel_rfl))
  f169 := Try.func107.trans (congrArg some (by kernel_rfl))
  f170 := Try.func106.trans (congrArg some (by kernel_rfl))
  f206 := Try.func133.trans (congrArg some (by kernel_rfl))
  f212 := Try.func102.trans (congrArg some (by kernel_rfl))
  f240 := Try.func134.trans (congrArg some (by kernel_rfl))
  f241 := Try.func135.trans (congrArg some (by kernel_rfl))
  f263 := Try.func132.trans (congrArg some (by kernel_rfl))
  f264 := Try.func87.trans (congrArg some (by kernel_rfl))
  f276 := Try.func152.trans (congrArg some (by kernel_rfl))
  f277 := Try.func153.trans (congrArg some (by kernel_rfl))
  t0 := Try.underlying0
  a0 := Try.isAgg0
  z0 := Try.sizeOf0
  v0 := Try.zeroValue0
  t3 := Try.underlying3
  a3 := Try.isAgg3
  z3 := Try.sizeOf3
  v3 := Try.zeroValue3
  t4 := Try.underlying4
  a4 := Try.isAgg4
  z4 := Try.sizeOf4
  v4 := Try.zeroValue4
  t5 := Try.underlying5
  a5 := Try.isAgg5
  z5 := Try.sizeOf5
  v5 := Try.zeroValue5
  t9 := Try.underlying9
  a9 := Try.isAgg9
  z9 := Try.sizeOf9
  v9 := Try.zeroValue9
  t20 := Try.underlying20
  a20 := Try.isAgg20
  z20 := Try.sizeOf20
  v20 := Try.zeroValue20
  t37 := Try.underlying127
  a37 := Try.isAgg127
  z37 := Try.sizeOf127
  v37 := Try.zeroValue127
  t46 := Try.underlying116
  a46 := Try.isAgg116
  z46 := Try.sizeOf116
  v46 := Try.zeroValue116
  t51 := Try.underlying139
  a51 := Try.isAgg139
  z51 := Try.sizeOf139
  v51 := Try.zeroValue139
  t53 := Try.underlying100
  a53 := Try.isAgg100
  z53 := Try.sizeOf100
  v53 := Try.zeroValue100
  t70 := Try.underlying126
  a70 := Try.isAgg126
  z70 := Try.sizeOf126
  v70 := Try.zeroValue126
  t72 := Try.underlying129
  a72 := Try.isAgg129
  z72 := Try.sizeOf129
  v72 := Try.zeroValue129
  t75 := Try.underlying132
  a75 := Try.isAgg132
  z75 := Try.sizeOf132
  v75 := Try.zeroValue132
  t76 := Try.underlying133
  a76 := Try.isAgg133
  z76 := Try.sizeOf133
  v76 := Try.zeroValue133
  t109 := Try.underlying123
  a109 := Try.isAgg123
  z109 := Try.sizeOf123
  v109 := Try.zeroValue123
  t127 := Try.underlying159
  a127 := Try.isAgg159
  z127 := Try.sizeOf159
  v127 := Try.zeroValue159
  t146 := Try.underlying150
  a146 := Try.isAgg150
  z146 := Try.sizeOf150
  v146 := Try.zeroValue150
  t148 := Try.underlying109
  a148 := Try.isAgg109
  z148 := Try.sizeOf109
  v148 := Try.zeroValue109
  t164 := Try.underlying170
  a164 := Try.isAgg170
  z164 := Try.sizeOf170
  v164 := Try.zeroValue170 }
theorem Try.extraB : Go.Proofs.Builder.Extra Try.prog Try.lays105_ren := {
  sizeBuilder := by kernel_rfl
  liesBuilder := by kernel_rfl
  t5 := Try.underlying5
  a5 := Try.isAgg5
  z5 := Try.sizeOf5
  v5 := Try.zeroValue5
  infoByte := by kernel_rfl
  cellsByte := by kernel_rfl
  sizeByte := by kernel_rfl
  neB5 := by decide }
/-- strings.Repeat: that many copies, one behind the other. -/
theorem Try.strings_Repeat (s : ByteArray) (c : Nat) (w : World) (hc : c ≤ 9223372036854775807) (hlen : s.size * c ≤ 140737488355328) :
    Calls Try.prog 65 #[.string s, .int .i64 c] w fun e w' => e = .returned (.string ⟨(Lib.repeatL s.data.toList c).toArray⟩) ∧ Below w.heap.size w w' := Any.strings_Repeat Try.lays105 Try.extraB s c w hc hlen
end Go.Proofs
