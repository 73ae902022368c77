/- The contract of strings.Cut, laid from the library's shelf in plain words. -/
import Derived.Shelf.Strings.Cut
import Derived.Shelf.Vars
import Derived.Test.YtfnmbhjifdfibaaProg
namespace Go.Proofs
open Go.Shelf
def Try.lays145_ren : Go.Shelf.Ren := ⟨fun | 145 => 90 | 217 => 154 | 219 => 139 | 220 => 119 | 224 => 156 | 225 => 155 | 266 => 158 | 267 => 157 | 314 => 159 | n => n,
  fun | 3 => 3 | 4 => 4 | 5 => 5 | 9 => 9 | 46 => 116 | 51 => 139 | 59 => 113 | 146 => 150 | n => n, fun | 1 => 0 | n => n⟩
theorem Try.lays145 : Go.Proofs.Lays.n145 Try.prog Try.lays145_ren := {
  mixed := by kernel_rfl
  f145 := Try.func90.trans (congrArg some (by kernel_rfl))
  f217 := Try.func154.trans (congrArg some (by kernel_rfl))
  f219 := Try.func139.trans (congrArg some (by kernel_rfl))
  f220 := Try.func119.trans (congrArg some (by kernel_rfl))
  f224 := Try.func156.trans (congrArg some (by kernel_rfl))
  f225 := Try.func155.trans (congrArg some (by kernel_rfl))
  f266 := Try.func158.trans (congrArg some (by kernel_rfl))
  f267 := Try.func157.trans (congrArg some (by kernel_rfl))
  f314 := Try.func159.trans (congrArg some (by kernel_rfl))
  t3 := Try.underlying3
  a3 := Try.isAgg3
  z3 := Try.sizeOf3
  v3 := Try.zeroValue3
  t4 := Try.underlying4
  a4 := Try.isAgg4
  z4 := Try.sizeOf4
  v4 := Try.zeroValue4
  t5 := Try.underlying5
  a5 := Try.isAgg5
  z5 := Try.sizeOf5
  v5 := Try.zeroValue5
  t9 := Try.underlying9
  a9 := Try.isAgg9
  z9 := Try.sizeOf9
  v9 := Try.zeroValue9
  t46 := Try.underlying116
  a46 := Try.isAgg116
  z46 := Try.sizeOf116
  v46 := Try.zeroValue116
  t51 := Try.underlying139
  a51 := Try.isAgg139
  z51 := Try.sizeOf139
  v51 := Try.zeroValue139
  t59 := Try.underlying113
  a59 := Try.isAgg113
  z59 := Try.sizeOf113
  v59 := Try.zeroValue113
  t146 := Try.underlying150
  a146 := Try.isAgg150
  z146 := Try.sizeOf150
  v146 := Try.zeroValue150
  g1 := by kernel_rfl }
/-- strings.Cut: the text before the first '/', the text behind it, and whether there is one; where the library's variable MaxLen holds some integer. -/
theorem Try.strings_Cut (s sep : ByteArray) (m : Int) (w : World) (hs : s.size < 4294967281) (hm : w.cell? ⟨0, 0, none⟩ = some (.int .i64 m)) :
    Calls Try.prog 90 #[.string s, .string sep] w fun e w' => e = .returned (.tuple #[.string ⟨(Lib.cut s.data.toList sep.data.toList).1.toArray⟩, .string ⟨(Lib.cut s.data.toList sep.data.toList).2.1.toArray⟩, .bool (Lib.cut s.data.toList sep.data.toList).2.2]) ∧ ∃ n, w' = w.drewN n := Any.strings_Cut Try.lays145 s sep m w hs hm
/-- What the world's shape gives: the variable holds some integer. -/
theorem Try.maxLen_at {w : World} (h : w.ShapedOpen Try.prog) : ∃ m, w.cell? ⟨0, 0, none⟩ = some (.int .i64 m) :=
  cell_of_shapedOpen_int (t := 3) (zero := #[.int .i64 0]) h (of_decide_eq_true (by kernel_rfl)) (by kernel_rfl) rfl (by kernel_rfl) (by kernel_rfl) Try.underlying3
end Go.Proofs
