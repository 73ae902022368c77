/- Statements about layer 4: zero, lengths. -/
import Derived.Test.YtjhknnioefipmaaRefJ
namespace Go.Proofs.Ytjhknnioefipmaa
open Go.RowKit
theorem zv_zero (w : World) : ZV w false none 0 0 0 := ⟨nv_zero w, (fun h => by cases h), fun _ => Int.le_refl _⟩
theorem fmt_val {b : Nat} (hb : 2 ≤ b) (x : Int) : x.natAbs < b ^ (fmtL b x).length := by
  have h1 := lt_pow_digs1 hb x.natAbs
  have h2 : (digs1 b x.natAbs).length ≤ (fmtL b x).length := by rw [fmtL_eq, List.length_append, List.length_reverse, List.length_map]; omega
  have h3 : b ^ (digs1 b x.natAbs).length ≤ b ^ (fmtL b x).length := Nat.pow_le_pow_right (by omega) h2
  omega
theorem bl_of_text {b : Nat} {s : ByteArray} {x : Int} (hb : 2 ≤ b) (hb2 : b ≤ 36) (h : bs s = fmtL b x) : bl x.natAbs ≤ 6 * s.size := by
  refine digs_len_le (by omega) ?_
  have h1 := fmt_val hb x
  rw [← h, bs_length] at h1
  have h2 : b ^ s.size ≤ 64 ^ s.size := Nat.pow_le_pow_left (by omega) _
  have h3 : (64 : Nat) ^ s.size = 2 ^ (6 * s.size) := by rw [Nat.pow_mul]
  omega
theorem dl_of_text {b : Nat} {s : ByteArray} {x : Int} (hb : 2 ≤ b) (hb2 : b ≤ 36) (h : bs s = fmtL b x) : dl x.natAbs ≤ s.size := by
  refine dl_le ?_
  have h1 := fmt_val hb x
  rw [← h, bs_length] at h1
  have h2 : b ^ s.size ≤ B32 ^ s.size := Nat.pow_le_pow_left (by unfold B32; omega) _
  omega
end Go.Proofs.Ytjhknnioefipmaa
