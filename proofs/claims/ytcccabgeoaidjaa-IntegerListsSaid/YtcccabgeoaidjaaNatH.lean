/- Contracts of natural.Bit. -/
import Derived.Test.YtcccabgeoaidjaaNatG
namespace Go.Proofs.Ytcccabgeoaidjaa
open Go.RowKit

theorem and_one (x : Nat) (h : x < 4294967296) : bits BinOp.and IntKind.u32 (x : Int) 1 = ((x % 2 : Nat) : Int) := by
  have := u32_and_nat x 1 h (by omega)
  rw [show x &&& 1 = x % 2 from Nat.and_one_is_mod x] at this
  exact this

theorem bitN_zero_of_lenV {ds : List Nat} (hv : Valid B32 ds) {i : Nat} (h : ds.length ≤ i / 32) : bitN (V ds) i = 0 := by
  have h1 := val_lt hv
  have h2 : V ds < 2 ^ i := by
    refine Nat.lt_of_lt_of_le h1 ?_
    rw [show B32 = 2 ^ 32 from rfl, ← Nat.pow_mul]
    exact Nat.pow_le_pow_right (by omega) (by omega)
  unfold bitN
  rw [Nat.div_eq_of_lt h2]

theorem bit_any' {w : World} {A : Option Addr} {c i : Nat} {ds : List Nat} (h : NR w A c ds) (hi : i ≤ 9223372036854775807) :
    Calls Try.prog 51 #[.slice A ds.length c, .int .i64 i] w fun e w' => e = .returned (.int .i64 (bitN (V ds) i)) ∧ w = w' := by
  have hle := h.le
  have hcap := h.cap
  by_cases hlt : i / 32 < ds.length
  · obtain ⟨b, o, rfl, hb, hc⟩ := h.rd.at_ hlt
    have hx := valid_get h.valid _ hlt
    have HB : Hid (bitN (V ds) i = ds[i / 32] / 2 ^ (i % 32) % 2) := bitN_digit h.valid i hlt
    clear h
    generalize ds[i / 32] = x at *
    generalize ds.length = L at *
    have hx2 : x / 2 ^ (i % 32) < 4294967296 := Nat.lt_of_le_of_lt (Nat.div_le_self _ _) hx
    have HA : Hid (wrap64 (bits BinOp.and IntKind.u32 ((x : Int) / 2 ^ (i % 32)) 1) = ((x / 2 ^ (i % 32) % 2 : Nat) : Int)) := by
      show _ = _
      have h1 := and_one _ hx2
      rw [Int.natCast_ediv, Int.natCast_pow] at h1
      have h2 : wrap64 (((x / 2 ^ (i % 32) % 2 : Nat) : Int)) = ((x / 2 ^ (i % 32) % 2 : Nat) : Int) := IntWalk.wrap64_in _ (by omega)
      rw [← h2, ← h1]
      rfl
    go_enter Try.func51, Try.ntmps51
    go_wp2_with fail
    go_ret
    exact ⟨by rw [HB.out]; exact ret_int HA.out, rfl⟩
  · have hz := bitN_zero_of_lenV (i := i) h.valid (by omega)
    rw [hz]
    clear h hz
    generalize ds.length = L at *
    go_enter Try.func51, Try.ntmps51
    go_wp2_with fail
    go_ret
    exact ⟨rfl, rfl⟩
theorem bit_v {w : World} {A : Option Addr} {c L n i : Nat} (h : NV w A c L n) (hi : i ≤ 9223372036854775807) :
    Calls Try.prog 51 #[.slice A L c, .int .i64 i] w fun e w' => e = .returned (.int .i64 (bitN n i)) ∧ w = w' := by
  obtain ⟨ds, rfl, rfl, h3⟩ := h
  exact bit_any' h3 hi
theorem bit_neg {A : Option Addr} {c L : Nat} {i : Int} {w : World} (hi : i < 0) :
    Calls Try.prog 51 #[.slice A L c, .int .i64 i] w fun e w' => e = .returned (.int .i64 0) ∧ w = w' := by
  go_enter Try.func51, Try.ntmps51
  go_wp2_with fail
  go_ret
  exact ⟨rfl, rfl⟩
end Go.Proofs.Ytcccabgeoaidjaa
