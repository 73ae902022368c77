/- The contracts of natural.Shl and Shr over slices of any length with a value, for every int. -/
import Derived.Test.YtfnmbhjifdfibaaNatE
import Derived.Test.YtfnmbhjifdfibaaNatV
namespace Go.Proofs.Ytfnmbhjifdfibaa
open Go.RowKit

theorem RetN.nil {w : World} {e : Ending} {w' : World} (h : e = .returned (.slice none 0 0) ∧ w = w') : RetN w 0 e w' := by
  obtain ⟨rfl, rfl⟩ := h
  exact ⟨none, 0, rfl, Own.none_ _ _ _ _, Ext.refl _⟩
theorem shl_v {w : World} {A : Option Addr} {c L a m : Nat} {n : Int} (h : NV w A c L a) (hs : dl a ≤ 17592186044416) (hn : n ≤ 16777216) (hm : m = n.toNat) :
    Calls Try.prog 95 #[.slice A L c, .int .i64 n] w (RetN w (a * 2 ^ m)) := by
  obtain ⟨ds, rfl, rfl, h3⟩ := h
  rcases Int.lt_or_le n 0 with h0 | h0
  · exact shl_neg h3 hs (by omega) h0
  · obtain ⟨k, rfl⟩ : ∃ k : Nat, n = k := ⟨n.toNat, by omega⟩
    obtain rfl : m = k := by omega
    exact shl_nat h3 hs (by omega)
theorem shr_v {w : World} {A : Option Addr} {c L a m : Nat} {n : Int} (h : NV w A c L a) (hs : dl a ≤ 17592186044416) (hn : n ≤ 4611686018427387904) (hm : m = n.toNat) :
    Calls Try.prog 147 #[.slice A L c, .int .i64 n] w (RetN w (a / 2 ^ m)) := by
  obtain ⟨ds, rfl, rfl, h3⟩ := h
  rcases Int.lt_or_le n 0 with h0 | h0
  · obtain rfl : m = 0 := by omega
    rw [Nat.pow_zero, Nat.div_one]
    rcases Nat.eq_zero_or_pos (V ds) with hz | hz
    · rw [hz]
      exact (shr_neg0 h3 h0 hz).mono fun _ _ h => RetN.nil h
    · refine shr_neg h3 hs h0 ?_
      rcases Nat.eq_zero_or_pos (dl (V ds)) with h1 | h1
      · have h2 := lt_pow_len B32_two (V ds)
        unfold dl at h1
        rw [h1] at h2
        simp at h2; omega
      · exact h1
  · obtain ⟨k, rfl⟩ : ∃ k : Nat, n = k := ⟨n.toNat, by omega⟩
    obtain rfl : m = k := by omega
    rcases Nat.lt_or_ge (m / 32) (dl (V ds)) with hl | hl
    · exact shr_any h3 hs (by omega) hl
    · have hz : V ds / 2 ^ m = 0 := by
        apply Nat.div_eq_of_lt
        have h1 := lt_pow_len B32_two (V ds)
        have h2 : B32 ^ (digs B32 (V ds)).length = 2 ^ (32 * dl (V ds)) := by rw [Nat.pow_mul]; rfl
        have h4 : 2 ^ (32 * dl (V ds)) ≤ 2 ^ m := Nat.pow_le_pow_right (by omega) (by omega)
        omega
      rw [hz]
      exact (shr_far h3 (by omega) hl).mono fun _ _ h => RetN.nil h
end Go.Proofs.Ytfnmbhjifdfibaa
