/- Contracts of natural.Shl, BitLen, Bit. -/
import Derived.Test.YtjhknnioefipmaaNatD
namespace Go.Proofs.Ytjhknnioefipmaa
open Go.RowKit

/-- The head of a round of 'Shl': q whole digits, s bits; the digits so far. -/
def ShlInv (w wr : World) (g i q s : Nat) (da : List Nat) : Prop :=
  ∃ zs, Row wr g .u32 69 zs ∧ zs.length = q + da.length + 1 ∧ Valid B32 zs ∧ val B32 (zs.take (q + i + 1)) = B32 ^ q * (val B32 (da.take i) * 2 ^ s) ∧
    (∃ old, zs[q + i]? = some old ∧ old < 2 ^ s) ∧ zs.drop (q + i + 1) = List.replicate (da.length - i) 0 ∧ Ext w wr

theorem ShlInv.old_ {w wr : World} {g i q s : Nat} {da : List Nat} (h : ShlInv w wr g i q s da) (hi : i < da.length) :
    ∃ old z : Nat, wr.cell? ⟨g, q + i, none⟩ = some (.int .u32 (old : Nat)) ∧ wr.frozen? ⟨g, q + i, none⟩ = false ∧ old < 2 ^ s ∧
      wr.cell? ⟨g, q + (i + 1), none⟩ = some (.int .u32 (z : Nat)) ∧ wr.frozen? ⟨g, q + (i + 1), none⟩ = false ∧ g < wr.heap.size ∧
      ∀ x low hi' : Nat, s < 32 → x = da[i] → x < 4294967296 → w.heap.size ≤ g → low = x * 2 ^ s % 4294967296 → hi' = x * 2 ^ s / 4294967296 →
        ShlInv w ((wr.setCell ⟨g, q + i, none⟩ (.int .u32 ((old + low : Nat) : Int))).setCell ⟨g, q + (i + 1), none⟩ (.int .u32 (hi' : Int))) g (i + 1) q s da := by
  obtain ⟨zs, hz, hl, hv, he, ⟨old, ho, hos⟩, hd, hext⟩ := h
  have hk : q + i < zs.length := by omega
  have hk1 : q + i + 1 < zs.length := by omega
  rw [show q + (i + 1) = q + i + 1 from by omega]
  have hoe : zs[q + i] = old := by rw [List.getElem?_eq_getElem hk] at ho; injection ho
  refine ⟨old, zs[q + i + 1], by rw [← hoe]; exact hz.cell hk, hz.frozen _, hos, hz.cell hk1, hz.frozen _, hz.lt, ?_⟩
  intro x low hi' hs hxe hx hg hlow hhi
  obtain ⟨_, hlt, hhs, _⟩ := shl_digit hs hx hos
  have hB : B32 = 4294967296 := rfl
  have hdm : low + B32 * hi' = x * 2 ^ s := by rw [hlow, hhi, hB]; exact Nat.mod_add_div _ _
  have h31 : 2 ^ s ≤ 2 ^ 31 := Nat.pow_le_pow_right (by omega) (by omega)
  refine ⟨(zs.set (q + i) (old + low)).set (q + i + 1) hi', (hz.set_ _ _).set_ _ _, by simpa using hl, valid_set (valid_set hv _ _ (by rw [hlow, hB]; exact hlt)) _ _ (by rw [hhi, hB]; omega), ?_, ⟨hi', ?_, by rw [hhi]; exact hhs⟩, ?_, Below.setCell (Below.setCell hext (p := ⟨g, q + i, none⟩) hg _) (p := ⟨g, q + i + 1, none⟩) hg _⟩
  · rw [show q + (i + 1) + 1 = q + i + 1 + 1 from by omega, val_set B32 (by simpa using hk1), val_set B32 hk, val_take_succ B32 da i hi, ← hxe, Nat.pow_succ]
    have h0 : val B32 (zs.take (q + i)) + B32 ^ (q + i) * old = B32 ^ q * (val B32 (da.take i) * 2 ^ s) := by
      rw [← he, val_take_succ B32 zs (q + i) hk, hoe]
    have h1 := shl_math (B := B32) (P := B32 ^ (q + i)) (x := x) (t := 2 ^ s) h0 hdm
    rw [h1, Nat.add_mul, Nat.mul_add, Nat.pow_add, Nat.mul_assoc (B32 ^ q), Nat.mul_assoc (B32 ^ i)]
  · rw [show q + (i + 1) = q + i + 1 from by omega, List.getElem?_set_self (by simpa using hk1)]
  · rw [show q + (i + 1) + 1 = q + i + 1 + 1 from by omega, List.drop_set_of_lt (by omega), List.drop_set_of_lt (by omega)]
    have h1 := congrArg (List.drop 1) hd
    rw [List.drop_drop, List.drop_replicate] at h1
    rw [h1]
    congr 1
theorem shl_zero (L k q s : Nat) (da : List Nat) : val B32 ((List.replicate L 0).take k) = B32 ^ q * (val B32 (da.take 0) * 2 ^ s) := by
  rw [List.take_replicate, val_replicate, List.take_zero, val_nil, Nat.zero_mul, Nat.mul_zero]
theorem shl_pow (q s m a : Nat) (h : 32 * q + s = m) : B32 ^ q * (a * 2 ^ s) = a * 2 ^ m := by
  have e1 : B32 ^ q = 2 ^ (32 * q) := by rw [Nat.pow_mul]; rfl
  rw [e1, Nat.mul_left_comm, ← Nat.pow_add, h]

end Go.Proofs.Ytjhknnioefipmaa
