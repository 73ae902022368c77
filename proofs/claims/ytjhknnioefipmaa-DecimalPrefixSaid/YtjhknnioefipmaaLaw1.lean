/- Statements about layer 1 (natural numbers), first part: the law's own helpers. -/
import Derived.Test.YtjhknnioefipmaaRefB
import Derived.Test.YtjhknnioefipmaaNatC
namespace Go.Proofs.Ytjhknnioefipmaa
open Go.RowKit

theorem digs_lit {ds : List Nat} {n : Nat} (hv : Valid B32 ds) (hl : ds.getLast? ≠ some 0) (hn : val B32 ds = n) : digs B32 n = ds := by
  rw [← hn]; exact digs_of_val B32_two hv hl
theorem dl_lit {ds : List Nat} {n : Nat} (hv : Valid B32 ds) (hl : ds.getLast? ≠ some 0) (hn : val B32 ds = n) : dl n = ds.length := by
  unfold dl; rw [digs_lit hv hl hn]

theorem len_V {ds : List Nat} (h : Valid B32 ds) : dl (V ds) ≤ ds.length := by
  unfold dl; rw [← trim_V h]; exact trimL_le ds
theorem bl_V {ds : List Nat} (h : Valid B32 ds) : bl (V ds) ≤ 32 * ds.length := by
  unfold bl
  apply digs_len_le (by omega)
  have := val_lt h
  rwa [show B32 = 2 ^ 32 from rfl, ← Nat.pow_mul] at this
theorem bl_add (a b : Nat) : bl (a + b) ≤ max (bl a) (bl b) + 1 := digs_len_add (by omega) a b
theorem bl_mul (a b : Nat) : bl (a * b) ≤ bl a + bl b := digs_len_mul (by omega) a b
theorem bl_mono {a b : Nat} (h : a ≤ b) : bl a ≤ bl b := digs_len_mono (by omega) h
theorem dl_add (a b : Nat) : dl (a + b) ≤ max (dl a) (dl b) + 1 := digs_len_add B32_two a b
theorem dl_mul (a b : Nat) : dl (a * b) ≤ dl a + dl b := digs_len_mul B32_two a b
theorem dl_mono {a b : Nat} (h : a ≤ b) : dl a ≤ dl b := digs_len_mono B32_two h

/-- What 'Is' says where the digits are those of the number. -/
theorem is_yes {w : World} {B : Nat} {A1 A2 : Option Addr} {c1 c2 n m : Nat} (h1 : NO w B A1 c1 n) (h2 : BN w A2 c2 m) (hnm : n = m) (hs : bl m ≤ 8796093022208) :
    Calls Try.prog 60 #[.slice A1 (digs B32 n).length c1, .slice A2 (digs 2 m).length c2] w fun e w' => e = .returned (.bool true) ∧ Ext w w' := by
  subst hnm
  refine (is_any h1.nr h2 hs).mono ?_
  rintro e w' ⟨rfl, hx⟩
  exact ⟨by simp, hx⟩

theorem len_zero2 (n : Nat) : (((digs 2 n).length : Int) == 0) = (n == 0) := by
  rw [Bool.eq_iff_iff]
  simp [digs_eq_nil (B := 2) (by omega)]
theorem cmpN_ge {a b : Nat} (h : b ≤ a) : 0 ≤ cmpN a b := by unfold cmpN; rw [if_neg (by omega)]; split <;> omega

end Go.Proofs.Ytjhknnioefipmaa
