/- Statements about layer 1 (natural numbers), first part: the law's own helpers. -/
import Derived.Test.YtfnmbhjifdfibaaRefB
import Derived.Test.YtfnmbhjifdfibaaNatC
namespace Go.Proofs.Ytfnmbhjifdfibaa
open Go.RowKit

theorem digs_lit {ds : List Nat} {n : Nat} (hv : Valid B32 ds) (hl : ds.getLast? ≠ some 0) (hn : val B32 ds = n) : digs B32 n = ds := by
  rw [← hn]; exact digs_of_val B32_two hv hl
theorem dl_lit {ds : List Nat} {n : Nat} (hv : Valid B32 ds) (hl : ds.getLast? ≠ some 0) (hn : val B32 ds = n) : dl n = ds.length := by
  unfold dl; rw [digs_lit hv hl hn]

theorem few2 {w : World} {n n1 n2 c1 c2 : Nat} {A1 A2 : Option Addr} (h1 : n1 ≤ 9223372036854775807) (h2 : n2 ≤ 9223372036854775807) :
    Calls Try.prog 17 #[.int .i64 n, .slice (some ⟨w.heap.size, 0, none⟩) 2 2] (w.alloc (.cells #[.slice A1 n1 c1, .slice A2 n2 c2] 22))
      fun e w' => e = .returned (.bool (decide (n1 ≤ n) && decide (n2 ≤ n))) ∧ Ext w w' := by
  have := few_any (w := w.alloc (.cells #[.slice A1 n1 c1, .slice A2 n2 c2] 22)) (g := w.heap.size) (n := n) (c := 2) [n1, n2] (by
    intro j hj
    match j, hj with
    | 0, _ => exact ⟨A1, c1, by simp⟩
    | 1, _ => exact ⟨A2, c2, by simp⟩) (by simp) (by simp; omega)
  refine this.mono ?_
  rintro e w' ⟨rfl, rfl⟩
  exact ⟨by simp, Ext.alloc _ _⟩
theorem few1 {w : World} {n n1 c1 : Nat} {A1 : Option Addr} (h1 : n1 ≤ 9223372036854775807) :
    Calls Try.prog 17 #[.int .i64 n, .slice (some ⟨w.heap.size, 0, none⟩) 1 1] (w.alloc (.cells #[.slice A1 n1 c1] 22))
      fun e w' => e = .returned (.bool (decide (n1 ≤ n))) ∧ Ext w w' := by
  have := few_any (w := w.alloc (.cells #[.slice A1 n1 c1] 22)) (g := w.heap.size) (n := n) (c := 1) [n1] (by
    intro j hj
    match j, hj with
    | 0, _ => exact ⟨A1, c1, by simp⟩) (by simp) (by simpa using h1)
  refine this.mono ?_
  rintro e w' ⟨rfl, rfl⟩
  exact ⟨by simp, Ext.alloc _ _⟩
theorem few3 {w : World} {n n1 n2 n3 c1 c2 c3 : Nat} {A1 A2 A3 : Option Addr} (h1 : n1 ≤ 9223372036854775807) (h2 : n2 ≤ 9223372036854775807) (h3 : n3 ≤ 9223372036854775807) :
    Calls Try.prog 17 #[.int .i64 n, .slice (some ⟨w.heap.size, 0, none⟩) 3 3] (w.alloc (.cells #[.slice A1 n1 c1, .slice A2 n2 c2, .slice A3 n3 c3] 22))
      fun e w' => e = .returned (.bool (decide (n1 ≤ n) && (decide (n2 ≤ n) && decide (n3 ≤ n)))) ∧ Ext w w' := by
  have := few_any (w := w.alloc (.cells #[.slice A1 n1 c1, .slice A2 n2 c2, .slice A3 n3 c3] 22)) (g := w.heap.size) (n := n) (c := 3) [n1, n2, n3] (by
    intro j hj
    match j, hj with
    | 0, _ => exact ⟨A1, c1, by simp⟩
    | 1, _ => exact ⟨A2, c2, by simp⟩
    | 2, _ => exact ⟨A3, c3, by simp⟩) (by simp) (by simp; omega)
  refine this.mono ?_
  rintro e w' ⟨rfl, rfl⟩
  exact ⟨by simp, Ext.alloc _ _⟩

theorem len_V {ds : List Nat} (h : Valid B32 ds) : dl (V ds) ≤ ds.length := by
  unfold dl; rw [← trim_V h]; exact trimL_le ds
theorem bl_V {ds : List Nat} (h : Valid B32 ds) : bl (V ds) ≤ 32 * ds.length := by
  unfold bl
  apply digs_len_le (by omega)
  have := val_lt h
  rwa [show B32 = 2 ^ 32 from rfl, ← Nat.pow_mul] at this
theorem bl_add (a b : Nat) : bl (a + b) ≤ max (bl a) (bl b) + 1 := digs_len_add (by omega) a b
theorem bl_mul (a b : Nat) : bl (a * b) ≤ bl a + bl b := digs_len_mul (by omega) a b
theorem bl_mono {a b : Nat} (h : a ≤ b) : bl a ≤ bl b := digs_len_mono (by omega) h
theorem dl_add (a b : Nat) : dl (a + b) ≤ max (dl a) (dl b) + 1 := digs_len_add B32_two a b
theorem dl_mul (a b : Nat) : dl (a * b) ≤ dl a + dl b := digs_len_mul B32_two a b
theorem dl_mono {a b : Nat} (h : a ≤ b) : dl a ≤ dl b := digs_len_mono B32_two h

/-- What 'Is' says where the digits are those of the number. -/
theorem is_yes {w : World} {B : Nat} {A1 A2 : Option Addr} {c1 c2 n m : Nat} (h1 : NO w B A1 c1 n) (h2 : BN w A2 c2 m) (hnm : n = m) (hs : bl m ≤ 8796093022208) :
    Calls Try.prog 80 #[.slice A1 (digs B32 n).length c1, .slice A2 (digs 2 m).length c2] w fun e w' => e = .returned (.bool true) ∧ Ext w w' := by
  subst hnm
  refine (is_any h1.nr h2 hs).mono ?_
  rintro e w' ⟨rfl, hx⟩
  exact ⟨by simp, hx⟩

theorem len_zero2 (n : Nat) : (((digs 2 n).length : Int) == 0) = (n == 0) := by
  rw [Bool.eq_iff_iff]
  simp [digs_eq_nil (B := 2) (by omega)]
theorem cmpN_ge {a b : Nat} (h : b ≤ a) : 0 ≤ cmpN a b := by unfold cmpN; rw [if_neg (by omega)]; split <;> omega

end Go.Proofs.Ytfnmbhjifdfibaa
