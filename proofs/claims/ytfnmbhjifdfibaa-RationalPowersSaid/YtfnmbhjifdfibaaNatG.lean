/- Contracts of natural.BitLen. -/
import Derived.Test.YtfnmbhjifdfibaaShelf
import Derived.Test.YtfnmbhjifdfibaaRefE
import Derived.Test.YtfnmbhjifdfibaaNatF
namespace Go.Proofs.Ytfnmbhjifdfibaa
open Go.RowKit

theorem bitLenAux_digs : ∀ (f x : Nat), x < 2 ^ f → Lib.bitLenAux f x = (digs 2 x).length := by
  intro f
  induction f with
  | zero =>
    intro x h
    obtain rfl : x = 0 := by simpa using h
    rfl
  | succ f ih =>
    intro x h
    rw [Lib.bitLenAux]
    split
    · rename_i h0; subst h0; rfl
    · rename_i h0
      rw [digs_pos (by omega) h0, ih (x / 2) (by rw [Nat.pow_succ] at h; omega), List.length_cons, Nat.add_comm]
theorem bitLen_bl {x : Nat} (h : x < 4294967296) : Lib.bitLen x = bl x := bitLenAux_digs 64 x (by omega)
theorem bl_div {a k : Nat} (h : a / 2 ^ k ≠ 0) : bl a = k + bl (a / 2 ^ k) := by
  have h1 := congrArg List.length (down_digs a k)
  rw [List.length_drop] at h1
  have h2 : (digs 2 (a / 2 ^ k)).length ≠ 0 := fun h0 => h (by
    have := val_digs (B := 2) (by omega) (a / 2 ^ k)
    rw [List.eq_nil_of_length_eq_zero h0] at this
    exact this.symm)
  unfold bl
  omega
/-- The bits of a number by its highest digit. -/
theorem bl_top {a L : Nat} (hl : (digs B32 a).length = L + 1) : ∃ t, (digs B32 a)[L]? = some t ∧ t < 4294967296 ∧ bl a = 32 * L + bl t := by
  have hlt : L < (digs B32 a).length := by omega
  refine ⟨(digs B32 a)[L], List.getElem?_eq_getElem hlt, valid_get (valid_digs B32_two a) L hlt, ?_⟩
  have h1 := val_drop_div B32_two (valid_digs B32_two a) L
  rw [val_digs B32_two, val_drop B32 _ L hlt, List.drop_of_length_le (by omega), val_nil, Nat.mul_zero, Nat.add_zero] at h1
  have h2 : B32 ^ L = 2 ^ (32 * L) := by rw [Nat.pow_mul]; rfl
  rw [h2] at h1
  have h3 : (digs B32 a)[L] ≠ 0 := by
    intro h0
    apply getLast_digs B32_two a
    rw [List.getLast?_eq_getElem?, show (digs B32 a).length - 1 = L from by omega, List.getElem?_eq_getElem hlt, h0]
  rw [bl_div (k := 32 * L) (by rw [← h1]; exact h3), ← h1]

theorem bitLen_any {w : World} {A : Option Addr} {c : Nat} {ds : List Nat} (h : NR w A c ds) (hs : dl (V ds) ≤ 17592186044416) :
    Calls Try.prog 86 #[.slice A ds.length c] w fun e w' => e = .returned (.int .i64 (bl (V ds))) ∧ w = w' := by
  have ht := trim_nr h
  have hn := h.trim
  clear h
  unfold dl at hs
  have hz := len_zero (V ds)
  generalize V ds = a at *
  by_cases h0 : a = 0
  · subst h0
    go_enter Try.func86, Try.ntmps86
    go_wp2_with fail
    refine ht.mono ?_
    rintro e w' ⟨rfl, rfl⟩
    go_wp2_with fail
    go_ret
    exact ⟨rfl, rfl⟩
  · have hz1 : (((digs B32 a).length : Int) == 0) = false := by rw [hz]; simpa using h0
    have hp : 0 < (digs B32 a).length := by
      rcases Nat.eq_zero_or_pos (digs B32 a).length with h | h
      · rw [h] at hz1; simp at hz1
      · exact h
    obtain ⟨L, hL⟩ : ∃ L, (digs B32 a).length = L + 1 := ⟨(digs B32 a).length - 1, by omega⟩
    obtain ⟨t, hgt, htb, hbl⟩ := bl_top hL
    have HB : Hid (bl a = 32 * L + bl t) := hbl
    have hbt : bl t ≤ 32 := digs_len_le (by omega) (by omega)
    obtain ⟨hlt, hge⟩ := List.getElem?_eq_some_iff.1 hgt
    obtain ⟨b, o, rfl, hb, hcell⟩ := hn.rd.at_ hlt
    rw [hge] at hcell
    have HLn : Hid (∀ w : World, Calls Try.prog 118 #[.int .u32 (t : Int)] w fun e w' => e = .returned (.int .i64 (bl t)) ∧ w' = w) := fun w => by
      have := Try.bits_Len32 t w (by omega) (by omega)
      rwa [Int.toNat_natCast, bitLen_bl htb] at this
    rw [hL] at ht hs
    clear hn hz hz1 hp hbl hgt hlt hge hL h0
    generalize bl t = bt at *
    generalize bl a = ba at *
    go_enter Try.func86, Try.ntmps86
    go_wp2_with fail
    refine ht.mono ?_
    rintro e w' ⟨rfl, rfl⟩
    go_wp2_with fail
    refine (HLn.out _).mono ?_
    rintro e w' ⟨rfl, rfl⟩
    go_wp2_with fail
    go_ret
    exact ⟨by rw [HB.out]; congr 2, rfl⟩
theorem bitLen_v {w : World} {A : Option Addr} {c L a : Nat} (h : NV w A c L a) (hs : dl a ≤ 17592186044416) :
    Calls Try.prog 86 #[.slice A L c] w fun e w' => e = .returned (.int .i64 (bl a)) ∧ w = w' := by
  obtain ⟨ds, rfl, rfl, h3⟩ := h
  exact bitLen_any h3 hs
end Go.Proofs.Ytfnmbhjifdfibaa
