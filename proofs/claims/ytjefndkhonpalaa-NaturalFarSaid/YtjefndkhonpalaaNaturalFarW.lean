/- The walk of NaturalFar. -/
import Derived.Test.YtjefndkhonpalaaNatG
namespace Go.Proofs.Ytjefndkhonpalaa
open Go.RowKit

theorem dl_of_bl (a : Nat) : dl a ≤ (bl a + 31) / 32 := by
  apply dl_le
  have h1 := lt_pow_len (B := 2) (by omega) a
  have h2 : B32 ^ ((bl a + 31) / 32) = 2 ^ (32 * ((bl a + 31) / 32)) := by rw [Nat.pow_mul]; rfl
  have h3 : 2 ^ bl a ≤ 2 ^ (32 * ((bl a + 31) / 32)) := Nat.pow_le_pow_right (by omega) (by omega)
  rw [h2]
  exact Nat.lt_of_lt_of_le h1 h3
theorem shl_far {w : World} {A : Option Addr} {c L a m : Nat} {n : Int} (h : NV w A c L a) (hs : dl a ≤ 17592186044416) (hn : 16777216 ≤ n) (hm : m = 16777216) :
    Calls Try.prog 31 #[.slice A L c, .int .i64 n] w (RetN w (a * 2 ^ m)) := by
  rcases Int.lt_or_le 16777216 n with h0 | h0
  · obtain ⟨ds, rfl, rfl, h3⟩ := h
    exact shl_big h3 hs hm h0
  · exact shl_v h hs h0 (by omega)

theorem naturalFar_walk {w : World} {n k : Nat} (hn : n < 65536) (hk : k < 65536) :
    Calls Try.prog 9 #[.int .u16 n, .int .u16 k] w fun e w' => e = .returned (.bool true) ∧ Ext w w' := by
  have hx := Ext.refl w
  obtain ⟨m, hm⟩ : ∃ m : Nat, m = 16777216 := ⟨_, rfl⟩
  have bn : bl n ≤ 16 := digs_len_le (by omega) (by omega)
  have dn : dl n ≤ 1 := by have := dl_of_bl n; omega
  have HO : Hid (∀ w, Calls Try.prog 28 #[.int .u64 n] w (RetN w n)) := fun w => of_any n (by omega)
  have HL : Hid (∀ (w : World) A c, NO w 0 A c n → Calls Try.prog 31 #[.slice A (digs B32 n).length c, .int .i64 (16777216 + (k : Int))] w (RetN w (n * 2 ^ m))) := fun w A c h => shl_far h.nv (by omega) (by omega) hm
  by_cases h0 : n = 0
  · obtain ⟨Y, hY⟩ : ∃ Y, Y = n * 2 ^ m := ⟨_, rfl⟩
    rw [← hY] at HL
    have hy0 : (Y == 0) = true := by rw [hY, h0, Nat.zero_mul]; rfl
    have hn0 : ((n : Int) == 0) = true := by simp [h0]
    clear hY h0 hm bn dn
    go_enter Try.func9, Try.ntmps9
    go_wp2_with fail
    refine (awake1 _).mono ?_
    rintro e w1 ⟨rfl, x1⟩
    have hx := hx.trans x1
    go_wp2_with fail
    refine (HO.out _).mono ?_
    rintro e w2 ⟨As1, cs1, rfl, s1, x2⟩
    have hx := hx.trans x2
    go_wp2_with fail
    refine (HL.out _ _ _ (Own.mono s1 (Nat.zero_le _))).mono ?_
    rintro e w3 ⟨As2, cs2, rfl, s2, x3⟩
    have hx := hx.trans x3
    have s1 := s1.ext x3
    go_wp2_with fail
    refine (isZero_v s2.nv).mono ?_
    rintro e w' ⟨rfl, rfl⟩
    rw [hy0]
    go_wp2_with fail
    go_ret
    exact ⟨rfl, hx⟩
  · obtain ⟨Y, hY⟩ : ∃ Y, Y = n * 2 ^ m := ⟨_, rfl⟩
    rw [← hY] at HL
    have hn0 : ((n : Int) == 0) = false := by simp; omega
    have hdiv : Y / 2 ^ m = n := by rw [hY]; exact Nat.mul_div_cancel _ (Nat.two_pow_pos m)
    have hb : bl Y = m + bl n := by rw [bl_div (a := Y) (k := m) (by rw [hdiv]; exact h0), hdiv]
    have hbe : ((bl Y : Int) == 16777216 + (bl n : Int)) = true := by simp; omega
    have bY : bl Y ≤ 16777232 := by omega
    have dY : dl Y ≤ 17592186044416 := by have := dl_of_bl Y; omega
    have HR : Hid (∀ (w : World) A c, NO w 0 A c Y → Calls Try.prog 33 #[.slice A (digs B32 Y).length c, .int .i64 ((bl Y : Int) + (k : Int))] w (RetN w 0)) := fun w A c h => by
      have := shr_v (n := (bl Y : Int) + (k : Int)) (m := bl Y + k) h.nv dY (by omega) (by omega)
      have hz : Y / 2 ^ (bl Y + k) = 0 := by
        apply Nat.div_eq_of_lt
        have h1 := lt_pow_len (B := 2) (by omega) Y
        have h2 : 2 ^ bl Y ≤ 2 ^ (bl Y + k) := Nat.pow_le_pow_right (by omega) (by omega)
        exact Nat.lt_of_lt_of_le h1 h2
      rwa [hz] at this
    have HBY : Hid (∀ (w : World) A c, NO w 0 A c Y → Calls Try.prog 35 #[.slice A (digs B32 Y).length c] w fun e w' => e = .returned (.int .i64 (bl Y)) ∧ w = w') := fun w A c h => bitLen_v h.nv dY
    have HBN : Hid (∀ (w : World) A c, NO w 0 A c n → Calls Try.prog 35 #[.slice A (digs B32 n).length c] w fun e w' => e = .returned (.int .i64 (bl n)) ∧ w = w') := fun w A c h => bitLen_v h.nv (by omega)
    clear hY h0 hm hdiv hb dn dY
    generalize bl Y = bY at *
    generalize bl n = bN at *
    go_enter Try.func9, Try.ntmps9
    go_wp2_with fail
    refine (awake1 _).mono ?_
    rintro e w1 ⟨rfl, x1⟩
    have hx := hx.trans x1
    go_wp2_with fail
    refine (HO.out _).mono ?_
    rintro e w2 ⟨As1, cs1, rfl, s1, x2⟩
    have hx := hx.trans x2
    go_wp2_with fail
    refine (HL.out _ _ _ (Own.mono s1 (Nat.zero_le _))).mono ?_
    rintro e w3 ⟨As2, cs2, rfl, s2, x3⟩
    have hx := hx.trans x3
    have s1 := s1.ext x3
    go_wp2_with fail
    refine (HBY.out _ _ _ (Own.mono s2 (Nat.zero_le _))).mono ?_
    rintro e w' ⟨rfl, rfl⟩
    go_wp2_with fail
    refine (HO.out _).mono ?_
    rintro e w4 ⟨As3, cs3, rfl, s3, x4⟩
    have hx := hx.trans x4
    have s1 := s1.ext x4
    have s2 := s2.ext x4
    go_wp2_with fail
    refine (HBN.out _ _ _ (Own.mono s3 (Nat.zero_le _))).mono ?_
    rintro e w' ⟨rfl, rfl⟩
    go_wp2_with fail
    refine (HBY.out _ _ _ (Own.mono s2 (Nat.zero_le _))).mono ?_
    rintro e w' ⟨rfl, rfl⟩
    go_wp2_with fail
    refine (HR.out _ _ _ (Own.mono s2 (Nat.zero_le _))).mono ?_
    rintro e w5 ⟨As4, cs4, rfl, s4, x5⟩
    have hx := hx.trans x5
    have s1 := s1.ext x5
    have s2 := s2.ext x5
    have s3 := s3.ext x5
    go_wp2_with fail
    refine (isZero_v s4.nv).mono ?_
    rintro e w' ⟨rfl, rfl⟩
    go_wp2_with fail
    go_ret
    exact ⟨rfl, hx⟩
end Go.Proofs.Ytjefndkhonpalaa
