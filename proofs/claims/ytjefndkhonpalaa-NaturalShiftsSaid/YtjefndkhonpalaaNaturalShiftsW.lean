/- The walk of NaturalShifts. -/
import Derived.Test.YtjefndkhonpalaaNatF
import Derived.Test.YtjefndkhonpalaaRefE
namespace Go.Proofs.Ytjefndkhonpalaa
open Go.RowKit

theorem bl_shl (a m : Nat) : bl (a * 2 ^ m) ≤ bl a + m := by
  apply digs_len_le (by omega)
  have := lt_pow_len (B := 2) (by omega) a
  rw [Nat.pow_add]
  exact Nat.mul_lt_mul_of_pos_right this (Nat.two_pow_pos m)
theorem bl_shr (a m : Nat) : bl (a / 2 ^ m) ≤ bl a := bl_mono (Nat.div_le_self _ _)

theorem naturalShifts_walk {w : World} {A1 : Option Addr} {c1 L1 a : Nat} {n : Int} (h1 : NV w A1 c1 L1 a) (hn : -9223372036854775808 ≤ n ∧ n ≤ 9223372036854775807) :
    Calls Try.prog 8 #[.slice A1 L1 c1, .int .i64 n] w fun e w' => e = .returned (.bool true) ∧ Ext w w' := by
  have l1 := h1.le
  have p1 := h1.cap
  have hx := Ext.refl w
  obtain ⟨hn1, hn2⟩ := hn
  by_cases hf : decide (L1 ≤ 20) = true
  · have k1 : L1 ≤ 20 := by simpa using hf
    have s1 := h1.dl
    have b1 := h1.bl
    have HF := Lib.hid hf
    clear hf
    rcases Int.lt_or_le 3000 n with hbig | hsm
    · go_enter Try.func8, Try.ntmps8
      go_wp2_with fail
      refine (awake1 _).mono ?_
      rintro e w1 ⟨rfl, x1⟩
      have hx := hx.trans x1
      go_wp2_with fail
      refine (few1 (by omega)).mono ?_
      rintro e w2 ⟨rfl, x2⟩
      have hx := hx.trans x2
      rw [HF.out]
      go_wp2_with fail
      refine (awake1 _).mono ?_
      rintro e w3 ⟨rfl, x3⟩
      have hx := hx.trans x3
      go_wp2_with fail
      go_ret
      exact ⟨rfl, hx⟩

    · have hL : Hid (∀ (w : World) (m : Nat), NV w A1 c1 L1 a → m = n.toNat → Calls Try.prog 31 #[.slice A1 L1 c1, .int .i64 n] w (RetN w (a * 2 ^ m))) := fun w m h he => shl_v h (by omega) (by omega) he
      have hR : Hid (∀ (w : World) (m : Nat), NV w A1 c1 L1 a → m = n.toNat → Calls Try.prog 33 #[.slice A1 L1 c1, .int .i64 n] w (RetN w (a / 2 ^ m))) := fun w m h he => shr_v h (by omega) (by omega) he
      rcases Int.lt_or_le n 0 with h0 | h0
      · have b2 := bl_shl a 0
        have b3 := bl_shr a 0
        have hU0 : Hid (∀ (w : World) A c, BN w A c a → Calls Try.prog 32 #[.slice A (digs 2 a).length c, .int .i64 0] w (RetB w a)) := fun w A c h => by
          have := up_any (m := 0) h (by omega) (by omega)
          rwa [Nat.pow_zero, Nat.mul_one] at this
        have hD0 : Hid (∀ (w : World) A c, BN w A c a → Calls Try.prog 34 #[.slice A (digs 2 a).length c, .int .i64 0] w (RetB w a)) := fun w A c h => by
          have := down_any (m := 0) h
          rwa [Nat.pow_zero, Nat.div_one] at this
        have hL0 : Hid (∀ (w : World), NV w A1 c1 L1 a → Calls Try.prog 31 #[.slice A1 L1 c1, .int .i64 n] w (RetN w a)) := fun w h => by
          have := hL.out w 0 h (by omega)
          rwa [Nat.pow_zero, Nat.mul_one] at this
        have hR0 : Hid (∀ (w : World), NV w A1 c1 L1 a → Calls Try.prog 33 #[.slice A1 L1 c1, .int .i64 n] w (RetN w a)) := fun w h => by
          have := hR.out w 0 h (by omega)
          rwa [Nat.pow_zero, Nat.div_one] at this
        go_enter Try.func8, Try.ntmps8
        go_wp2_with fail
        refine (awake1 _).mono ?_
        rintro e w1 ⟨rfl, x1⟩
        have hx := hx.trans x1
        have h1 := h1.ext x1
        go_wp2_with fail
        refine (few1 (by omega)).mono ?_
        rintro e w2 ⟨rfl, x2⟩
        have hx := hx.trans x2
        have h1 := h1.ext x2
        rw [HF.out]
        go_wp2_with fail
        refine (rof_v h1 (by omega)).mono ?_
        rintro e w3 ⟨Ag1, cg1, rfl, g1, x3⟩
        have hx := hx.trans x3
        have h1 := h1.ext x3
        go_wp2_with fail
        refine (hL0.out _ h1).mono ?_
        rintro e w4 ⟨As1, cs1, rfl, s1, x4⟩
        have hx := hx.trans x4
        have h1 := h1.ext x4
        have g1 := g1.ext x4
        go_wp2_with fail
        refine (hU0.out _ _ _ g1).mono ?_
        rintro e w5 ⟨Ag2, cg2, rfl, g2, x5⟩
        have hx := hx.trans x5
        have h1 := h1.ext x5
        have g1 := g1.ext x5
        have s1 := s1.ext x5
        go_wp2_with fail
        refine (is_yes s1 g2 rfl (by omega)).mono ?_
        rintro e w6 ⟨rfl, x6⟩
        have hx := hx.trans x6
        have h1 := h1.ext x6
        have g1 := g1.ext x6
        have s1 := s1.ext x6
        have g2 := g2.ext x6
        go_wp2_with fail
        refine (hR0.out _ h1).mono ?_
        rintro e w7 ⟨As2, cs2, rfl, s2, x7⟩
        have hx := hx.trans x7
        have h1 := h1.ext x7
        have g1 := g1.ext x7
        have s1 := s1.ext x7
        have g2 := g2.ext x7
        go_wp2_with fail
        refine (hD0.out _ _ _ g1).mono ?_
        rintro e w8 ⟨Ag3, cg3, rfl, g3, x8⟩
        have hx := hx.trans x8
        have h1 := h1.ext x8
        have g1 := g1.ext x8
        have s1 := s1.ext x8
        have g2 := g2.ext x8
        have s2 := s2.ext x8
        go_wp2_with fail
        refine (is_yes s2 g3 rfl (by omega)).mono ?_
        rintro e w9 ⟨rfl, x9⟩
        have hx := hx.trans x9
        have h1 := h1.ext x9
        have g1 := g1.ext x9
        have s1 := s1.ext x9
        have g2 := g2.ext x9
        have s2 := s2.ext x9
        have g3 := g3.ext x9
        go_wp2_with fail
        go_ret
        exact ⟨rfl, hx⟩

      · obtain ⟨m, rfl⟩ : ∃ k : Nat, n = k := ⟨n.toNat, by omega⟩
        have b2 := bl_shl a m
        have b3 := bl_shr a m
        go_enter Try.func8, Try.ntmps8
        go_wp2_with fail
        refine (awake1 _).mono ?_
        rintro e w1 ⟨rfl, x1⟩
        have hx := hx.trans x1
        have h1 := h1.ext x1
        go_wp2_with fail
        refine (few1 (by omega)).mono ?_
        rintro e w2 ⟨rfl, x2⟩
        have hx := hx.trans x2
        have h1 := h1.ext x2
        rw [HF.out]
        go_wp2_with fail
        refine (rof_v h1 (by omega)).mono ?_
        rintro e w3 ⟨Ag1, cg1, rfl, g1, x3⟩
        have hx := hx.trans x3
        have h1 := h1.ext x3
        go_wp2_with fail
        refine (hL.out _ m h1 (by omega)).mono ?_
        rintro e w4 ⟨As1, cs1, rfl, s1, x4⟩
        have hx := hx.trans x4
        have h1 := h1.ext x4
        have g1 := g1.ext x4
        go_wp2_with fail
        refine (up_any (m := m) g1 (by omega) (by omega)).mono ?_
        rintro e w5 ⟨Ag2, cg2, rfl, g2, x5⟩
        have hx := hx.trans x5
        have h1 := h1.ext x5
        have g1 := g1.ext x5
        have s1 := s1.ext x5
        go_wp2_with fail
        refine (is_yes s1 g2 rfl (by omega)).mono ?_
        rintro e w6 ⟨rfl, x6⟩
        have hx := hx.trans x6
        have h1 := h1.ext x6
        have g1 := g1.ext x6
        have s1 := s1.ext x6
        have g2 := g2.ext x6
        go_wp2_with fail
        refine (hR.out _ m h1 (by omega)).mono ?_
        rintro e w7 ⟨As2, cs2, rfl, s2, x7⟩
        have hx := hx.trans x7
        have h1 := h1.ext x7
        have g1 := g1.ext x7
        have s1 := s1.ext x7
        have g2 := g2.ext x7
        go_wp2_with fail
        refine (down_any (m := m) g1).mono ?_
        rintro e w8 ⟨Ag3, cg3, rfl, g3, x8⟩
        have hx := hx.trans x8
        have h1 := h1.ext x8
        have g1 := g1.ext x8
        have s1 := s1.ext x8
        have g2 := g2.ext x8
        have s2 := s2.ext x8
        go_wp2_with fail
        refine (is_yes s2 g3 rfl (by omega)).mono ?_
        rintro e w9 ⟨rfl, x9⟩
        have hx := hx.trans x9
        have h1 := h1.ext x9
        have g1 := g1.ext x9
        have s1 := s1.ext x9
        have g2 := g2.ext x9
        have s2 := s2.ext x9
        have g3 := g3.ext x9
        go_wp2_with fail
        go_ret
        exact ⟨rfl, hx⟩

  · have hf' : decide (L1 ≤ 20) = false := by simpa using hf
    have HF := Lib.hid hf'
    clear hf hf'
    go_enter Try.func8, Try.ntmps8
    go_wp2_with fail
    refine (awake1 _).mono ?_
    rintro e w1 ⟨rfl, x1⟩
    have hx := hx.trans x1
    go_wp2_with fail
    refine (few1 (by omega)).mono ?_
    rintro e w2 ⟨rfl, x2⟩
    have hx := hx.trans x2
    rw [HF.out]
    go_wp2_with fail
    refine (awake1 _).mono ?_
    rintro e w3 ⟨rfl, x3⟩
    have hx := hx.trans x3
    go_wp2_with fail
    go_ret
    exact ⟨rfl, hx⟩
end Go.Proofs.Ytjefndkhonpalaa
